/- Parts of the proof; the first: Small things that the laws of the engines call: which programs are looked at; how many transactions. Conditions: those of each theorem, as typed. -/
import Derived.Test.YtkfhgifhfkcehaaGreatDoorQC18
import Derived.Test.YtkfhgifhfkcehaaGreatDoorQC02
import Derived.Test.YtkfhgifhfkcehaaGreatDoorQC10
import Derived.Deep.LoopGhost
import Derived.Test.YtkfhgifhfkcehaaGreatDoorQC17
set_option linter.unusedVariables false
set_option linter.unusedSimpArgs false
set_option linter.unusedSectionVars false
set_option maxRecDepth 100000
set_option maxHeartbeats 4000000
namespace Go.Proofs.YtkfhgifhfkcehaaGreatDoor
open Go.Maps Go.RowKit
section
attribute [local irreducible] xL
def SmallRet (P:Pg) (w:World) (e:Ending) (w':World):Prop:=∃b:Bool,e=.returned (.bool b)/\(b=true->P.threads.length<=20)/\Below w.heap.size w w'
theorem l_small19 (vc vt:Value) (P:Pg) (w:World) (h:PgIs w w.heap.size vc vt P):
  Calls Tryz.prog 30 #[.agg #[vc,vt]] w (SmallRet P w):=by
 obtain⟨ac,cc,rfl,mc⟩:=h.cells.ex;obtain⟨at',ct,rfl,mt⟩:=h.thr.ex;have r0:=qy w (.cells #[.slice ac P.cells.length cc,.slice at' P.threads.length ct] 25);have b0:Below w.heap.size w (w.alloc (.cells #[.slice ac P.cells.length cc,.slice at' P.threads.length ct] 25)):=(Below.refl _ w).alloc (Nat.le_refl _) _;have H0:=qj ((h.below b0).more b0.size);have B0:=qj b0;have z0:=qh r0;clear h b0;go_enter Tryz.func30,Tryz.ntmps30;go_wp2_with fail;generalize w.alloc (.cells #[.slice ac P.cells.length cc,.slice at' P.threads.length ct] 25)=W at *;have d0:W.cell? ⟨w.heap.size,0,none⟩=some (.slice ac P.cells.length cc):=qg r0 0;have d1:W.cell? ⟨w.heap.size,1,none⟩=some (.slice at' P.threads.length ct):=qg r0 1;clear r0
 go_loop [3,4] (fun n i=>∃(k:Nat) (m:Int),k<=P.threads.length/\k<=21/\i=.int .i64 k/\n=.int .i64 m) (fun _ i=>21 - (intOf i).toNat)
 case atStart=>exact⟨0,0,by omega,by omega,by go_num,rfl⟩
 case round=>
  obtain⟨k,m,hk,hk2,rfl,rfl⟩:=hrel;by_cases hlt:k < P.threads.length
  ·by_cases h20:k<=20
   ·obtain ⟨b,off,u,t,hat,hb,ht,hu,hut⟩:=H0.o.thr.at rfl hlt
    obtain⟨au,cu,rfl,mu⟩:=hut.ex;have HUT:=qj hut;subst hat;clear hut ht;obtain⟨q,hmin⟩:∃q:Int,∀(ts:Array TypeId) (ty:TypeId) (X:World),(Builtin.min_ ts ty #[.int .i64 (t.length:Int),.int .i64 100]).run Tryz.prog X=.ok (.int .i64 q) X:=⟨_,fun ts ty X=>run_min_int2 ..⟩
    go_wp2_with fail;clear hmin
    go_loop [3,5] (fun n i=>∃(j:Nat) (m:Int),j<=t.length/\j<=21/\i=.int .i64 j/\n=.int .i64 m) (fun _ i=>21 - (intOf i).toNat)
    case atStart=>exact⟨0,_,by omega,by omega,by go_num,rfl⟩
    case round=>
     obtain⟨j,m2,hj,hj2,rfl,rfl⟩:=hrel;by_cases hlj:j < t.length
     ·by_cases h20j:j<=20
      ·obtain ⟨b2,off2,u2,l,hal,hb2,hl2,hu2,hul⟩:=HUT.o.at rfl hlj
       obtain⟨al,cl,rfl,ml⟩:=Sl.ex (show Sl W W.heap.size 3 u2 l.length (l.flatMap Ac.cells) from hul);subst hal;clear hul hl2;obtain⟨q2,hmin⟩:∃q:Int,∀(ts:Array TypeId) (ty:TypeId) (X:World),(Builtin.min_ ts ty #[.int .i64 (l.length:Int),.int .i64 100]).run Tryz.prog X=.ok (.int .i64 q) X:=⟨_,fun ts ty X=>run_min_int2 ..⟩
       go_wp2_with fail
       go_round
       case rel=>exact⟨j+1,_,by omega,by omega,by go_num,rfl⟩
       case measure=>simp[intOf];omega
      ·obtain rfl:j=21:=by omega
       go_wp2_with fail
       go_round
       case rel=>exact⟨k+1,_,by omega,by omega,by go_num,rfl⟩
       case measure=>simp[intOf];omega
     ·obtain rfl:j=t.length:=by omega
      go_wp2_with fail
      go_round
      case rel=>exact⟨k+1,_,by omega,by omega,by go_num,rfl⟩
      case measure=>simp[intOf];omega
   ·obtain rfl:k=21:=by omega
    have q:decide (P.threads.length<=20)=false:=by simp;omega
    go_wp2;go_ret;exact⟨_,rfl,fun h=>by simp at h,B0.o⟩
  ·obtain rfl:k=P.threads.length:=by omega
   by_cases h20:P.threads.length<=20
   ·by_cases hc1:P.cells.length<=100
    ·go_wp2
     go_ret;exact⟨_,rfl,fun _=>h20,B0.o⟩
    ·have q:decide (P.cells.length<=100)=false:=by simp;omega
     go_wp2;go_ret;exact⟨_,rfl,fun _=>h20,B0.o⟩
   ·have q:decide (P.threads.length<=20)=false:=by simp;omega
    go_wp2;go_ret;exact⟨_,rfl,fun h=>by simp at h,B0.o⟩
end
section
attribute [local irreducible] xL
def ExPost (P:Pg) (w:World) (e:Ending) (w':World):Prop:=∃vc vt,e=.returned (.agg #[vc,vt])/\PgIs w' w'.heap.size vc vt P/\Below w.heap.size w w'
theorem sl_row {w:World} {g:Nat} {cs:Array Value} {t:TypeId} {sz n c:Nat} (h:w.heap[g]?=some (.cells cs t (0,0))) (hn:n<=9223372036854775807) (hs:cs.size=n*sz):Sl w w.heap.size sz (.slice (some ⟨g,0,none⟩) n c) n cs.toList:=
 ⟨_,_,rfl,hn,by simpa using hs,fun _=>⟨g,0,rfl,qh h,fun j u hu=>by rw[Nat.zero_add,qg h];simpa using hu⟩⟩
theorem isl_row1 {α:Type} {R:World->Nat->Value->α->Prop} {w:World} {g c:Nat} {u:Value} {t:TypeId} {x:α} (h:w.heap[g]?=some (.cells #[u] t (0,0))) (hu:R w w.heap.size u x):IsL R w w.heap.size (.slice (some ⟨g,0,none⟩) 1 c) [x]:=
 ⟨_,sl_row h (by decide) rfl,fun k v y hv hy=>by
  rcases k with _|k
  ·simp at hv hy;subst hv hy;exact hu
  ·simp at hy⟩
theorem isl_row2 {α:Type} {R:World->Nat->Value->α->Prop} {w:World} {g c:Nat} {u u':Value} {t:TypeId} {x x':α} (h:w.heap[g]?=some (.cells #[u,u'] t (0,0))) (hu:R w w.heap.size u x) (hu':R w w.heap.size u' x'):IsL R w w.heap.size (.slice (some ⟨g,0,none⟩) 2 c) [x,x']:=
 ⟨_,sl_row h (by decide) rfl,fun k v y hv hy=>by
  rcases k with _|_|k
  ·simp at hv hy;subst hv hy;exact hu
  ·simp at hv hy;subst hv hy;exact hu'
  ·simp at hy⟩
theorem l_ex19_1 (c:Int) (w:World):Calls Tryz.prog 102 #[.int .i64 c] w fun e w'=>e=.returned (.agg #[.int .i64 3,.int .i64 c,.int .i64 1])/\Below w.heap.size w w':=by
 go_enter Tryz.func102,Tryz.ntmps102;go_wp2;refine bodyPost_ret (v:=.agg #[.int .i64 3,.int .i64 c,.int .i64 1]) (by simp[results,Tryz.results102,go_sem]) rfl ⟨rfl,?_⟩;exact(Below.refl w.heap.size w).alloc (Nat.le_refl _) _
theorem l_ex19_2 (c:Int) (w:World):Calls Tryz.prog 103 #[.int .i64 c] w fun e w'=>e=.returned (.agg #[.int .i64 1,.int .i64 c,.int .i64 0])/\Below w.heap.size w w':=by
 go_enter Tryz.func103,Tryz.ntmps103;go_wp2;refine bodyPost_ret (v:=.agg #[.int .i64 1,.int .i64 c,.int .i64 0]) (by simp[results,Tryz.results103,go_sem]) rfl ⟨rfl,?_⟩;exact(Below.refl w.heap.size w).alloc (Nat.le_refl _) _
def yN:Pg:=⟨[0,0],[[[⟨3,0,1⟩,⟨3,1,1⟩]],[[⟨1,0,0⟩,⟨1,1,0⟩]]]⟩
theorem l_ex19 (w:World):Calls Tryz.prog 54 #[] w (ExPost yN w):=by
 have b0:Below w.heap.size w ((w.alloc (.cells #[.slice none 0 0,.slice none 0 0] 25)).alloc (.cells #[.int .i64 0,.int .i64 0] 3)):=((Below.refl _ w).alloc (Nat.le_refl _) _).alloc (by simp) _;have r0:=qF (o:=.cells #[.int .i64 0,.int .i64 0] 3) (qy w (.cells #[.slice none 0 0,.slice none 0 0] 25));have r1:=qL (w:=w.alloc (.cells #[.slice none 0 0,.slice none 0 0] 25)) (o:=.cells #[.int .i64 0,.int .i64 0] 3) (g:=w.heap.size+1) (by simp);go_enter Tryz.func54,Tryz.ntmps54;go_wp2_with fail;generalize (w.alloc (.cells #[.slice none 0 0,.slice none 0 0] 25)).alloc (.cells #[.int .i64 0,.int .i64 0] 3)=W at *;refine(l_ex19_1 0 _).mono ?_;rintro e W1 ⟨rfl,b1⟩;go_wp2_with fail;refine(l_ex19_1 1 _).mono ?_;rintro e W2 ⟨rfl,b2⟩;have b2:=b1.trans (b2.mono b1.size);have r0:=qp r0 b2 (qh r0);have r1:=qp r1 b2 (qh r1);have lw2:=qh r1;have b2:=b0.trans (b2.mono b0.size);clear b0 b1;have ra:=qF (o:=.cells #[.slice (some ⟨W2.heap.size,0,none⟩) 2 2] 80) (qy W2 (.cells #[.int .i64 3,.int .i64 0,.int .i64 1,.int .i64 3,.int .i64 1,.int .i64 1] 118));have rt:=qL (w:=W2.alloc (.cells #[.int .i64 3,.int .i64 0,.int .i64 1,.int .i64 3,.int .i64 1,.int .i64 1] 118)) (o:=.cells #[.slice (some ⟨W2.heap.size,0,none⟩) 2 2] 80) (g:=W2.heap.size+1) (by simp);have bx:Below W2.heap.size W2 ((W2.alloc (.cells #[.int .i64 3,.int .i64 0,.int .i64 1,.int .i64 3,.int .i64 1,.int .i64 1] 118)).alloc (.cells #[.slice (some ⟨W2.heap.size,0,none⟩) 2 2] 80)):=((Below.refl _ W2).alloc (Nat.le_refl _) _).alloc (by simp) _;have r0:=qp r0 bx (qh r0);have r1:=qp r1 bx (qh r1);have b2:=b2.trans (bx.mono b2.size);go_wp2_with fail;generalize (W2.alloc (.cells #[.int .i64 3,.int .i64 0,.int .i64 1,.int .i64 3,.int .i64 1,.int .i64 1] 118)).alloc (.cells #[.slice (some ⟨W2.heap.size,0,none⟩) 2 2] 80)=X at *;refine(l_ex19_2 0 _).mono ?_;rintro e W3 ⟨rfl,b3⟩;go_wp2_with fail;refine(l_ex19_2 1 _).mono ?_;rintro e W4 ⟨rfl,b4⟩;have b4:=b3.trans (b4.mono b3.size);have r0:=qp r0 b4 (qh r0);have r1:=qp r1 b4 (qh r1);have ra:=qp ra b4 (qh ra);have rt:=qp rt b4 (qh rt);have b5:=b2.trans (b4.mono b2.size);have l0:=qh r0;have l1:w.heap.size < W4.heap.size+1:=by omega
 have l2:w.heap.size < W4.heap.size+1+1:=by omega
 have y0:=qg r0 0;have y1:=qg r0 1;simp at y0 y1;have yf:∀j,W4.frozen? ⟨w.heap.size,j,none⟩=false:=fun j=>qx r0 j;have R0:=qj r0;have R1:=qj r1;have RA:=qj ra;have RT:=qj rt;have B5:=qj b5;clear r0 r1 ra rt b2 b3 b4 b5 bx;go_wp2;have hsz:((W4.setCell ⟨w.heap.size,0,none⟩ (.slice (some ⟨w.heap.size+1,0,none⟩) 2 2)).setCell ⟨w.heap.size,1,none⟩ (.slice (some ⟨W4.heap.size+1+1,0,none⟩) 2 2)).heap.size=W4.heap.size:=by simp
 have hsz1:(((W4.setCell ⟨w.heap.size,0,none⟩ (.slice (some ⟨w.heap.size+1,0,none⟩) 2 2)).setCell ⟨w.heap.size,1,none⟩ (.slice (some ⟨W4.heap.size+1+1,0,none⟩) 2 2)).alloc (.cells #[.int .i64 1,.int .i64 0,.int .i64 0,.int .i64 1,.int .i64 1,.int .i64 0] 118)).heap.size=W4.heap.size+1:=by simp
 have hsz2:((((W4.setCell ⟨w.heap.size,0,none⟩ (.slice (some ⟨w.heap.size+1,0,none⟩) 2 2)).setCell ⟨w.heap.size,1,none⟩ (.slice (some ⟨W4.heap.size+1+1,0,none⟩) 2 2)).alloc (.cells #[.int .i64 1,.int .i64 0,.int .i64 0,.int .i64 1,.int .i64 1,.int .i64 0] 118)).alloc (.cells #[.slice (some ⟨W4.heap.size,0,none⟩) 2 2] 80)).heap.size=W4.heap.size+1+1:=by simp
 have nA:w.heap.size≠W2.heap.size:=by omega
 have nT:w.heap.size≠W2.heap.size+1:=by omega
 have k0:=qF (o:=.cells #[.slice (some ⟨W2.heap.size+1,0,none⟩) 1 1,.slice (some ⟨W4.heap.size+1,0,none⟩) 1 1] 79) (qF (o:=.cells #[.slice (some ⟨W4.heap.size,0,none⟩) 2 2] 80) (qF (o:=.cells #[.int .i64 1,.int .i64 0,.int .i64 0,.int .i64 1,.int .i64 1,.int .i64 0] 118) (qB (qB R0.o 0 (.slice (some ⟨w.heap.size+1,0,none⟩) 2 2)) 1 (.slice (some ⟨W4.heap.size+1+1,0,none⟩) 2 2))));have k1:=qF (o:=.cells #[.slice (some ⟨W2.heap.size+1,0,none⟩) 1 1,.slice (some ⟨W4.heap.size+1,0,none⟩) 1 1] 79) (qF (o:=.cells #[.slice (some ⟨W4.heap.size,0,none⟩) 2 2] 80) (qF (o:=.cells #[.int .i64 1,.int .i64 0,.int .i64 0,.int .i64 1,.int .i64 1,.int .i64 0] 118) (qK (g':=w.heap.size) (j:=1) (v:=.slice (some ⟨W4.heap.size+1+1,0,none⟩) 2 2) (qK (g':=w.heap.size) (j:=0) (v:=.slice (some ⟨w.heap.size+1,0,none⟩) 2 2) R1.o (by omega)) (by omega))));have ka:=qF (o:=.cells #[.slice (some ⟨W2.heap.size+1,0,none⟩) 1 1,.slice (some ⟨W4.heap.size+1,0,none⟩) 1 1] 79) (qF (o:=.cells #[.slice (some ⟨W4.heap.size,0,none⟩) 2 2] 80) (qF (o:=.cells #[.int .i64 1,.int .i64 0,.int .i64 0,.int .i64 1,.int .i64 1,.int .i64 0] 118) (qK (g':=w.heap.size) (j:=1) (v:=.slice (some ⟨W4.heap.size+1+1,0,none⟩) 2 2) (qK (g':=w.heap.size) (j:=0) (v:=.slice (some ⟨w.heap.size+1,0,none⟩) 2 2) RA.o nA) nA)));have kt:=qF (o:=.cells #[.slice (some ⟨W2.heap.size+1,0,none⟩) 1 1,.slice (some ⟨W4.heap.size+1,0,none⟩) 1 1] 79) (qF (o:=.cells #[.slice (some ⟨W4.heap.size,0,none⟩) 2 2] 80) (qF (o:=.cells #[.int .i64 1,.int .i64 0,.int .i64 0,.int .i64 1,.int .i64 1,.int .i64 0] 118) (qK (g':=w.heap.size) (j:=1) (v:=.slice (some ⟨W4.heap.size+1+1,0,none⟩) 2 2) (qK (g':=w.heap.size) (j:=0) (v:=.slice (some ⟨w.heap.size+1,0,none⟩) 2 2) RT.o nT) nT)));have ma:=qF (o:=.cells #[.slice (some ⟨W2.heap.size+1,0,none⟩) 1 1,.slice (some ⟨W4.heap.size+1,0,none⟩) 1 1] 79) (qF (o:=.cells #[.slice (some ⟨W4.heap.size,0,none⟩) 2 2] 80) (qL (o:=.cells #[.int .i64 1,.int .i64 0,.int .i64 0,.int .i64 1,.int .i64 1,.int .i64 0] 118) hsz.symm));have mt:=qF (o:=.cells #[.slice (some ⟨W2.heap.size+1,0,none⟩) 1 1,.slice (some ⟨W4.heap.size+1,0,none⟩) 1 1] 79) (qL (o:=.cells #[.slice (some ⟨W4.heap.size,0,none⟩) 2 2] 80) hsz1.symm);have mh:=qL (o:=.cells #[.slice (some ⟨W2.heap.size+1,0,none⟩) 1 1,.slice (some ⟨W4.heap.size+1,0,none⟩) 1 1] 79) hsz2.symm;have bz:Below w.heap.size w (((((W4.setCell ⟨w.heap.size,0,none⟩ (.slice (some ⟨w.heap.size+1,0,none⟩) 2 2)).setCell ⟨w.heap.size,1,none⟩ (.slice (some ⟨W4.heap.size+1+1,0,none⟩) 2 2)).alloc (.cells #[.int .i64 1,.int .i64 0,.int .i64 0,.int .i64 1,.int .i64 1,.int .i64 0] 118)).alloc (.cells #[.slice (some ⟨W4.heap.size,0,none⟩) 2 2] 80)).alloc (.cells #[.slice (some ⟨W2.heap.size+1,0,none⟩) 1 1,.slice (some ⟨W4.heap.size+1,0,none⟩) 1 1] 79)):=
  ((((B5.o.setCell (p:=⟨w.heap.size,0,none⟩) (Nat.le_refl _) _).setCell (p:=⟨w.heap.size,1,none⟩) (Nat.le_refl _) _).alloc (by omega) _).alloc (by omega) _).alloc (by omega) _
 generalize ((((W4.setCell ⟨w.heap.size,0,none⟩ (.slice (some ⟨w.heap.size+1,0,none⟩) 2 2)).setCell ⟨w.heap.size,1,none⟩ (.slice (some ⟨W4.heap.size+1+1,0,none⟩) 2 2)).alloc (.cells #[.int .i64 1,.int .i64 0,.int .i64 0,.int .i64 1,.int .i64 1,.int .i64 0] 118)).alloc (.cells #[.slice (some ⟨W4.heap.size,0,none⟩) 2 2] 80)).alloc (.cells #[.slice (some ⟨W2.heap.size+1,0,none⟩) 1 1,.slice (some ⟨W4.heap.size+1,0,none⟩) 1 1] 79)=Z at *;have c0:=qg k0 0;have c1:=qg k0 1;simp at c0 c1;refine bodyPost_ret (v:=.agg #[.slice (some ⟨w.heap.size+1,0,none⟩) 2 2,.slice (some ⟨W4.heap.size+1+1,0,none⟩) 2 2]) (by simp[results,Tryz.results54,go_sem,c0,c1]) rfl ⟨_,_,rfl,⟨sl_row k1 (by decide) rfl,?_⟩,bz⟩;exact isl_row2 mh (isl_row1 kt (sl_row ka (by decide) rfl)) (isl_row1 mt (sl_row ma (by decide) rfl))
end
structure GlobP (w:World):Prop where
 big:2 < w.heap.size
 prog:∃t v,w.cell? ⟨2,0,none⟩=some (.iface t v)
theorem GlobP.below {w w':World} (h:GlobP w) (hb:Below w.heap.size w w'):GlobP w':=let ⟨h1,t,v,h2⟩:=h;⟨by have:=hb.size;omega,t,v,qu hb h1 h2⟩
section
attribute [local irreducible] xL
structure Ce where
 val:Int
 ver:Int
 own:Int
def Ce.cells (c:Ce):List Value:=[.int .i64 c.val,.int .i64 c.ver,.int .i64 c.own]
theorem Ce.len (c:Ce):c.cells.length=3:=rfl
abbrev Wo:=Option (Int×MB×MI)
inductive Nx where
 |none
 |abort
 |commit
 |lock (l:List Int)
 |tick
 |look (now:Int) (l:List Int)
 |write (now:Int) (l:List Int)
 |ans (e:Ev)
structure LM where
 W:yk
 cs:List Ce
 ws:List Wo
 nx:List Nx
 clk:Int
def yw:List Int->Nx
 |[]=>.tick
 |k::l=>.lock (k::l)
def za (now:Int):List Int->Nx
 |[]=>.commit
 |k::l=>.write now (k::l)
def zh (now:Int) (s:MI):List Int->Nx
 |[]=>za now (s.map (·.1))
 |k::l=>.look now (k::l)
def yj (s:MI) (e:Ev):Nx:=if e.kind=1 then .none else if e.kind=7 then .abort else if e.kind=4 then(if s=[] then .commit else yw (s.map (·.1))) else .ans e
def offN (id:Int) (n:Nat) (cs:List Ce):List Ce:=cs.mapIdx fun k c=>if k < n/\c.own=id then⟨c.val,c.ver,0⟩ else c
def ze (id:Int) (cs:List Ce):List Ce:=offN id cs.length cs
def ceAt (cs:List Ce) (k:Int):Ce:=match cs[k.toNat]? with
 |some c=>c
 |none=>⟨0,0,0⟩
def yK (P:Pg) (M:LM) (i:Nat) (t:Th):LM:={M with W:=M.W.putO i (yV P i t 0 true),cs:=ze (qG i t.tx) M.cs}
def stale (tm:Int) (c:Ce):Bool:=!(c.own==0)||decide (tm < c.ver)
def taken (i:Nat) (t:Th) (tm:Int) (c:Ce):Bool:=(!(c.own==0)&&!(c.own==qG i t.tx))||decide (tm < c.ver)
def ansStep (P:Pg) (M:LM) (i:Nat) (t:Th) (e:Ev) (tm:Int) (r:MB) (s:MI):LM:=
 if e.op=2 then {M with W:=M.W.putO i (yV P i t 0 false),ws:=M.ws.set i (some (tm,r,upd e.obj e.val s))}
 else match yZ e.obj s with
  |some v=>{M with W:=M.W.putO i (yV P i t v false)}
  |none=>if stale tm (ceAt M.cs e.obj)=true then yK P M i t
   else {M with W:=M.W.putO i (yV P i t (ceAt M.cs e.obj).val false),ws:=M.ws.set i (some (tm,upd e.obj () r,s))}
def lockStep (P:Pg) (M:LM) (i:Nat) (t:Th):List Int->LM×Nx
 |[]=>(M,.none)
 |k::l=>if (ceAt M.cs k).own=0 then({M with cs:=M.cs.set k.toNat ⟨(ceAt M.cs k).val,(ceAt M.cs k).ver,qG i t.tx⟩},yw l) else(yK P M i t,.none)
def lookStep (P:Pg) (M:LM) (i:Nat) (t:Th) (tm:Int) (s:MI) (now:Int):List Int->LM×Nx
 |[]=>(M,.none)
 |k::l=>if taken i t tm (ceAt M.cs k)=true then(yK P M i t,.none) else(M,zh now s l)
def writeStep (M:LM) (s:MI) (now:Int):List Int->LM×Nx
 |[]=>(M,.none)
 |k::l=>({M with cs:=M.cs.set k.toNat ⟨(yZ k s).getD 0,now,0⟩},za now l)
def ownStep (P:Pg) (M:LM) (i:Nat) (t:Th) (s:MI):LM×Nx:=
 match nextOf P i t with
 |none=>(M,.none)
 |some y=>({M with W:=M.W.put i y,ws:=if y.2.kind=1 then M.ws.set i (some (M.clk,[],[])) else M.ws},yj s y.2)
def doStep (P:Pg) (M:LM) (i:Nat) (t:Th) (x:Nx) (tm:Int) (r:MB) (s:MI):LM×Nx:=
 match x with
 |.none=>ownStep P M i t s
 |.abort=>(yK P M i t,.none)
 |.commit=>({M with W:=M.W.putO i (yV P i t 0 false)},.none)
 |.lock l=>lockStep P M i t l
 |.tick=>({M with clk:=M.clk+1},zh (M.clk+1) s (r.map (·.1)))
 |.look now l=>lookStep P M i t tm s now l
 |.write now l=>writeStep M s now l
 |.ans e=>(ansStep P M i t e tm r s,.none)
def woT (o:Option Wo):Int:=match o with
 |some (some (a,_,_))=>a
 |_=>0
def woR (o:Option Wo):MB:=match o with
 |some (some (_,r,_))=>r
 |_=>[]
def woS (o:Option Wo):MI:=match o with
 |some (some (_,_,s))=>s
 |_=>[]
structure LC where
 B:Nat
 bM:Nat
 bD:Nat
 bW:Nat
 gT:Nat
 gN:Nat
 gW:Nat
 vc:Value
 vt:Value
 pc:Value
 pt:Value
 ce:Value
 F:Nat->Array Value->Prop
abbrev WkV:=Int×Value×Value
def wkC (u:WkV):List Value:=[.int .i64 u.1,u.2.1,u.2.2]
theorem wkC_len (u:WkV):(wkC u).length=3:=rfl
abbrev LC.rf (C:LC):Value:=.func (.func 144) #[.pointer (some ⟨C.bM,0,none⟩)] #[]
def WoAt (w:World) (B:Nat) (u:WkV):Wo->Prop
 |none=>u=(0,.map none,.map none)
 |some (tm,r,s)=>∃br bs,u=(tm,.map (some br),.map (some bs))/\B<=br/\B<=bs/\br≠bs/\IsMB w br r.length r/\IsMI w bs s.length s/\KCe r/\KSrt r/\KCe s/\KSrt s
def BxM (w:World) (C:LC) (i p1 p2:Nat):Prop:=w.heap[p1]?=some (.cells #[.pointer (some ⟨C.bM,0,none⟩)] 205 (0,0))/\w.heap[p2]?=some (.cells #[.int .i64 i] 3 (0,0))/\C.B<=p1/\C.B<=p2
def LsBx (w:World) (C:LC) (p3:Nat) (l:List Int):Prop:=∃(g off cap:Nat) (cs:Array Value),w.heap[p3]?=some (.cells #[.slice (some ⟨g,off,none⟩) l.length cap] 22 (0,0))/\w.heap[g]?=some (.cells cs 3 (0,0))/\C.B<=p3/\C.B<=g/\l.length<=cap/\∀(j:Nat) (x:Int),l[j]?=some x->cs[off+j]?=some (.int .i64 x)
def IxBx (w:World) (C:LC) (p:Nat) (n:Int):Prop:=w.heap[p]?=some (.cells #[.int .i64 n] 3 (0,0))/\C.B<=p
def NxAt (w:World) (C:LC) (i:Nat) (ve v:Value):Nx->Prop
 |.none=>v=.nilFunc
 |.abort=>∃p1 p2,v=.func (.func 236) #[] #[.pointer (some ⟨p1,0,none⟩),.pointer (some ⟨p2,0,none⟩)]/\BxM w C i p1 p2
 |.commit=>∃p1 p2,v=.func (.func 237) #[] #[.pointer (some ⟨p1,0,none⟩),.pointer (some ⟨p2,0,none⟩)]/\BxM w C i p1 p2
 |.lock []=>False
 |.lock (k::l)=>∃p1 p2 p3,v=.func (.func 239) #[] #[.pointer (some ⟨p1,0,none⟩),.pointer (some ⟨p3,0,none⟩),.pointer (some ⟨p2,0,none⟩)]/\BxM w C i p1 p2/\LsBx w C p3 (k::l)
 |.tick=>∃p1 p2,v=.func (.func 251) #[] #[.pointer (some ⟨p1,0,none⟩),.pointer (some ⟨p2,0,none⟩)]/\BxM w C i p1 p2
 |.look _ []=>False
 |.look now (k::l)=>∃p1 p2 p3 p4,v=.func (.func 258) #[] #[.pointer (some ⟨p1,0,none⟩),.pointer (some ⟨p3,0,none⟩),.pointer (some ⟨p2,0,none⟩),.pointer (some ⟨p4,0,none⟩)]/\BxM w C i p1 p2/\LsBx w C p3 (k::l)/\IxBx w C p4 now
 |.write _ []=>False
 |.write now (k::l)=>∃p1 p2 p3 p4,v=.func (.func 260) #[] #[.pointer (some ⟨p1,0,none⟩),.pointer (some ⟨p2,0,none⟩),.pointer (some ⟨p3,0,none⟩),.pointer (some ⟨p4,0,none⟩)]/\BxM w C i p1 p2/\LsBx w C p3 (k::l)/\IxBx w C p4 now
 |.ans e=>∃p1 p2 p3,v=.func (.func 195) #[] #[.pointer (some ⟨p1,0,none⟩),.pointer (some ⟨p2,0,none⟩),.pointer (some ⟨p3,0,none⟩)]/\BxM w C i p1 p2/\w.heap[p3]?=some (.cells e.cells.toArray 53 (0,0))/\ve.ownBlock≠some p3/\C.B<=p3
structure WksAt (w:World) (C:LC) (n:Nat) (us:List WkV) (ws:List Wo):Prop where
 own:qq wkC 321 3 w C.B (.slice (some ⟨C.gW,0,none⟩) n n) us
 len:ws.length=n
 maps:∀(i:Nat) (u:WkV) (o:Wo),us[i]?=some u->ws[i]?=some o->WoAt w C.B u o
 apart:∀(i j:Nat) (u u':WkV),us[i]?=some u->us[j]?=some u'->i≠j->∀b,mbs u.2 b->¬mbs u'.2 b
structure qX (w:World) (C:LC) (ve:Value) (us:List WkV) (P:Pg) (M:LM):Prop where
 row:w.heap[C.bM]?=some (.cells #[.pointer (some ⟨C.bD,0,none⟩),C.ce,.slice (some ⟨C.gW,0,none⟩) P.threads.length P.threads.length,.int .i64 M.clk] 274 (0,0))
 hB:C.B<=C.bM
 dr:∃vs,DrAt w C.B C.bD C.bW C.gT C.gN C.vc C.vt ve C.pc C.pt C.rf P M.W vs/\M.nx.length=P.threads.length/\∀(i:Nat) (v:Value) (x:Nx),vs[i]?=some v->M.nx[i]?=some x->NxAt w C i ve v x
 cells:qq Ce.cells 276 3 w C.B C.ce M.cs
 clen:M.cs.length=P.cells.length
 wks:WksAt w C P.threads.length us M.ws
 fr:∀(k:Nat) (cs:Array Value),C.F k cs->w.heap[k]?=some (.cells cs 37 (0,0))
section
variable {w w':World} {C:LC} {ve ve':Value} {P:Pg} {M:LM} {us:List WkV}
theorem BxM.keep {i p1 p2:Nat} (h:BxM w C i p1 p2)
  (h1:∀(p:Nat) (u:Value),w.heap[p]?=some (.cells #[u] 205 (0,0))->w'.heap[p]?=some (.cells #[u] 205 (0,0)))
  (h2:∀(p:Nat) (u:Array Value),w.heap[p]?=some (.cells u 3 (0,0))->w'.heap[p]?=some (.cells u 3 (0,0))):BxM w' C i p1 p2:=⟨h1 _ _ h.1,h2 _ _ h.2.1,h.2.2⟩
theorem NxAt.keep {i:Nat} {v:Value} {x:Nx} (h:NxAt w C i ve v x)
  (h1:∀(p:Nat) (u:Value),w.heap[p]?=some (.cells #[u] 205 (0,0))->w'.heap[p]?=some (.cells #[u] 205 (0,0)))
  (h2:∀(p:Nat) (u:Array Value),w.heap[p]?=some (.cells u 3 (0,0))->w'.heap[p]?=some (.cells u 3 (0,0)))
  (h4:∀(p:Nat) (u:Value),w.heap[p]?=some (.cells #[u] 22 (0,0))->w'.heap[p]?=some (.cells #[u] 22 (0,0)))
  (h3:∀(p:Nat) (cs:Array Value),w.heap[p]?=some (.cells cs 53 (0,0))->ve.ownBlock≠some p->w'.heap[p]?=some (.cells cs 53 (0,0))/\ve'.ownBlock≠some p):NxAt w' C i ve' v x:=by
 cases x with
 |none=>exact h
 |abort=>
  obtain⟨p1,p2,hv,k⟩:=h;exact⟨p1,p2,hv,k.keep h1 h2⟩
 |commit=>
  obtain⟨p1,p2,hv,k⟩:=h;exact⟨p1,p2,hv,k.keep h1 h2⟩
 |tick=>
  obtain⟨p1,p2,hv,k⟩:=h;exact⟨p1,p2,hv,k.keep h1 h2⟩
 |lock l=>
  cases l with
  |nil=>exact h
  |cons a l=>
   obtain⟨p1,p2,p3,hv,k,g,off,cap,cs,k3,k4,r⟩:=h;exact⟨p1,p2,p3,hv,k.keep h1 h2,g,off,cap,cs,h4 _ _ k3,h2 _ _ k4,r⟩
 |look n l=>
  cases l with
  |nil=>exact h
  |cons a l=>
   obtain⟨p1,p2,p3,p4,hv,k,⟨g,off,cap,cs,k3,k4,r⟩,k5,k6⟩:=h;exact⟨p1,p2,p3,p4,hv,k.keep h1 h2,⟨g,off,cap,cs,h4 _ _ k3,h2 _ _ k4,r⟩,h2 _ _ k5,k6⟩
 |write n l=>
  cases l with
  |nil=>exact h
  |cons a l=>
   obtain⟨p1,p2,p3,p4,hv,k,⟨g,off,cap,cs,k3,k4,r⟩,k5,k6⟩:=h;exact⟨p1,p2,p3,p4,hv,k.keep h1 h2,⟨g,off,cap,cs,h4 _ _ k3,h2 _ _ k4,r⟩,h2 _ _ k5,k6⟩
 |ans e=>
  obtain⟨p1,p2,p3,hv,k,k3,k4,r⟩:=h;obtain⟨k5,k6⟩:=h3 _ _ k3 k4;exact⟨p1,p2,p3,hv,k.keep h1 h2,k5,k6,r⟩
theorem WoAt.keep {B:Nat} {u:WkV} {o:Wo} (h:WoAt w B u o) (hk:∀b:Nat,mbs u.2 b->w'.heap[b]?=w.heap[b]?):WoAt w' B u o:=by
 cases o with
 |none=>exact h
 |some p=>
  obtain⟨tm,r,s⟩:=p;obtain⟨br,bs,rfl,h1,h2,h3,h6,h7,h8⟩:=h;exact⟨br,bs,rfl,h1,h2,h3,h6.obj (hk br (.inl rfl)),h7.obj (hk bs (.inr rfl)),h8⟩
theorem WoAt.isMap {B:Nat} {u:WkV} {o:Wo} (h:WoAt w B u o):∀b,mbs u.2 b->B<=b/\∃es c,w.heap[b]?=some (.map es c):=by
 cases o with
 |none=>
  obtain rfl:=h;rintro b (h|h) <;> cases h
 |some p=>
  obtain⟨tm,r,s⟩:=p;obtain⟨br,bs,rfl,h1,h2,h3,⟨es,c,h6,-⟩,⟨es',c',h7,-⟩,h8⟩:=h;rintro b (h|h)
  ·cases h;exact⟨h1,es,c,h6⟩
  ·cases h;exact⟨h2,es',c',h7⟩
theorem WksAt.at {n:Nat} {us:List WkV} {ws:List Wo} (h:WksAt w C n us ws) {i:Nat} {u:WkV} (hu:us[i]?=some u):∃o,ws[i]?=some o/\WoAt w C.B u o:=by
 have hl:=h.own.len;have hi:i < us.length:=(List.getElem?_eq_some_iff.1 hu).1;obtain⟨o,ho⟩:∃o,ws[i]?=some o:=⟨_,List.getElem?_eq_getElem (by rw[h.len];omega)⟩
 exact⟨o,ho,h.maps i u o hu ho⟩
theorem WksAt.keep {n:Nat} {us:List WkV} {ws:List Wo} (h:WksAt w C n us ws)
  (h1:qq wkC 321 3 w' C.B (.slice (some ⟨C.gW,0,none⟩) n n) us)
  (hk:∀(b:Nat) (es:Array MapEntry) (c:Nat),w.heap[b]?=some (.map es c)->w'.heap[b]?=some (.map es c)):WksAt w' C n us ws:=
 ⟨h1,h.len,fun i u o hu ho=>(h.maps i u o hu ho).keep fun b hb=>by
  obtain⟨-,es,c,hm⟩:=(h.maps i u o hu ho).isMap b hb;rw[hk b es c hm,hm],h.apart⟩
theorem qX.below (h:qX w C ve us P M) (hb:Below w.heap.size w w'):qX w' C ve us P M:=by
 obtain⟨vs,h1,h2,h3⟩:=h.dr;refine⟨qp h.row hb (qh h.row),h.hB,⟨vs,h1.below hb,h2,fun i v x hv hx=>NxAt.keep (h3 i v x hv hx) (fun p u hp=>qp hp hb (qh hp)) (fun p u hp=>qp hp hb (qh hp)) (fun p u hp=>qp hp hb (qh hp)) fun p cs hp he=>⟨qp hp hb (qh hp),he⟩⟩,qq.below h.cells hb,h.clen,?_,fun k cs hf=>qp (h.fr k cs hf) hb (qh (h.fr k cs hf))⟩;exact h.wks.keep (qq.below h.wks.own hb) fun b es c hm=>qp hm hb (qh hm)
theorem qX.walked {S':yk} (h:qX w C ve us P M) (hk:Kp Mw ve w w') (hw:qW w' C.B C.bW C.gT C.vc C.vt ve' P S') (ho:∀k,ve'.ownBlock=some k->ve.ownBlock=some k\/w.heap.size<=k):qX w' C ve' us P {M with W:=S'}:=by
 obtain⟨vs,h1,h2,h3⟩:=h.dr;refine⟨hk.rowW h.row (by decide) (by decide) (by decide),h.hB,⟨vs,h1.walked hk hw,h2,fun i v x hv hx=>NxAt.keep (h3 i v x hv hx) (fun p u hp=>hk.rowW hp (by decide) (by decide) (by decide)) (fun p u hp=>hk.rowW hp (by decide) (by decide) (by decide)) (fun p u hp=>hk.rowW hp (by decide) (by decide) (by decide)) fun p cs hp he=>⟨hk.cells p cs _ _ hp (by unfold Mw;decide) (fun _=>he),fun e=>?_⟩⟩,qq.kpW h.cells hk (by decide) (by decide) (by decide),h.clen,?_,fun k cs hf=>hk.rowW (h.fr k cs hf) (by decide) (by decide) (by decide)⟩
 ·rcases ho p e with h|h
  ·exact he h
  ·have:=qh hp;omega
 ·exact h.wks.keep (qq.kpW h.wks.own hk (by decide) (by decide) (by decide)) fun b es c hm=>hk.maps b es c hm
end
section
variable {w w' w1:World} {C:LC} {ve ve':Value} {P:Pg} {M:LM} {us:List WkV} {T T':TypeId->Prop}
def Ml (t:TypeId):Prop:=t=276\/t=321
def Mm (t:TypeId):Prop:=t=276\/t=321\/t=274
theorem qW.km {B bW gT:Nat} {vc vt:Value} {S:yk} (h:qW w B bW gT vc vt ve P S) (hk:Kd Mm w w'):qW w' B bW gT vc vt ve P S:=
 ⟨hk _ _ _ _ h.row (by unfold Mm;decide),h.hB,qq.kd h.cells hk (by unfold Mm;decide),h.thr.kd hk (by unfold Mm;decide) (by unfold Mm;decide) (by unfold Mm;decide),qq.kd h.ths hk (by unfold Mm;decide),qq.kd h.evs hk (by unfold Mm;decide),h.ok,h.tok⟩
theorem DrAt.km {B bD bW gT gN:Nat} {vc vt pc pt rf:Value} {S:yk} {nx:List Value} (h:DrAt w B bD bW gT gN vc vt ve pc pt rf P S nx) (hk:Kd Mm w w'):DrAt w' B bD bW gT gN vc vt ve pc pt rf P S nx:=
 ⟨hk _ _ _ _ h.row (by unfold Mm;decide),h.hB,h.walk.km hk,qq.kd h.pcells hk (by unfold Mm;decide),h.pthr.kd hk (by unfold Mm;decide) (by unfold Mm;decide) (by unfold Mm;decide),qq.kd h.next hk (by unfold Mm;decide)⟩
theorem Ml.mm:∀t,Ml t->Mm t:=fun t h=>h.elim .inl fun h=>.inr (.inl h)
theorem DrAt.kd {B bD bW gT gN:Nat} {vc vt pc pt rf:Value} {S:yk} {nx:List Value} (h:DrAt w B bD bW gT gN vc vt ve pc pt rf P S nx) (hk:Kd Ml w w'):DrAt w' B bD bW gT gN vc vt ve pc pt rf P S nx:=h.km (hk.mono Ml.mm)
theorem qX.turn {us':List WkV} {cs':List Ce} {ws':List Wo} (h:qX w C ve us P M) (hk:Kd Ml w w') (hce:qq Ce.cells 276 3 w' C.B C.ce cs') (hcl:cs'.length=P.cells.length) (hwk:WksAt w' C P.threads.length us' ws'):qX w' C ve us' P {M with cs:=cs',ws:=ws'}:=by
 obtain⟨vs,h1,h2,h3⟩:=h.dr;exact⟨hk _ _ _ _ h.row (by unfold Ml;decide),h.hB,⟨vs,h1.kd hk,h2,fun i v x hv hx=>NxAt.keep (h3 i v x hv hx) (fun p u hp=>hk _ _ _ _ hp (by unfold Ml;decide)) (fun p u hp=>hk _ _ _ _ hp (by unfold Ml;decide)) (fun p u hp=>hk _ _ _ _ hp (by unfold Ml;decide)) fun p cs hp he=>⟨hk _ _ _ _ hp (by unfold Ml;decide),he⟩⟩,hce,hcl,hwk,fun k cs hf=>hk _ _ _ _ (h.fr k cs hf) (by unfold Ml;decide)⟩
theorem qX.tock (h:qX w C ve us P M) (n:Int):qX (w.setCell ⟨C.bM,3,none⟩ (.int .i64 n)) C ve us P {M with clk:=n}:=by
 obtain⟨vs,h1,h2,h3⟩:=h.dr;have hk:Kd (fun t=>t=274) w (w.setCell ⟨C.bM,3,none⟩ (.int .i64 n)):=Kd.set (T:=fun t=>t=274) h.row rfl _;have hkm:Kd Mm w (w.setCell ⟨C.bM,3,none⟩ (.int .i64 n)):=hk.mono fun t e=>.inr (.inr e);exact⟨qB h.row 3 _,h.hB,⟨vs,h1.km hkm,h2,fun i v x hv hx=>NxAt.keep (h3 i v x hv hx) (fun p u hp=>hk _ _ _ _ hp (by decide)) (fun p u hp=>hk _ _ _ _ hp (by decide)) (fun p u hp=>hk _ _ _ _ hp (by decide)) fun p cs hp he=>⟨hk _ _ _ _ hp (by decide),he⟩⟩,qq.kd h.cells hk (by decide),h.clen,h.wks.keep (qq.kd h.wks.own hk (by decide)) (KmAll.set h.row _),fun k cs hf=>hk _ _ _ _ (h.fr k cs hf) (by decide)⟩
theorem qX.frame (h:qX w C ve us P M) {F':Nat->Array Value->Prop} (hf:∀(k:Nat) (cs:Array Value),F' k cs->w.heap[k]?=some (.cells cs 37 (0,0))):qX w {C with F:=F'} ve us P M:=by
 obtain⟨vs,h1,h2,h3⟩:=h.dr;refine⟨h.row,h.hB,⟨vs,h1,h2,fun i v x hv hx=>?_⟩,h.cells,h.clen,⟨h.wks.own,h.wks.len,h.wks.maps,h.wks.apart⟩,hf⟩;have:=h3 i v x hv hx;cases x with
 |none=>exact this
 |abort=>exact this
 |commit=>exact this
 |tick=>exact this
 |lock l=>cases l <;> exact this
 |look n l=>cases l <;> exact this
 |write n l=>cases l <;> exact this
 |ans e=>exact this
theorem WksAt.store {n:Nat} {ws:List Wo} (h:WksAt w C n us ws) {i b:Nat} {u:WkV} {o':Wo} (hu:us[i]?=some u) (hb:mbs u.2 b) (ht:w.mapTurned w' b) (hw:WoAt w' C.B u o'):WksAt w' C n us (ws.set i o'):=by
 refine⟨qq.kd h.own (Kd.turned (T:=fun _=>False) ht) (fun h=>h),by rw[List.length_set];exact h.len,fun j v o hv ho=>?_,h.apart⟩;by_cases e:i=j
 ·subst e
  rw[hu] at hv;obtain rfl:=Option.some.inj hv;rw[List.getElem?_set_self (by have:=(List.getElem?_eq_some_iff.1 ho).1;simpa using this)] at ho;rw[←Option.some.inj ho];exact hw
 ·rw [List.getElem?_set_ne e] at ho
  refine(h.maps j v o hv ho).keep fun b' hb'=>xH ht ?_;rintro rfl;exact h.apart i j u v hu hv e _ hb hb'
theorem WksAt.begin {n:Nat} {ws:List Wo} (h:WksAt w C n us ws) {i:Nat} {u:WkV} {o':Wo} (hm:KmAll w w') (h1:qq wkC 321 3 w' C.B (.slice (some ⟨C.gW,0,none⟩) n n) (us.set i u)) (hnew:∀b,mbs u.2 b->w.heap.size<=b) (hw:WoAt w' C.B u o'):WksAt w' C n (us.set i u) (ws.set i o'):=by
 refine⟨h1,by rw[List.length_set];exact h.len,fun j v o hv ho=>?_,fun j k v v' hv hv' hne b hb hb'=>?_⟩
 ·by_cases e:i=j
  ·subst e
   rw[List.getElem?_set_self (by have:=(List.getElem?_eq_some_iff.1 ho).1;simpa using this)] at ho;rw[List.getElem?_set_self (by have:=(List.getElem?_eq_some_iff.1 hv).1;simpa using this)] at hv;rw[←Option.some.inj ho,←Option.some.inj hv];exact hw
  ·rw [List.getElem?_set_ne e] at ho hv
   refine(h.maps j v o hv ho).keep fun b' hb'=>?_;obtain⟨-,es,c,hh⟩:=(h.maps j v o hv ho).isMap b' hb';rw[hm _ _ _ hh,hh]
 ·have old:∀(j:Nat) (v:WkV),us[j]?=some v->∀b,mbs v.2 b->b < w.heap.size:=fun j v hv b hb=>by
   obtain⟨o,-,ho⟩:=h.at hv;obtain⟨-,es,c,hh⟩:=ho.isMap b hb;exact qh hh
  by_cases e:i=j
  ·subst e
   rw[List.getElem?_set_self (by have:=(List.getElem?_eq_some_iff.1 hv).1;simpa using this)] at hv;rw[List.getElem?_set_ne hne] at hv';obtain rfl:=Option.some.inj hv;have:=hnew b hb;have:=old k v' hv' b hb';omega
  ·rw [List.getElem?_set_ne e] at hv
   by_cases e2:i=k
   ·subst e2
    rw[List.getElem?_set_self (by have:=(List.getElem?_eq_some_iff.1 hv').1;simpa using this)] at hv';obtain rfl:=Option.some.inj hv';have:=hnew b hb';have:=old j v hv b hb;omega
   ·rw [List.getElem?_set_ne e2] at hv'
    exact h.apart j k v v' hv hv' hne b hb hb'
end
end
section
attribute [local irreducible] xL
structure WoCan (P:Pg) (r:MB) (s:MI):Prop where
 rin:∀q ∈ r,q.1 < P.cells.length
 sin:∀q ∈ s,q.1 < P.cells.length/\-999999000<=q.2/\q.2<=999999000
def yR (C:LC) (P:Pg) (M':LM) (v:Value) (w:World) (e:Ending) (w':World):Prop:=e=.returned v/\Below C.B w w'/\∃ve' us',qX w' C ve' us' P M'
theorem PgOk.acVal {P:Pg} (h:PgOk P) {i:Nat} (hi:i < P.threads.length) {k j:Nat} {a:Ac} (ha:(P.acts i k)[j]?=some a):-1000<=a.val/\a.val<=1000:=by
 unfold Pg.acts Pg.txs at ha;obtain⟨x,hx⟩:∃x,P.threads[i]?=some x:=⟨_,List.getElem?_eq_getElem hi⟩
 simp only[List.getD_eq_getElem?_getD,hx,Option.getD_some] at ha;cases hl:x[k]? with
 |none=>rw[hl] at ha;simp at ha
 |some l=>
  rw[hl,Option.getD_some] at ha;rcases h.act x (List.mem_of_getElem? hx) l (List.mem_of_getElem? hl) j a ha with h|h <;> omega
section
variable {w:World} {C:LC} {ve:Value} {P:Pg} {M:LM} {us:List WkV}
theorem qX.size (h:qX w C ve us P M):C.B<=w.heap.size:=by have:=qh h.row;have:=h.hB;omega
theorem qX.ok (h:qX w C ve us P M):PgOk P:=let ⟨_,h1,_⟩:=h.dr;h1.walk.ok
theorem la_said (h:qX w C ve us P M) (i:Nat) (hi:i < P.threads.length) {t:Th} (ht:M.W.ths[i]?=some t) (val:Int) (abort:Bool) (hv:-999999000<=val/\val<=999999000) (hl:M.W.evs.length<=100000):
  Calls Tryz.prog 106 #[.pointer (some ⟨C.bD,0,none⟩),.int .i64 i,.int .i64 val,.bool abort] w (yR C P {M with W:=M.W.putO i (yV P i t val abort)} (.tuple #[]) w):=by
 obtain⟨vs,h1,h2,h3⟩:=h.dr;have hok:=h.ok;refine(d_answer h1 h.size i hi ht val abort (by simp[xN];omega) (fun a ha _ _=>by have:=hok.acVal hi ha;simp[xN];omega) hl).mono ?_;rintro e w1 ⟨rfl,hb,hk,ve',hd,ho⟩;refine⟨rfl,hb,ve',us,?_⟩;cases hr:yV P i t val abort with
 |none=>rw[hr] at hd;exact h.walked hk hd.walk ho
 |some y=>rw[hr] at hd;exact h.walked hk hd.walk ho
theorem BxM.below {w':World} {i p1 p2:Nat} (h:BxM w C i p1 p2) (hb:Below w.heap.size w w'):BxM w' C i p1 p2:=h.keep (fun p u hp=>qp hp hb (qh hp)) (fun p u hp=>qp hp hb (qh hp))
theorem LsBx.below {w':World} {p3:Nat} {l:List Int} (h:LsBx w C p3 l) (hb:Below w.heap.size w w'):LsBx w' C p3 l:=by
 obtain⟨g,off,cap,cs,h1,h2,r⟩:=h;exact⟨g,off,cap,cs,qp h1 hb (qh h1),qp h2 hb (qh h2),r⟩
theorem IxBx.below {w':World} {p:Nat} {n:Int} (h:IxBx w C p n) (hb:Below w.heap.size w w'):IxBx w' C p n:=⟨qp h.1 hb (qh h.1),h.2⟩
theorem la_tx (h:qX w C ve us P M) (i:Nat) (hi:i < P.threads.length) {t:Th} (ht:M.W.ths[i]?=some t) (hd:qR P i t=false) (hb:t.begun=true):
  Calls Tryz.prog 112 #[.pointer (some ⟨C.bD,0,none⟩),.int .i64 i] w fun e w'=>e=.returned (.int .i64 (qG i t.tx))/\Below w.heap.size w w':=by
 obtain⟨vs,h1,h2,h3⟩:=h.dr;have d2:=qg h1.row 2;have lD:=qh h1.row;have hc:=wk_tx h1.walk i hi ht;rw[if_pos ⟨hd,hb⟩] at hc;have HC:=qj hc;clear h h1 h3 hc;go_enter Tryz.func112,Tryz.ntmps112;go_wp2_with fail;refine(HC.o).mono ?_;rintro e w1 ⟨rfl,rfl⟩;clear HC;go_wp2;go_ret;exact⟨rfl,(Below.refl _ _).drew⟩
end
end
section
attribute [local irreducible] xL
def yS (C:LC) (P:Pg) (i:Nat) (y:LM×Nx) (w:World) (e:Ending) (w':World):Prop:=∃v ve' us',e=.returned v/\Below C.B w w'/\qX w' C ve' us' P y.1/\NxAt w' C i ve' v y.2
theorem offN_get (id:Int) (n:Nat) (cs:List Ce) (k:Nat):(offN id n cs)[k]?=cs[k]?.map fun c=>if k < n/\c.own=id then⟨c.val,c.ver,0⟩ else c:=by simp[offN,List.getElem?_mapIdx]
theorem offN_len (id:Int) (n:Nat) (cs:List Ce):(offN id n cs).length=cs.length:=by simp[offN]
theorem offCs_len (id:Int) (cs:List Ce):(ze id cs).length=cs.length:=offN_len _ _ _
theorem offN_zero (id:Int) (cs:List Ce):offN id 0 cs=cs:=by
 apply List.ext_getElem?;intro k;rw[offN_get];cases cs[k]? <;> simp
theorem offN_at {id:Int} {n:Nat} {cs:List Ce} {c:Ce} (hc:cs[n]?=some c):(offN id n cs)[n]?=some c:=by rw[offN_get,hc];simp
theorem offN_own {id:Int} {n:Nat} {cs:List Ce} {c:Ce} (hc:cs[n]?=some c) (h:c.own=id):(offN id n cs).set n ⟨c.val,c.ver,0⟩=offN id (n+1) cs:=by
 apply List.ext_getElem?;intro j;by_cases e:n=j
 ·subst e
  rw[List.getElem?_set_self (by rw[offN_len];exact(List.getElem?_eq_some_iff.1 hc).1),offN_get,hc];simp[h]
 ·rw [List.getElem?_set_ne e,offN_get,offN_get]
  cases cs[j]? with
  |none=>rfl
  |some d=>simp only[Option.map_some];congr 2;simp only[eq_iff_iff];constructor <;> (rintro⟨h1,h2⟩;exact⟨by omega,h2⟩)
theorem offN_not {id:Int} {n:Nat} {cs:List Ce} {c:Ce} (hc:cs[n]?=some c) (h:c.own≠id):offN id n cs=offN id (n+1) cs:=by
 apply List.ext_getElem?;intro j;rw[offN_get,offN_get];by_cases e:n=j
 ·subst e
  rw[hc];simp[h]
 ·cases cs[j]? with
  |none=>rfl
  |some d=>simp only[Option.map_some];congr 2;simp only[eq_iff_iff];constructor <;> (rintro⟨h1,h2⟩;exact⟨by omega,h2⟩)
section
variable {w w':World} {C:LC} {ve:Value} {P:Pg} {M:LM} {us:List WkV}
theorem qX.ceForm (h:qX w C ve us P M):∃gC cc,C.ce=.slice (some ⟨gC,0,none⟩) P.cells.length cc:=by
 have h1:=h.ok.cells.1;have h2:=h.clen;rcases h.cells.form with⟨-,hv⟩|⟨g,cap,hv,-⟩
 ·rw [hv] at h2;simp at h2;omega
 ·exact ⟨g,cap,by rw[hv,h2]⟩
theorem qX.ceAt (h:qX w C ve us P M) {gC cc:Nat} (hce:C.ce=.slice (some ⟨gC,0,none⟩) P.cells.length cc) {k:Nat} (hk:k < P.cells.length):
  gC < w.heap.size/\∃c,M.cs[k]?=some c/\w.cell? ⟨gC,k*3,none⟩=some (.int .i64 c.val)/\w.cell? ⟨gC,k*3+1,none⟩=some (.int .i64 c.ver)/\w.cell? ⟨gC,k*3+2,none⟩=some (.int .i64 c.own):=by
 have h2:=h.clen;have hcl:=h.cells;rw[hce,←h2] at hcl;obtain⟨g,off,c,hb,hgC,hc,hcc⟩:=Sl.atF Ce.len hcl.sl rfl (k:=k) (by omega);simp only[Option.some.injEq,Addr.mk.injEq,and_true] at hb;obtain⟨rfl,rfl⟩:=hb;refine⟨hgC,c,hc,?_,?_,?_⟩
 ·have:=hcc 0 (by decide);simpa[Ce.cells] using this
 ·have:=hcc 1 (by decide);simpa[Ce.cells] using this
 ·have:=hcc 2 (by decide);simpa[Ce.cells] using this
theorem qX.ceRow (h:qX w C ve us P M) {gC cc:Nat} (hce:C.ce=.slice (some ⟨gC,0,none⟩) P.cells.length cc):∃cs,w.heap[gC]?=some (.cells cs 276 (0,0)):=by
 have hcl:=h.cells;rw[hce] at hcl;exact hcl.keepObj gC rfl
theorem qX.ceSet (h:qX w C ve us P M) {gC cc:Nat} (hce:C.ce=.slice (some ⟨gC,0,none⟩) P.cells.length cc) {k j:Nat} {c u:Ce} {a:Value} (hc:M.cs[k]?=some c) (hj:j < 3) (hu:u.cells=c.cells.set j a):
  qX (w.setCell ⟨gC,k*3+j,none⟩ a) C ve us P {M with cs:=M.cs.set k u}/\C.B<=gC/\Kd (fun t=>t=276) w (w.setCell ⟨gC,k*3+j,none⟩ a)/\KmAll w (w.setCell ⟨gC,k*3+j,none⟩ a)/\∀q,q≠gC->(w.setCell ⟨gC,k*3+j,none⟩ a).heap[q]?=w.heap[q]?:=by
 obtain⟨csr,hrC⟩:=h.ceRow hce;have kd1:Kd (fun t=>t=276) w (w.setCell ⟨gC,k*3+j,none⟩ a):=Kd.set (T:=fun t=>t=276) hrC rfl _;have km1:KmAll w (w.setCell ⟨gC,k*3+j,none⟩ a):=KmAll.set hrC _;refine⟨h.turn (ws':=M.ws) (fun k cs t fz h1 h2=>kd1 k cs t fz h1 (fun e=>h2 (.inl e))) ?_ (by rw[List.length_set];exact h.clen) (h.wks.keep (qq.kd h.wks.own kd1 (by decide)) km1),(h.cells.lt gC (by rw[hce];rfl)).1,kd1,km1,fun q hq=>Below.heap_setCell _ ⟨gC,k*3+j,none⟩ _ q hq⟩;have h1:=h.cells;rw[hce] at h1 ⊢;exact own_setN h1 Ce.len hj hc hu
theorem qX.wkCell (h:qX w C ve us P M) {i:Nat} (hi:i < P.threads.length):∃u,us[i]?=some u/\C.gW < w.heap.size/\w.cell? ⟨C.gW,i*3,none⟩=some (.int .i64 u.1)/\w.cell? ⟨C.gW,i*3+1,none⟩=some u.2.1/\w.cell? ⟨C.gW,i*3+2,none⟩=some u.2.2:=by
 obtain⟨gW',off,x,hb,hgW,hx,hcw⟩:=Sl.atF wkC_len (show Sl w w.heap.size 3 (.slice (some ⟨C.gW,0,none⟩) P.threads.length P.threads.length) P.threads.length (us.flatMap wkC) from by have h2:=h.wks.own;have h3:=h2.len;rw[←h3] at h2 ⊢;exact h2.sl) h.wks.own.len hi;simp only[Option.some.injEq,Addr.mk.injEq,and_true] at hb;obtain⟨rfl,rfl⟩:=hb;refine⟨x,hx,hgW,?_,?_,?_⟩
 ·have:=hcw 0 (by decide);simpa[wkC] using this
 ·have:=hcw 1 (by decide);simpa[wkC] using this
 ·have:=hcw 2 (by decide);simpa[wkC] using this
theorem qX.woAt (h:qX w C ve us P M) {i:Nat} (hi:i < P.threads.length) {tm:Int} {r:MB} {s:MI} (hws:M.ws[i]?=some (some (tm,r,s))):∃br bs,us[i]?=some (tm,.map (some br),.map (some bs))/\WoAt w C.B (tm,.map (some br),.map (some bs)) (some (tm,r,s))/\C.gW < w.heap.size/\
  w.cell? ⟨C.gW,i*3,none⟩=some (.int .i64 tm)/\w.cell? ⟨C.gW,i*3+1,none⟩=some (.map (some br))/\w.cell? ⟨C.gW,i*3+2,none⟩=some (.map (some bs)):=by
 obtain⟨u,hu,hg,w0,w1,w2⟩:=h.wkCell hi;obtain⟨o,ho,hwo⟩:=h.wks.at hu;rw[hws] at ho;obtain rfl:=Option.some.inj ho;obtain⟨br,bs,rfl,rest⟩:=id hwo;exact⟨br,bs,hu,hwo,hg,w0,w1,w2⟩
theorem BxM.kd {i p1 p2:Nat} {T:TypeId->Prop} (h:BxM w C i p1 p2) (hk:Kd T w w') (h1:¬T 205) (h2:¬T 3):BxM w' C i p1 p2:=h.keep (fun p u hp=>hk _ _ _ _ hp h1) fun p u hp=>hk _ _ _ _ hp h2
theorem la_abort1 (h:qX w C ve us P M) (i:Nat) (hi:i < P.threads.length) {t:Th} (ht:M.W.ths[i]?=some t) (hd:qR P i t=false) (hbg:t.begun=true) (hl:M.W.evs.length<=100000) {p1 p2:Nat} (hx:BxM w C i p1 p2):
  Calls Tryz.prog 236 #[.pointer (some ⟨p1,0,none⟩),.pointer (some ⟨p2,0,none⟩)] w (yR C P (yK P M i t) .nilFunc w):=by
 have hn4:=h.ok.threads.2;have hc4:=h.ok.cells.2;obtain⟨gC,cc,hce⟩:=h.ceForm;have e0:=qg h.row 0;have lM:=qh h.row;have x0:=qg hx.1 0;have x1:=qg hx.2.1 0;have l1:=qh hx.1;have l2:=qh hx.2.1;have H:=qj h;have HT:=qj ht;have HD:=qj (And.intro hd hbg);have HCE:=qj hce;have HBX:=qj hx;clear h ht hce hx hd hbg;go_enter Tryz.func236,Tryz.ntmps236;go_wp2_with fail;refine qH [1,0,0,1,1,2,0] [0,1,2,3,4,5,6] (by kernel_rfl) ?_;simp only[qP,qD,sD,sE,sF,sG]
 repeat first|(refine qC fun K hK=>?_;go_simp;refine hK _ _ ?_;clear hK K)|(apply qJ;(intro w2 hw2;have hk1:=hw2.cell;have hk3:=hw2.heap;clear hw2;go_simp;with_reducible rfl);simp only[Act.put,sA,sB,sC])
 refine qN (fun K hK=>?_);go_simp;refine(la_tx (H.o.below (Below.refl _ w).drew) i hi HT.o HD.o.1 HD.o.2).mono ?_;rintro e X ⟨rfl,bX⟩;refine hK _ _ ?_;clear hK K;have bX:Below w.heap.size w X:=(Below.refl _ w).drew.trans bX
 repeat first|(refine qC fun K hK=>?_;go_simp;refine hK _ _ ?_;clear hK K)|refine qA ?_
 have HX:=qj (H.o.below bX);have BX:=qj (bX.mono H.o.size);have BXM:=qj (HBX.o.below bX);have x0:=qg BXM.o.1 0;have x1:=qg BXM.o.2.1 0;have l1:=qh BXM.o.1;have l2:=qh BXM.o.2.1;have e1:=qg HX.o.row 1;rw[HCE.o] at e1;have lM:=qh HX.o.row;clear bX H HBX e0;go_wp2_with fail;clear x0 x1 l1 l2 e1 lM
 go_loopw [16] (fun p wr=>∃(n:Nat),n<=P.cells.length/\p=.int .i64 n/\qX wr C ve us P {M with cs:=offN (qG i t.tx) n M.cs}/\Below C.B w wr/\BxM wr C i p1 p2) (fun p _=>P.cells.length - (intOf p).toNat)
 case atStart=>exact⟨0,by omega,by go_num,by rw[offN_zero];exact HX.o,BX.o,BXM.o⟩
 case round=>
  obtain⟨n,hn,rfl,hL,hB,hbx⟩:=hrel;have HL:=qj hL;have HB:=qj hB;have HBX:=qj hbx;clear hL hB hbx HX BX BXM;have x0:=qg HBX.o.1 0;have x1:=qg HBX.o.2.1 0;have l1:=qh HBX.o.1;have l2:=qh HBX.o.2.1;have e0:=qg HL.o.row 0;have e1:=qg HL.o.row 1;rw[HCE.o] at e1;have lM:=qh HL.o.row;have hcl:M.cs.length=P.cells.length:=by have:=HL.o.clen;rwa [offN_len] at this
  by_cases hlt:n < P.cells.length
  ·obtain ⟨c,hc⟩:∃c,M.cs[n]?=some c:=⟨_,List.getElem?_eq_getElem (by omega)⟩
   have hc3:=offN_at (id:=qG i t.tx) hc;obtain⟨lC,c',hc',c0,c1,c2⟩:=HL.o.ceAt HCE.o hlt;rw[hc3] at hc';obtain rfl:=Option.some.inj hc';by_cases ho:c.own=qG i t.tx
   ·have q1:(c.own==qG i t.tx)=true:=by simpa using ho
    obtain⟨L4,hBC,kd1,km1,ro⟩:=HL.o.ceSet HCE.o (k:=n) (j:=2) (c:=c) (u:=⟨c.val,c.ver,0⟩) (a:=.int .i64 0) hc3 (by decide) rfl;rw[offN_own hc ho] at L4;obtain⟨csr,hrC⟩:=HL.o.ceRow HCE.o;have ff1:=qx hrC (n*3+2);have bx4:=HBX.o.kd kd1 (by decide) (by decide);have b4:=HB.o.setCell (p:=⟨gC,n*3+2,none⟩) hBC (.int .i64 0);have HL4:=qj L4;have HB4:=qj b4;have HX4:=qj bx4;clear L4 kd1 km1 ro bx4 b4 hrC hc hc3 ho;go_wp2_with fail;go_roundw
    case rel=>exact⟨n+1,by omega,by go_num,HL4.o,HB4.o,HX4.o⟩
    case measure=>simp[intOf];omega
   ·have q1:(c.own==qG i t.tx)=false:=by simpa using ho
    have HL4:=qj (show qX wr C ve us P {M with cs:=offN (qG i t.tx) (n+1) M.cs} from by rw[←offN_not hc ho];exact HL.o);clear hc hc3 ho;go_wp2_with fail;go_roundw
    case rel=>exact⟨n+1,by omega,by go_num,HL4.o,HB.o,HBX.o⟩
    case measure=>simp[intOf];omega
  ·obtain rfl:n=P.cells.length:=by omega
   have HL2:=qj (show qX wr C ve us P {M with cs:=ze (qG i t.tx) M.cs} from by unfold ze;rw[hcl];exact HL.o);clear HL;go_wp2_with fail;refine qH [1,0,0,1,1,2] [0,1,2,3,4,5] (by kernel_rfl) ?_;simp only[qP,qD,sD,sE,sF,sG]
   repeat first|(refine qC fun K hK=>?_;go_simp;refine hK _ _ ?_;clear hK K)|(apply qJ;(intro w2 hw2;have hk1:=hw2.cell;have hk3:=hw2.heap;clear hw2;go_simp;with_reducible rfl);simp only[Act.put,sA,sB,sC])
   refine qN (fun K hK=>?_);go_simp;refine(la_said (HL2.o.below (Below.refl _ wr).drew) i hi HT.o 0 true (by omega) hl).mono ?_;rintro e X2 ⟨rfl,hb,ve',us',hla⟩;refine hK _ _ ?_;clear hK K;have B2:=qj (HB.o.drew.trans hb);have L2:=qj hla;clear hb hla x0 x1 e0 e1
   repeat refine qA ?_
   go_wp2;go_ret;exact⟨rfl,B2.o,ve',us',L2.o⟩
theorem yP (h:qX w C ve us P M) (i:Nat):Calls Tryz.prog 191 #[.pointer (some ⟨C.bM,0,none⟩),.int .i64 i] w fun e w'=>∃p1 p2,e=.returned (.func (.func 236) #[] #[.pointer (some ⟨p1,0,none⟩),.pointer (some ⟨p2,0,none⟩)])/\Below w.heap.size w w'/\BxM w' C i p1 p2:=by
 have hB:=h.size;have bA:Below w.heap.size w ((w.alloc (.cells #[.pointer (some ⟨C.bM,0,none⟩)] 205)).alloc (.cells #[.int .i64 i] 3)):=((Below.refl _ w).alloc (Nat.le_refl _) _).alloc (by simp) _;have hbx:BxM ((w.alloc (.cells #[.pointer (some ⟨C.bM,0,none⟩)] 205)).alloc (.cells #[.int .i64 i] 3)) C i w.heap.size (w.heap.size+1):=⟨qF (qy w _),qL (by simp),hB,by omega⟩
 have BA:=qj bA;have BX:=qj hbx;clear h bA hbx;go_enter Tryz.func191,Tryz.ntmps191;go_wp2;go_ret;exact⟨_,_,rfl,BA.o,BX.o⟩
theorem la_mkCommit (h:qX w C ve us P M) (i:Nat):Calls Tryz.prog 192 #[.pointer (some ⟨C.bM,0,none⟩),.int .i64 i] w fun e w'=>∃p1 p2,e=.returned (.func (.func 237) #[] #[.pointer (some ⟨p1,0,none⟩),.pointer (some ⟨p2,0,none⟩)])/\Below w.heap.size w w'/\BxM w' C i p1 p2:=by
 have hB:=h.size;have bA:Below w.heap.size w ((w.alloc (.cells #[.pointer (some ⟨C.bM,0,none⟩)] 205)).alloc (.cells #[.int .i64 i] 3)):=((Below.refl _ w).alloc (Nat.le_refl _) _).alloc (by simp) _;have hbx:BxM ((w.alloc (.cells #[.pointer (some ⟨C.bM,0,none⟩)] 205)).alloc (.cells #[.int .i64 i] 3)) C i w.heap.size (w.heap.size+1):=⟨qF (qy w _),qL (by simp),hB,by omega⟩
 have BA:=qj bA;have BX:=qj hbx;clear h bA hbx;go_enter Tryz.func192,Tryz.ntmps192;go_wp2;go_ret;exact⟨_,_,rfl,BA.o,BX.o⟩
theorem la_mkTick (h:qX w C ve us P M) (i:Nat):Calls Tryz.prog 238 #[.pointer (some ⟨C.bM,0,none⟩),.int .i64 i] w fun e w'=>∃p1 p2,e=.returned (.func (.func 251) #[] #[.pointer (some ⟨p1,0,none⟩),.pointer (some ⟨p2,0,none⟩)])/\Below w.heap.size w w'/\BxM w' C i p1 p2:=by
 have hB:=h.size;have bA:Below w.heap.size w ((w.alloc (.cells #[.pointer (some ⟨C.bM,0,none⟩)] 205)).alloc (.cells #[.int .i64 i] 3)):=((Below.refl _ w).alloc (Nat.le_refl _) _).alloc (by simp) _;have hbx:BxM ((w.alloc (.cells #[.pointer (some ⟨C.bM,0,none⟩)] 205)).alloc (.cells #[.int .i64 i] 3)) C i w.heap.size (w.heap.size+1):=⟨qF (qy w _),qL (by simp),hB,by omega⟩
 have BA:=qj bA;have BX:=qj hbx;clear h bA hbx;go_enter Tryz.func238,Tryz.ntmps238;go_wp2;go_ret;exact⟨_,_,rfl,BA.o,BX.o⟩
theorem la_com1 (h:qX w C ve us P M) (i:Nat) (hi:i < P.threads.length) {t:Th} (ht:M.W.ths[i]?=some t) (hl:M.W.evs.length<=100000) {p1 p2:Nat} (hx:BxM w C i p1 p2):
  Calls Tryz.prog 237 #[.pointer (some ⟨p1,0,none⟩),.pointer (some ⟨p2,0,none⟩)] w (yR C P {M with W:=M.W.putO i (yV P i t 0 false)} .nilFunc w):=by
 have y0:=qg hx.1 0;have y1:=qg hx.2.1 0;have k0:=qh hx.1;have k1:=qh hx.2.1;have e0:=qg h.row 0;have lm:=qh h.row;have H:=qj h;have HT:=qj ht;clear h ht hx;go_enter Tryz.func237,Tryz.ntmps237;go_wp2_with fail;refine qH [1,0,0,1,1,2] [0,1,2,3,4,5] (by kernel_rfl) ?_;simp only[qP,qD,sD,sE,sF,sG]
 repeat first|(refine qC fun K hK=>?_;go_simp;refine hK _ _ ?_;clear hK K)|(apply qJ;(intro w2 hw2;have hk1:=hw2.cell;have hk3:=hw2.heap;clear hw2;go_simp;with_reducible rfl);simp only[Act.put,sA,sB,sC])
 refine qN (fun K hK=>?_);go_simp;refine(la_said (H.o.below (Below.refl _ w).drew) i hi HT.o 0 false (by omega) hl).mono ?_;rintro e X2 ⟨rfl,hb,ve',us',hla⟩;refine hK _ _ ?_;clear hK K;have B2:=qj ((Below.refl C.B w).drew.trans hb);have L2:=qj hla;clear hb hla y0 y1 e0
 repeat refine qA ?_
 go_wp2;go_ret;exact⟨rfl,B2.o,ve',us',L2.o⟩
end
end
section
variable {P:Pg} {S S':yk} {A:Au}
theorem acts_kinds (hok:PgOk P) {i:Nat} (hi:i < P.threads.length) {t:Th} (hd:qR P i t=false) (htk:ThOk P i t) {a:Ac} (ha:(P.acts i t.tx)[t.act]?=some a) (hk:a.kind≠4):(a.kind=1/\a.val=0\/a.kind=2\/a.kind=3)/\0<=a.cell/\a.cell < P.cells.length/\-1000<=a.val/\a.val<=1000:=by
 have htx:=zb hok hi htk hd;rcases hok.at hi htx ha with⟨hk',-⟩|h
 ·exact absurd hk' hk
 ·exact h
def BInv (P:Pg) (S:yk):Prop:=∀(i:Nat) (t:Th),S.ths[i]?=some t->t.begun=true->t.tx < (P.txs i).length
theorem bstep (hok:PgOk P) (hB:BInv P S) {i:Nat} (hi:i < P.threads.length) {t:Th} (ht:S.ths[i]?=some t) (hd:qR P i t=false) (htk:ThOk P i t) (hs:Wk1 P S i t S'):BInv P S':=by
 have hlt:=zb hok hi htk hd;have e1:∀u:Th,(xw u).begun=false:=fun _=>rfl;cases hs with
 |same=>exact hB
 |begin hw hb=>exact bput hB fun _=>hlt
 |call a hw hb ha hk=>exact bput hB fun _=>hlt
 |cancel a hw hb ha hk=>exact bput hB fun _=>hlt
 |try_ hw hb ha=>exact bput hB fun _=>hlt
 |wrote a hw hb ha hk=>exact bput hB fun _=>hlt
 |read a v hw hb ha hk hv=>exact bput hB fun _=>by unfold rdTh;split <;> exact hlt
 |abort hw hb=>exact bput hB fun h=>by rw[e1] at h;cases h
 |commit hw hb=>exact bput hB fun h=>by rw[e1] at h;cases h
theorem jzero (P:Pg):JInv P ⟨List.replicate P.threads.length Th.zero,[]⟩ []:=by
 have hz:∀(i:Nat) (t:Th),(List.replicate P.threads.length Th.zero)[i]?=some t->t=Th.zero:=fun i t ht=>List.eq_of_mem_replicate (List.mem_of_getElem? ht);refine⟨.nil,fun e he=>(nomatch he),Nat.zero_le _,fun i t ht k hk=>?_,fun i t ht hb=>?_,fun s hs=>(nomatch hs),List.nodup_nil,fun i t ht=>?_,fun i t ht=>?_,fun s hs=>(nomatch hs),fun i t s d a ht hs=>(nomatch hs)⟩
 ·rw [hz i t ht] at hk;cases hk
 ·rw [hz i t ht] at hb;cases hb
 ·rw [hz i t ht];exact⟨.inl rfl,fun _=>⟨rfl,rfl⟩,fun h=>by cases h⟩
 ·rw [hz i t ht];exact⟨Nat.zero_le _,fun h=>by cases h⟩
theorem bzero (P:Pg):BInv P ⟨List.replicate P.threads.length Th.zero,[]⟩:=fun i t ht hb=>by
 have:t=Th.zero:=List.eq_of_mem_replicate (List.mem_of_getElem? ht);rw[this] at hb;cases hb
theorem jevs (hJ:JInv P S A) (hok:PgOk P) (hthl:S.ths.length=P.threads.length) (htk:∀(i:Nat) (t:Th),S.ths[i]?=some t->ThOk P i t):S.evs.length<=400:=by
 have h1:=hJ.cnt;have h2:∀t ∈ S.ths,hTh t<=99:=fun t ht=>by
  obtain⟨i,hi⟩:=List.mem_iff_getElem?.1 ht;have h3:=hJ.bt i t hi;have h4:=(htk i t hi).act;have h5:(P.acts i t.tx).length<=6:=acts_le hok (by rw[←hthl];exact(List.getElem?_eq_some_iff.1 hi).1) _;have h6:=(hJ.wt i t hi).2.1;unfold hTh;cases hb:t.begun with
  |false=>
   obtain⟨h7,h8⟩:=h6 hb;rw[h7,h8];simp
   split <;> omega
  |true=>
   have:=h3.2 hb;simp
   split <;> split <;> omega
 have h3:∀(l:List Th),(∀t ∈ l,hTh t<=99)->sumTh l<=99*l.length:=fun l=>by
  induction l with
  |nil=>intro _;simp[sumTh]
  |cons x l ih=>
   intro hl;have:=ih fun t ht=>hl t (List.mem_cons_of_mem _ ht);have:=hl x (List.mem_cons_self ..);simp only[sumTh,List.map_cons,List.sum_cons,List.length_cons] at *;omega
 have:=h3 _ h2;rw[hthl] at this;have:=hok.threads.2;omega
end
