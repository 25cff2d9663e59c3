/- Parts of the proof, merged by program out of 2 texts (EnC, EmE): the first: A program's copy. Conditions: those of each theorem, as typed. -/
import Derived.Test.YtkfhgifhfkcehaaGreatDoorQL04
set_option linter.unusedVariables false
set_option linter.unusedSimpArgs false
set_option linter.unusedSectionVars false
set_option maxRecDepth 100000
set_option maxHeartbeats 4000000
namespace Go.Proofs.YtkfhgifhfkcehaaGreatDoor
open Go.RowKit
section
attribute [local irreducible] wpL
theorem infoI:(Tryz.prog.info? 3).map (fun i=>(i.zero,i.size,i.bytes))=some (some (.int .i64 0),1,8):=by kernel_rfl
theorem infoA:(Tryz.prog.info? 118).map (fun i=>(i.zero,i.size,i.bytes))=some (some (.agg #[.int .i64 0,.int .i64 0,.int .i64 0]),3,24):=by kernel_rfl
theorem infoX:(Tryz.prog.info? 80).map (fun i=>(i.zero,i.size,i.bytes))=some (some (.slice none 0 0),1,24):=by kernel_rfl
theorem infoY:(Tryz.prog.info? 79).map (fun i=>(i.zero,i.size,i.bytes))=some (some (.slice none 0 0),1,24):=by kernel_rfl
theorem intC_len (x:Int):(intC x).length=1:=rfl
theorem in_one (x:Int):∀u ∈ intC x,u.oneCell'=true:=by intro u hu;simp[intC] at hu;subst hu;rfl
theorem ac_one (x:Ac):∀u ∈ x.cells,u.oneCell'=true:=by intro u hu;simp[Ac.cells] at hu;rcases hu with rfl|rfl|rfl <;> rfl
theorem val_one (a:Option Addr) {n c:Nat}:∀u ∈ valC (.slice a n c),u.oneCell'=true:=by intro u hu;simp[valC] at hu;subst hu;rfl
theorem PgIs.intC {w:World} {B:Nat} {vc vt:Value} {P:Pg} (h:PgIs w B vc vt P):Sl w B 1 vc P.cells.length (P.cells.flatMap intC):=by rw[flat_int];exact h.cells
theorem OwnF.box2 {α:Type} {f:α→List Value} {e T:TypeId} {sz B p:Nat} {X:World} {v x y u1 u2:Value} {l:List α} (h:OwnF f e sz X B v l) (r:X.heap[p]?=some (.cells #[x,y] T (0,0))) (he:T≠e):
  OwnF f e sz ((X.setCell ⟨p,0,none⟩ u1).setCell ⟨p,1,none⟩ u2) B v l:=
 OwnF.other (OwnF.other h (OwnF.neT h r he) u1) (OwnF.neT h r he) u2
theorem row2 {X:World} {p:Nat} {x y u1 u2:Value} {T:TypeId} (r:X.heap[p]?=some (.cells #[x,y] T (0,0))):((X.setCell ⟨p,0,none⟩ u1).setCell ⟨p,1,none⟩ u2).heap[p]?=some (.cells #[u1,u2] T (0,0)):=
 row_set (row_set r 0 u1) 1 u2
theorem OwnF.grwT {α β:Type} {f:α→List Value} {f1:β→List Value} {e e1:TypeId} {sz sz1 B B1:Nat} {w w':World} {v v1 v2:Value} {l:List α} {l1:List β} (h:OwnF f e sz w B v l) (h1:OwnF f1 e1 sz1 w B1 v1 l1) (he:e≠e1) (hb:Grw w w' v1 v2):OwnF f e sz w' B v l:=
 h.grw hb fun k hk hk1=>by
  obtain⟨c1,r1⟩:=h.keepObj k hk
  obtain⟨c2,r2⟩:=h1.keepObj k hk1
  rw[r1] at r2
  simp only[Option.some.injEq,Obj.cells.injEq] at r2
  exact he r2.2.1
theorem OwnTxs.map {w w':World} {B:Nat} {v:Value} {l:List (List Ac)} (h:OwnTxs w B v l) (h1:∀vs,OwnF valC 80 1 w B v vs→OwnF valC 80 1 w' B v vs) (h2:∀u x,OwnActs w B u x→OwnActs w' B u x):OwnTxs w' B v l:=
 let ⟨vs,a,b,c⟩:=h;⟨vs,h1 vs a,b,fun k u x hu hx=>h2 u x (c k u x hu hx)⟩
theorem OwnThr.map {w w':World} {B:Nat} {v:Value} {l:List (List (List Ac))} (h:OwnThr w B v l) (h1:∀vs,OwnF valC 79 1 w B v vs→OwnF valC 79 1 w' B v vs) (h2:∀u x,OwnTxs w B u x→OwnTxs w' B u x):OwnThr w' B v l:=
 let ⟨vs,a,b,c⟩:=h;⟨vs,h1 vs a,b,fun k u x hu hx=>h2 u x (c k u x hu hx)⟩
theorem OwnThr.map2 {w w':World} {B B':Nat} {v:Value} {l:List (List (List Ac))} (h:OwnThr w B v l) (_:B'≤B) (h1:∀{v} vs,OwnF valC 79 1 w B v vs→OwnF valC 79 1 w' B' v vs) (h2:∀{v} vs,OwnF valC 80 1 w B v vs→OwnF valC 80 1 w' B' v vs)
  (h3:∀u x,OwnActs w B u x→OwnActs w' B' u x):OwnThr w' B' v l:=
 let ⟨vs,a,b,c⟩:=h;⟨vs,h1 vs a,b,fun k u x hu hx=>let ⟨vs2,a2,b2,c2⟩:=c k u x hu hx;⟨vs2,h2 vs2 a2,b2,fun k u x hu hx=>h3 u x (c2 k u x hu hx)⟩⟩
theorem OwnTxs.alloc {w:World} {B:Nat} {v:Value} {l:List (List Ac)} (h:OwnTxs w B v l) (o:Obj):OwnTxs (w.alloc o) B v l:=h.map (fun _ h=>h.alloc o) (fun _ _ h=>OwnF.alloc h o)
theorem OwnThr.alloc {w:World} {B:Nat} {v:Value} {l:List (List (List Ac))} (h:OwnThr w B v l) (o:Obj):OwnThr (w.alloc o) B v l:=h.map (fun _ h=>h.alloc o) (fun _ _ h=>h.alloc o)
theorem OwnTxs.below {w w':World} {B:Nat} {v:Value} {l:List (List Ac)} (h:OwnTxs w B v l) (hb:Below w.heap.size w w'):OwnTxs w' B v l:=h.map (fun _ h=>OwnF.below h hb) (fun _ _ h=>OwnF.below h hb)
theorem OwnThr.below {w w':World} {B:Nat} {v:Value} {l:List (List (List Ac))} (h:OwnThr w B v l) (hb:Below w.heap.size w w'):OwnThr w' B v l:=h.map (fun _ h=>OwnF.below h hb) (fun _ _ h=>h.below hb)
theorem OwnTxs.grwT {β:Type} {f1:β→List Value} {e1:TypeId} {sz1 B1 B:Nat} {w w':World} {v v1 v2:Value} {l:List (List Ac)} {l1:List β} (h:OwnTxs w B v l) (h1:OwnF f1 e1 sz1 w B1 v1 l1) (he:80≠e1) (he2:118≠e1) (hb:Grw w w' v1 v2):OwnTxs w' B v l:=
 h.map (fun _ h=>h.grwT h1 he hb) (fun _ _ h=>OwnF.grwT h h1 he2 hb)
theorem OwnThr.grwT {β:Type} {f1:β→List Value} {e1:TypeId} {sz1 B1 B:Nat} {w w':World} {v v1 v2:Value} {l:List (List (List Ac))} {l1:List β} (h:OwnThr w B v l) (h1:OwnF f1 e1 sz1 w B1 v1 l1) (he0:79≠e1) (he:80≠e1) (he2:118≠e1) (hb:Grw w w' v1 v2):OwnThr w' B v l:=
 h.map (fun _ h=>h.grwT h1 he0 hb) (fun _ _ h=>h.grwT h1 he he2 hb)
theorem OwnTxs.snoc {w w':World} {B:Nat} {v v' u:Value} {l:List (List Ac)} {x:List Ac} {vs:List Value} (hv:OwnF valC 80 1 w B v vs) (hl:vs.length=l.length) (hc:∀(k:Nat) (u:Value) (x:List Ac),vs[k]?=some u→l[k]?=some x→OwnActs w B u x)
  (hu:OwnActs w B u x) (h':OwnF valC 80 1 w' B v' (vs++[u])) (hb:Grw w w' v v'):OwnTxs w' B v' (l++[x]):=by
 refine⟨_,h',by simp[hl],fun k u' x' hu' hx'=>?_⟩
 rcases Nat.lt_trichotomy k l.length with h|h|h
 ·rw [List.getElem?_append_left (by omega)] at hu' hx'
  exact OwnF.grwT (hc k u' x' hu' hx') hv (by decide) hb
 ·subst h
  rw[List.getElem?_append_right (by omega)] at hu' hx'
  simp[hl] at hu' hx'
  subst hu' hx'
  exact OwnF.grwT hu hv (by decide) hb
 ·rw [List.getElem?_eq_none (by simp;omega)] at hx'
  cases hx'
theorem OwnThr.snoc {w w':World} {B:Nat} {v v' u:Value} {l:List (List (List Ac))} {x:List (List Ac)} {vs:List Value} (hv:OwnF valC 79 1 w B v vs) (hl:vs.length=l.length) (hc:∀(k:Nat) (u:Value) (x:List (List Ac)),vs[k]?=some u→l[k]?=some x→OwnTxs w B u x)
  (hu:OwnTxs w B u x) (h':OwnF valC 79 1 w' B v' (vs++[u])) (hb:Grw w w' v v'):OwnThr w' B v' (l++[x]):=by
 refine⟨_,h',by simp[hl],fun k u' x' hu' hx'=>?_⟩
 rcases Nat.lt_trichotomy k l.length with h|h|h
 ·rw [List.getElem?_append_left (by omega)] at hu' hx'
  exact(hc k u' x' hu' hx').grwT hv (by decide) (by decide) hb
 ·subst h
  rw[List.getElem?_append_right (by omega)] at hu' hx'
  simp[hl] at hu' hx'
  subst hu' hx'
  exact hu.grwT hv (by decide) (by decide) hb
 ·rw [List.getElem?_eq_none (by simp;omega)] at hx'
  cases hx'
theorem take_step {α:Type} {l:List α} {k:Nat} {x:α} (h:l[k]?=some x):l.take (k+1)=l.take k++[x]:=by rw[List.take_add_one,h];rfl
def CloneRet (P:Pg) (w:World) (e:Ending) (w':World):Prop:=∃uc ut,e=.returned (.agg #[uc,ut])∧OwnI w' w.heap.size uc P.cells∧OwnThr w' w.heap.size ut P.threads∧Below w.heap.size w w'
def CloneMid (P:Pg) (w W:World) (ac:Option Addr) (cc:Nat) (at':Option Addr) (ct:Nat):Exit→Act→World→Prop:=fun e a' X=>
 ∃(p3 g:Nat) (uc:Value),e=.normal∧a'={tmps:=#[(.agg #[.slice ac P.cells.length cc,.slice at' P.threads.length ct]),.pointer (some ⟨w.heap.size,0,none⟩),.pointer (some ⟨w.heap.size+1,0,none⟩),.pointer (some ⟨p3,0,none⟩),undef,undef,undef,undef,undef,.pointer (some ⟨w.heap.size,0,none⟩),.slice ac P.cells.length cc,.int .i64 P.cells.length,.slice (some ⟨g,0,none⟩) 0 P.cells.length,.pointer (some ⟨w.heap.size,0,none⟩),.slice ac P.cells.length cc,uc,.agg #[uc,.slice none 0 0],undef,undef,undef,undef,undef,undef,undef,undef,undef,undef,undef,undef,undef,undef,undef,undef,undef,undef,undef,undef,undef,undef,undef,undef,undef,undef,undef,undef,undef,undef,undef,undef,undef],defers:=[]}∧W.heap.size≤p3∧X.heap[p3]?=some (.cells #[uc,.slice none 0 0] 25 (0,0))∧OwnI X W.heap.size uc P.cells∧Below W.heap.size W X
theorem p_Clone (vc vt:Value) (P:Pg) (w:World) (h:PgIs w w.heap.size vc vt P) (hP:PgOk P):Calls Tryz.prog 59 #[.agg #[vc,vt]] w (CloneRet P w):=by
 obtain⟨ac,cc,rfl,mc⟩:=h.cells.ex
 obtain⟨at',ct,rfl,mt⟩:=h.thr.ex
 have H:=hid h
 have HP:=hid hP
 have hc4:=hP.cells
 have ht4:=hP.threads
 clear h hP
 go_enter Tryz.func59,Tryz.ntmps59
 go_wp2
 have b0:Below w.heap.size w ((w.alloc (.cells #[(.slice ac P.cells.length cc),(.slice at' P.threads.length ct)] 25)).alloc (.cells #[.slice none 0 0,.slice none 0 0] 25)):=((Below.refl _ w).alloc (Nat.le_refl _) _).alloc (by simp) _
 have r1:=row_old (o:=.cells #[.slice none 0 0,.slice none 0 0] 25) (row_new w (.cells #[(.slice ac P.cells.length cc),(.slice at' P.threads.length ct)] 25))
 have r2:=row_new' (w:=w.alloc (.cells #[(.slice ac P.cells.length cc),(.slice at' P.threads.length ct)] 25)) (o:=.cells #[.slice none 0 0,.slice none 0 0] 25) (g:=w.heap.size+1) (by simp)
 have z0:w.heap.size+2≤((w.alloc (.cells #[(.slice ac P.cells.length cc),(.slice at' P.threads.length ct)] 25)).alloc (.cells #[.slice none 0 0,.slice none 0 0] 25)).heap.size:=by simp
 generalize (w.alloc (.cells #[(.slice ac P.cells.length cc),(.slice at' P.threads.length ct)] 25)).alloc (.cells #[.slice none 0 0,.slice none 0 0] 25)=W at *
 have d0:W.cell? ⟨w.heap.size,0,none⟩=some (.slice ac P.cells.length cc):=row_cell r1 0
 have R2:=hid r2
 have R1:=hid r1
 have B0:=hid b0
 have lw:w.heap.size < W.heap.size:=by omega
 clear r1 r2 b0
 refine wp_mono (Q:=CloneMid P w W ac cc at' ct) ?_ ?_
 ·
  refine wp_rN (W.heap.size) [0,1,0,3,0,1,2,0,3,2] (.frk [0,1,2,4,5] (.frk [3] (.fin [6,7,8,9]) (.fin [8,6,7,9])) (.fin [8,3,6,7,9])) (by kernel_rfl) ?_
  simp only[wpT,selX,guardAt,sD,sE,sF,sG]
  repeat first|(refine wpL_p fun K hK=>?_;go_simp;refine hK _ _ ?_;clear hK K)|(apply wpL_s;(intro w2 hw2;have hk1:=hw2.cell;have hk3:=hw2.1;clear hw2;go_simp;with_reducible rfl);simp only[Act.put,sA,sB,sC])|refine wpL_nil ?_
  refine⟨?_,?_⟩
  ·
   refine wpL_k (fun K hK=>?_)
   refine wp_makeF (f:=intC) (e:=3) (sz:=1) (B:=W.heap.size) _ _ _ rfl _ 8 Tryz.underlying22 infoI rfl rfl (by first|omega|(simp <;> omega)) (by first|omega|(simp <;> omega)) (by first|omega|(simp <;> omega)) ?_
   intro w1 o1 b1 z1
   refine hK _ _ (RN.KeepsN.of_below b1) ?_
   clear hK K
   have b1:Below W.heap.size W w1:=(Below.refl _ W).drew.trans b1
   have z1:W.heap.size+1≤w1.heap.size:=z1
   repeat refine wpL_nil ?_
   refine⟨?_,?_⟩
   ·
    refine wpL_e (fun K hK=>?_)
    refine wp_appA _ _ _ rfl _ 8 Tryz.underlying22 infoI rfl o1 P.cells rfl ((H.out.below B0.out).below (b1.mono (by omega))).intC (by first|omega|(simp <;> omega)) rfl rfl intC_len in_one (by first|omega|(simp <;> omega)) (by first|omega|(simp <;> omega)) ?_
    intro v' w2 o2 g2
    refine hK _ _ ?_
    clear hK K
    obtain⟨ua,uk,rfl,-⟩:=OwnF.form2 (show OwnI w2 W.heap.size v' P.cells from o2)
    have b2:=b1.trans (g2.below b1.size fun k h=>(o1.lt k h).1)
    have O2:=hid (show OwnI w2 W.heap.size (.slice ua P.cells.length uk) P.cells from o2)
    have B2:=hid b2
    have z2:=b2.size
    clear o1 b1 g2 o2 b2
    repeat (refine wpL_p fun K hK=>?_;go_simp;refine hK _ _ ?_;clear hK K)
    refine wpL_k (fun K hK=>?_)
    go_simp
    refine hK _ _ (RN.KeepsN.alloc _ _ (by first|omega|exact Nat.le_refl _)) ?_
    clear hK K
    refine wpL_e (fun K hK=>?_)
    go_simp
    refine hK _ _ ?_
    clear hK K
    repeat refine wpL_nil ?_
    exact⟨w2.heap.size,W.heap.size,_,rfl,rfl,by omega,row_new w2 _,O2.out.alloc _,B2.out.alloc z2 _⟩
   ·
    refine wpL_k (fun K hK=>?_)
    go_simp
    refine hK _ _ (RN.KeepsN.alloc _ _ (by first|omega|exact Nat.le_refl _)) ?_
    clear hK K
    have b3:=b1.alloc (by omega) (.cells #[.slice none 0 0,.slice none 0 0] 25)
    have r3:=row_new w1 (.cells #[.slice none 0 0,.slice none 0 0] 25)
    have o3:=o1.alloc (.cells #[.slice none 0 0,.slice none 0 0] 25)
    have z3:w1.heap.size+1≤(w1.alloc (.cells #[.slice none 0 0,.slice none 0 0] 25)).heap.size:=by simp
    generalize hX:w1.alloc (.cells #[.slice none 0 0,.slice none 0 0] 25)=X3 at *
    refine wpL_e (fun K hK=>?_)
    refine wp_appA _ _ _ rfl _ 8 Tryz.underlying22 infoI rfl o3 P.cells rfl ((H.out.below B0.out).below (b3.mono (by omega))).intC (by first|omega|(simp <;> omega)) rfl rfl intC_len in_one (by first|omega|(simp <;> omega)) (by first|omega|(simp <;> omega)) ?_
    intro v' w2 o2 g2
    refine hK _ _ ?_
    clear hK K
    obtain⟨ua,uk,rfl,-⟩:=OwnF.form2 (show OwnI w2 W.heap.size v' P.cells from o2)
    have b2:=b3.trans (g2.below b3.size fun k h=>(o3.lt k h).1)
    have r2:=row_grw r3 g2 (by simp[Value.ownBlock];omega)
    have O2:=hid (show OwnI w2 W.heap.size (.slice ua P.cells.length uk) P.cells from o2)
    have B2:=hid b2
    have z2:=b2.size
    have z4:=g2.size
    clear o1 o3 b1 b3 g2 o2 b2 r3
    have y0:w2.cell? ⟨w1.heap.size,0,none⟩=some (.slice none 0 0):=row_cell r2 0
    have y1:w2.cell? ⟨w1.heap.size,1,none⟩=some (.slice none 0 0):=row_cell r2 1
    have yf:∀j,w2.frozen? ⟨w1.heap.size,j,none⟩=false:=fun j=>row_free r2 j
    have R3:=hid r2
    clear r2
    repeat (refine wpL_p fun K hK=>?_;go_simp;refine hK _ _ ?_;clear hK K)
    refine wpL_e (fun K hK=>?_)
    go_simp
    refine hK _ _ ?_
    clear hK K
    repeat refine wpL_nil ?_
    exact⟨w1.heap.size,W.heap.size,_,rfl,rfl,by omega,row2 R3.out,OwnF.box2 O2.out R3.out (by decide),
     (B2.out.setCell (p:=⟨w1.heap.size,0,none⟩) (by show W.heap.size≤w1.heap.size;omega) _).setCell (p:=⟨w1.heap.size,1,none⟩) (by show W.heap.size≤w1.heap.size;omega) _⟩
  ·
   refine wpL_k (fun K hK=>?_)
   go_simp
   refine hK _ _ (RN.KeepsN.alloc _ _ (by first|omega|exact Nat.le_refl _)) ?_
   clear hK K
   have b3:Below W.heap.size W (W.alloc (.cells #[.slice none 0 0,.slice none 0 0] 25)).drew:=((Below.refl _ W).alloc (Nat.le_refl _) _).drew
   have r3:(W.alloc (.cells #[.slice none 0 0,.slice none 0 0] 25)).drew.heap[W.heap.size]?=some (.cells #[.slice none 0 0,.slice none 0 0] 25 (0,0)):=row_new W _
   have z3:W.heap.size+1≤(W.alloc (.cells #[.slice none 0 0,.slice none 0 0] 25)).drew.heap.size:=by show _≤(W.alloc _).heap.size;simp
   generalize hX:(W.alloc (.cells #[.slice none 0 0,.slice none 0 0] 25)).drew=X3 at *
   refine wpL_k (fun K hK=>?_)
   refine wp_makeF (f:=intC) (e:=3) (sz:=1) (B:=W.heap.size) _ _ _ rfl _ 8 Tryz.underlying22 infoI rfl rfl (by first|omega|(simp <;> omega)) (by first|omega|(simp <;> omega)) (by first|omega|(simp <;> omega)) ?_
   intro w1 o1 b1 z1
   refine hK _ _ (RN.KeepsN.of_below (b1.mono (by omega))) ?_
   clear hK K
   have b5:=b3.trans (b1.mono (by omega))
   have r5:=row_below r3 b1 (by omega)
   refine wpL_e (fun K hK=>?_)
   refine wp_appA _ _ _ rfl _ 8 Tryz.underlying22 infoI rfl o1 P.cells rfl ((H.out.below B0.out).below (b5.mono (by omega))).intC (by first|omega|(simp <;> omega)) rfl rfl intC_len in_one (by first|omega|(simp <;> omega)) (by first|omega|(simp <;> omega)) ?_
   intro v' w2 o2 g2
   refine hK _ _ ?_
   clear hK K
   obtain⟨ua,uk,rfl,-⟩:=OwnF.form2 (show OwnI w2 W.heap.size v' P.cells from o2)
   have b2:=b5.trans (g2.below b5.size fun k h=>(o1.lt k h).1)
   have r2:=row_grw r5 g2 (by simp[Value.ownBlock];omega)
   have O2:=hid (show OwnI w2 W.heap.size (.slice ua P.cells.length uk) P.cells from o2)
   have B2:=hid b2
   have z2:=b2.size
   have z4:=g2.size
   clear o1 b1 b3 b5 g2 o2 b2 r3 r5
   have y0:w2.cell? ⟨W.heap.size,0,none⟩=some (.slice none 0 0):=row_cell r2 0
   have y1:w2.cell? ⟨W.heap.size,1,none⟩=some (.slice none 0 0):=row_cell r2 1
   have yf:∀j,w2.frozen? ⟨W.heap.size,j,none⟩=false:=fun j=>row_free r2 j
   have R3:=hid r2
   have y2:W.heap.size < w2.heap.size:=by omega
   clear r2
   repeat (refine wpL_p fun K hK=>?_;go_simp;refine hK _ _ ?_;clear hK K)
   refine wpL_e (fun K hK=>?_)
   go_simp
   refine hK _ _ ?_
   clear hK K
   repeat refine wpL_nil ?_
   exact⟨W.heap.size,X3.heap.size,_,rfl,rfl,Nat.le_refl _,row2 R3.out,OwnF.box2 O2.out R3.out (by decide),
    (B2.out.setCell (p:=⟨W.heap.size,0,none⟩) (Nat.le_refl _) _).setCell (p:=⟨W.heap.size,1,none⟩) (Nat.le_refl _) _⟩
 ·rintro e a' X ⟨p3,g,uc,rfl,rfl,hp3,r3,O3,B3⟩
  dsimp only
  have z3:=B3.size
  have lp3:=row_lt r3
  have d1:X.cell? ⟨w.heap.size,1,none⟩=some (.slice at' P.threads.length ct):=cell_below B3 lw (row_cell R1.out 1)
  have HX:=hid (((H.out.below B0.out).below (B3.mono (by omega))))
  have BX:=hid (B0.out.trans (B3.mono (by omega)))
  have lwX:w.heap.size < X.heap.size:=by omega
  have R3:=hid r3
  have O3:=hid O3
  have HW:=hid (H.out.below B0.out)
  clear r3 d0 R1 H HX
  go_wp2_with fail
  go_loopw [20] (fun p wr=>∃(i:Nat) (ut:Value),i≤P.threads.length∧p=.int .i64 i∧Below W.heap.size W wr∧wr.heap[p3]?=some (.cells #[uc,ut] 25 (0,0))∧OwnI wr W.heap.size uc P.cells∧OwnThr wr W.heap.size ut (P.threads.take i)) (fun p _=>P.threads.length - (intOf p).toNat)
  case atStart=>exact⟨0,.slice none 0 0,by omega,by go_num,B3,R3.out,O3.out,[],OwnF.nil _ _,rfl,fun k u x hu=>by simp at hu⟩
  case round=>
   obtain⟨i,ut,hi,rfl,hB,r3,hO,hT⟩:=hrel
   have zB:=hB.size
   by_cases hlt:i < P.threads.length
   ·obtain ⟨b,off,u,t,hat,hb,ht,hu,hut⟩:=HW.out.thr.at rfl hlt
    have hu:=cell_below (hB.mono (show w.heap.size≤W.heap.size by omega)) hb hu
    obtain⟨au,cu,rfl,mu⟩:=hut.ex
    have ht3:=HP.out.txs t (List.mem_of_getElem? ht)
    have hal:=HP.out.acts t (List.mem_of_getElem? ht)
    have HAL:=hid hal
    have HT0:=hid ht
    have HUT:=hid hut
    have R3:=hid r3
    have HO:=hid hO
    have HTT:=hid hT
    have HB:=hid hB
    have hbz:b < wr.heap.size:=by omega
    subst hat
    clear r3 hO hT hB ht hut hal O3 B3
    obtain⟨wo,rfl⟩:∃wo,wo=wr:=⟨_,rfl⟩
    go_wp2_with (at_make;refine wpList_makeF (f:=valC) (e:=80) (sz:=1) (B:=wo.heap.size) rfl _ _ _ rfl _ 24 Tryz.underlying79 infoX rfl rfl (by first|omega|(simp <;> omega)) (by first|omega|(simp <;> omega)) (by first|omega|(simp <;> omega)) ?_;refine Stop.halt ?_)
    refine Stop.go ?_
    intro w1 o1 b1 z1
    have B1:=hid b1
    have O1:=hid o1
    clear o1 b1 hu
    go_wp2_with fail
    go_loopw [6,29] (fun q p wr=>∃(k:Nat),k≤t.length∧p=.int .i64 k∧Below wo.heap.size wo wr∧OwnTxs wr wo.heap.size q (t.take k)) (fun _ p _=>t.length - (intOf p).toNat)
    case atStart=>exact⟨0,by omega,by go_num,B1.out,[],O1.out,rfl,fun k u x hu=>by simp at hu⟩
    case round=>
     obtain⟨k,hk,rfl,hB,hQ⟩:=hrel
     have zo:=hB.size
     by_cases hlk:k < t.length
     ·obtain ⟨vs,hv,hvl,hvc⟩:=hQ
      obtain⟨aq,cq,rfl,-⟩:=hv.form2
      have hvk:vs.length=k:=by rw[hvl,List.length_take];omega
      have hvk3:vs.length≤3:=by omega
      rw[hvk]
      rw[hvk] at hv
      have hB0:=HB.out.trans (hB.mono zB)
      have B:=hid hB
      have HV:=hid hv
      have HVC:=hid hvc
      have HVL:=hid hvl
      obtain⟨b',off',u',l,hal',hb',hl,hu',hul⟩:=HUT.out.at rfl hlk
      obtain⟨al,cl,rfl,ml⟩:=Sl.ex (show Sl W w.heap.size 3 u' l.length (l.flatMap Ac.cells) from hul)
      have hu':=cell_below (hB0.mono (show w.heap.size≤W.heap.size by omega)) hb' hu'
      have hbz':b' < wr.heap.size:=by omega
      have HUL:=hid (show Sl wr w.heap.size 3 (.slice al l.length cl) l.length (l.flatMap Ac.cells) from Sl.below (show Sl W w.heap.size 3 (.slice al l.length cl) l.length (l.flatMap Ac.cells) from hul) (hB0.mono (by omega)))
      have hll:=HAL.out l (List.mem_of_getElem? hl)
      have HL:=hid hl
      subst hal'
      clear hl hul hv hvc hvl hB hvk hB0 O1 B1
      go_wp2_with (at_make;refine wpList_makeF (f:=Ac.cells) (e:=118) (sz:=3) (B:=wr.heap.size) rfl _ _ _ rfl _ 24 Tryz.underlying80 infoA rfl rfl (by first|omega|(simp <;> omega)) (by first|omega|(simp <;> omega)) (by first|omega|(simp <;> omega)) ?_;refine Stop.halt ?_)
      refine Stop.go ?_
      intro w2 o2 b2 z2
      have B2:=hid b2
      have O2:=hid o2
      clear o2 b2 hu'
      go_wp2_with (at_builtin;refine wpList_appA rfl _ _ _ rfl _ 24 Tryz.underlying80 infoA rfl O2.out l rfl (HUL.out.below (B2.out.mono (by omega))) (by first|omega|(simp <;> omega)) rfl rfl Ac.len ac_one (by first|omega|(simp <;> omega)) (by first|omega|(simp <;> omega)) ?_;refine Stop.halt ?_)
      refine Stop.go ?_
      intro va w3 o3 g3
      obtain⟨ga,ka,rfl,-⟩:=OwnF.form2 (show OwnActs w3 wr.heap.size va l from o3)
      have z2':=B2.out.size
      have b3:=B2.out.trans (g3.below z2' fun q h=>(O2.out.lt q h).1)
      have O3:=hid (OwnF.base (show OwnActs w3 wr.heap.size (.slice ga l.length ka) l from o3) zo)
      have V3:=hid (OwnF.below HV.out b3)
      have VC3:=hid (fun(q:Nat) (u:Value) (x:List Ac) (h1:vs[q]?=some u) (h2:(t.take k)[q]?=some x)=>OwnF.below (HVC.out q u x h1 h2) b3)
      have B3:=hid (B.out.trans (b3.mono zo))
      have z3:=b3.size
      clear o3 g3 B2 O2 b3 HV HVC B
      go_wp2_with (at_builtin;refine wpList_appF rfl _ _ _ rfl _ 24 Tryz.underlying79 infoX rfl V3.out (.slice ga l.length ka) (by first|omega|(simp <;> omega)) (by rfl) (by rfl) (by first|rfl|simp) rfl (val_one _) (by first|omega|(simp only[List.length_append,List.length_cons,List.length_nil,List.length_replicate];omega)) (by first|omega|(simp only[List.length_append,List.length_cons,List.length_nil,List.length_replicate];omega)) ?_;refine Stop.halt ?_)
      refine Stop.go ?_
      intro g4 c4 w4 o4 G4
      have T4:=hid (OwnTxs.snoc V3.out HVL.out VC3.out O3.out o4 G4)
      have B4:=hid (B3.out.trans (G4.below B3.out.size fun q h=>(V3.out.lt q h).1))
      clear o4 G4
      go_wp2_with fail
      go_roundw
      case rel=>exact⟨k+1,by omega,by go_num,B4.out,by rw[take_step HL.out];exact T4.out⟩
      case measure=>simp[intOf];omega
     ·obtain rfl:k=t.length:=by omega
      rw[List.take_length] at hQ
      have hB0:=HB.out.trans (hB.mono zB)
      have r5:=row_below R3.out hB (row_lt R3.out)
      have O5:=hid (OwnF.below HO.out hB)
      have T5:=HTT.out.below hB
      obtain⟨vs,hv,hvl,hvc⟩:=hQ
      obtain⟨aq,cq,rfl,-⟩:=hv.form2
      have Q5:=hid (show OwnTxs wr W.heap.size (.slice aq vs.length cq) t from⟨vs,hv.base zB,hvl,fun q u x h1 h2=>OwnF.base (hvc q u x h1 h2) zB⟩)
      obtain⟨ts,ht1,ht2,ht3⟩:=T5
      obtain⟨at5,ct5,rfl,-⟩:=ht1.form2
      have htk:ts.length=i:=by rw[ht2,List.length_take];omega
      have htk4:ts.length≤4:=by omega
      rw[htk] at ht1 r5
      have H1:=hid ht1
      have H2:=hid ht2
      have H3:=hid ht3
      have R5:=hid r5
      have B5:=hid hB0
      have e1:=row_cell r5 1
      have l5:=row_lt r5
      have ef:=row_free r5 1
      have hvt:vs.length≤3:=by omega
      clear hv hvl hvc ht1 ht2 ht3 r5 hB hB0 R3 HO HTT HB B1 O1 htk
      go_wp2_with (at_builtin;refine wpList_appF rfl _ _ _ rfl _ 24 Tryz.underlying23 infoY rfl H1.out (.slice aq vs.length cq) (by first|omega|(simp <;> omega)) (by rfl) (by rfl) (by first|rfl|simp) rfl (val_one _) (by first|omega|(simp only[List.length_append,List.length_cons,List.length_nil,List.length_replicate];omega)) (by first|omega|(simp only[List.length_append,List.length_cons,List.length_nil,List.length_replicate];omega)) ?_;refine Stop.halt ?_)
      refine Stop.go ?_
      intro g4 c4 w4 o4 G4
      have T6:=OwnThr.snoc H1.out H2.out H3.out Q5.out o4 G4
      have B6:=B5.out.trans (G4.below B5.out.size fun q h=>(H1.out.lt q h).1)
      have R6:=row_grw R5.out G4 (OwnF.neT H1.out R5.out (by decide))
      have O6:=O5.out.grwT H1.out (by decide) G4
      have f6:=row_free R6 1
      have y6:=row_cell R6 1
      have l6:=row_lt R6
      have T6:=hid T6
      have B6:=hid B6
      have R6:=hid R6
      have O6:=hid O6
      clear o4 G4 e1 ef
      go_wp2_with fail
      go_roundw
      case rel=>
       refine⟨i+1,_,by omega,by go_num,B6.out.setCell (p:=⟨p3,1,none⟩) hp3 _,row_set R6.out 1 _,OwnF.other O6.out (OwnF.neT O6.out R6.out (by decide)) _,?_⟩
       rw[take_step HT0.out]
       exact T6.out.map (fun vs h=>OwnF.other h (OwnF.neT h R6.out (by decide)) _) (fun u x h=>h.map (fun vs h=>OwnF.other h (OwnF.neT h R6.out (by decide)) _) (fun u x h=>OwnF.other h (OwnF.neT h R6.out (by decide)) _))
      case measure=>simp[intOf];omega
   ·obtain rfl:i=P.threads.length:=by omega
    rw[List.take_length] at hT
    have r2:=row_below R2.out hB (by omega)
    obtain⟨aq,cq,hut,-⟩:∃a c,ut=.slice a P.threads.length c∧True:=by
     obtain⟨ts,h1,h2,-⟩:=hT
     obtain⟨a,c,e,-⟩:=h1.form2
     exact⟨a,c,by rw[e,h2],trivial⟩
    subst hut
    obtain⟨a6,c6,rfl,-⟩:=hO.form2
    have e0:wr.cell? ⟨p3,0,none⟩=some (.slice a6 P.cells.length c6):=row_cell r3 0
    have e1:wr.cell? ⟨p3,1,none⟩=some (.slice aq P.threads.length cq):=row_cell r3 1
    have y0:wr.cell? ⟨w.heap.size+1,0,none⟩=some (.slice none 0 0):=row_cell r2 0
    have y1:wr.cell? ⟨w.heap.size+1,1,none⟩=some (.slice none 0 0):=row_cell r2 1
    have yf:∀j,wr.frozen? ⟨w.heap.size+1,j,none⟩=false:=fun j=>row_free r2 j
    have l3:=row_lt r3
    have l2:=row_lt r2
    have HB:=hid hB
    have HO:=hid hO
    have HTT:=hid hT
    have R4:=hid r2
    clear hB hO hT r2 r3 O3 B3 BX R2
    go_wp2
    have r4:=row2 (u1:=.slice a6 P.cells.length c6) (u2:=.slice aq P.threads.length cq) R4.out
    have c0:=row_cell r4 0
    have c1:=row_cell r4 1
    simp only[List.getElem?_toArray,List.getElem?_cons_zero,List.getElem?_cons_succ] at c0 c1
    refine bodyPost_ret (v:=.agg #[.slice a6 P.cells.length c6,.slice aq P.threads.length cq]) (by simp[results,Tryz.results59,go_sem,c0,c1]) rfl ⟨_,_,rfl,?_,?_,?_⟩
    ·exact OwnF.base (OwnF.box2 HO.out R4.out (by decide)) (by omega)
    ·exact HTT.out.map2 (by omega) (fun vs h=>OwnF.base (OwnF.box2 h R4.out (by decide)) (by omega)) (fun vs h=>OwnF.base (OwnF.box2 h R4.out (by decide)) (by omega)) (fun u x h=>OwnF.base (OwnF.box2 h R4.out (by decide)) (by omega))
    ·exact ((B0.out.trans (HB.out.mono (by omega))).setCell (p:=⟨w.heap.size+1,0,none⟩) (by show w.heap.size≤w.heap.size+1;omega) _).setCell (p:=⟨w.heap.size+1,1,none⟩) (by show w.heap.size≤w.heap.size+1;omega) _
end
section
attribute [local irreducible] wpL
section
variable {w:World} {B bW gT:Nat} {vc vt ve:Value} {P:Pg} {S:Wst}
theorem WkAt.wrR {w1 w2:World} {ve1:Value} {S':Wst} {g:Nat} {cs:Array Value} (h:WkAt w B bW gT vc vt ve P S) (h1:WkAt w1 B bW gT vc vt ve1 P S') (hk:Kp Mw ve w w1) (ho:∀k,ve1.ownBlock=some k→ve.ownBlock=some k∨w.heap.size < k) (hg:g=w.heap.size) (hw:Wr g cs 53 w1 w2):WkAt w2 B bW gT vc vt ve1 P S'∧Kp Mw ve w w2:=by
 subst hg
 have KT:Kp Mw ve w w2:=Kp.wr hk hw (Nat.le_refl _)
 have hb:=row_lt h.row
 have hgT:=(h.ths.lt gT rfl).2
 refine⟨h.turn KT ((hw.other bW (by omega)).trans h1.row) (OwnF.wr h1.ths hw fun e=>?_) (OwnF.wr h1.evs hw fun e=>?_) h1.tok,KT⟩
 ·simp only[Value.ownBlock,Option.some.injEq] at e
  omega
 ·rcases ho _ e with h3|h3
  ·have:=(h.evs.lt _ h3).2;omega
  ·omega
theorem wk_answer_abort (h:WkAt w B bW gT vc vt ve P S) (hBw:B≤w.heap.size) (i:Nat) (hi:i < P.threads.length) {t:Th} (ht:S.ths[i]?=some t) (hd:thDone P i t=false) (hw:t.waits≠0) (val:Int) (hl:S.evs.length≤100000):
  Calls Tryz.prog 145 #[.pointer (some ⟨bW,0,none⟩),.int .i64 i,.int .i64 val,.bool true] w fun x w'=>
  x=.returned (.tuple #[evV (withTx (ev0 6) (idOf i t.tx)),.bool true])∧∃ve',WkAt w' B bW gT vc vt ve' P ⟨S.ths.set i {Th.zero with tx:=t.tx+1},S.evs++[withTx (ev0 6) (idOf i t.tx)]⟩∧Kp Mw ve w w'∧Below B w w'∧∀k,ve'.ownBlock=some k→ve.ownBlock=some k∨w.heap.size≤k:=by
 have H:=hid h
 have HT:=hid ht
 have hB':=hid hBw
 have hgT:=(h.ths.lt gT rfl).2
 clear h ht
 have ba:Below w.heap.size w (w.alloc (.cells #[.int .i64 0,.int .i64 0,.int .i64 0,.int .i64 0,.int .i64 0,.int .i64 0,.int .i64 0,.int .i64 0] 53)):=(Below.refl _ _).alloc (Nat.le_refl _) _
 have RZ:=hid (row_new w (.cells #[.int .i64 0,.int .i64 0,.int .i64 0,.int .i64 0,.int .i64 0,.int .i64 0,.int .i64 0,.int .i64 0] 53))
 go_enter Tryz.func145,Tryz.ntmps145
 go_wp2_with fail
 obtain⟨W0,hW⟩:∃W,W=w.alloc (.cells #[.int .i64 0,.int .i64 0,.int .i64 0,.int .i64 0,.int .i64 0,.int .i64 0,.int .i64 0,.int .i64 0] 53):=⟨_,rfl⟩
 have zW0:W0.heap.size=w.heap.size+1:=by rw[hW];simp
 rw[←hW] at ba RZ ⊢
 have BA0:=hid ba
 have HW0:=hid (H.out.below ba)
 clear ba hW
 refine(wk_of_in HW0.out i hi HT.out).mono ?_
 rintro x w1 ⟨rfl,rfl⟩
 rw[hd]
 have bd:Below W0.heap.size W0 W0.drew:=(Below.refl _ _).drew
 have RZ:W0.drew.heap[w.heap.size]?=_:=RZ.out
 have zW:W0.drew.heap.size=w.heap.size+1:=zW0
 obtain⟨W,hW⟩:∃W,W=W0.drew:=⟨_,rfl⟩
 rw[←hW] at bd RZ zW ⊢
 have BA:=hid (BA0.out.trans (bd.mono (by omega)))
 have HW:=hid (HW0.out.below bd)
 have RZ:=hid RZ
 clear bd hW HW0 BA0 zW0
 obtain⟨t2,ht2,-,-,hc⟩:=HW.out.at hi
 rw[HT.out] at ht2
 obtain rfl:=Option.some.inj ht2
 have c5:W.cell? ⟨gT,i*6+5,none⟩=some (.int .i64 t.waits):=hc 5 (by decide)
 have hw0:(t.waits==0)=false:=by simpa using hw
 clear hc ht2
 go_wp2_with fail
 refine(wk_ends HW.out (by omega) i hi HT.out hd 6 hl).mono ?_
 rintro x w1 ⟨rfl,ve1,h1,kp1,b1,ow1⟩
 have RQ:Hid (w1.heap[w.heap.size]?=some (.cells #[.int .i64 0,.int .i64 0,.int .i64 0,.int .i64 0,.int .i64 0,.int .i64 0,.int .i64 0,.int .i64 0] 53 (0,0))):=hid (by
  refine kp1.cells _ _ _ _ RZ.out (fun hM=>?_) fun _ e=>?_
  ·rcases hM with h|h <;> exact absurd h (by decide)
  ·have:=(H.out.evs.lt _ e).2;omega)
 have H1:=hid h1
 have KP1:=hid kp1
 have B1:=hid b1
 have OW1:=hid ow1
 have z1:w.heap.size+1≤w1.heap.size:=by have:=kp1.size;omega
 generalize hE:withTx (ev0 6) (idOf i t.tx)=E at *
 obtain⟨k1,k2,k3,k4,k5,k6,k7,k8⟩:=E
 have zf:∀j,w1.frozen? ⟨w.heap.size,j,none⟩=false:=fun j=>row_free RQ.out j
 have zc:=row_cell RQ.out
 have y0:w1.cell? ⟨w.heap.size,0,none⟩=some (.int .i64 0):=zc 0
 have y1:w1.cell? ⟨w.heap.size,1,none⟩=some (.int .i64 0):=zc 1
 have y2:w1.cell? ⟨w.heap.size,2,none⟩=some (.int .i64 0):=zc 2
 have y3:w1.cell? ⟨w.heap.size,3,none⟩=some (.int .i64 0):=zc 3
 have y4:w1.cell? ⟨w.heap.size,4,none⟩=some (.int .i64 0):=zc 4
 have y5:w1.cell? ⟨w.heap.size,5,none⟩=some (.int .i64 0):=zc 5
 have y6:w1.cell? ⟨w.heap.size,6,none⟩=some (.int .i64 0):=zc 6
 have y7:w1.cell? ⟨w.heap.size,7,none⟩=some (.int .i64 0):=zc 7
 clear h1 kp1 b1 ow1 zc c5 RZ
 go_wp2
 have WR6:=((((((((Wr.start RQ.out).set 0 (.int .i64 k1)).set 1 (.int .i64 k2)).set 2 (.int .i64 k3)).set 3 (.int .i64 k4)).set 4 (.int .i64 k5)).set 5 (.int .i64 k6)).set 6 (.int .i64 k7)).set 7 (.int .i64 k8)
 generalize ((((((((w1).setCell ⟨w.heap.size,0,none⟩ (.int .i64 k1)).setCell ⟨w.heap.size,1,none⟩ (.int .i64 k2)).setCell ⟨w.heap.size,2,none⟩ (.int .i64 k3)).setCell ⟨w.heap.size,3,none⟩ (.int .i64 k4)).setCell ⟨w.heap.size,4,none⟩ (.int .i64 k5)).setCell ⟨w.heap.size,5,none⟩ (.int .i64 k6)).setCell ⟨w.heap.size,6,none⟩ (.int .i64 k7)).setCell ⟨w.heap.size,7,none⟩ (.int .i64 k8)=W6 at *
 obtain⟨hf1,hf2⟩:=WkAt.wrR H.out H1.out ((Kp.of_below BA.out).trans KP1.out fun _ h=>.inl h) (fun k hk=>(OW1.out k hk).imp id fun h=>by omega) rfl WR6
 have cc:=row_cell WR6.row
 have cc0:=cc 0
 have cc1:=cc 1
 have cc2:=cc 2
 have cc3:=cc 3
 have cc4:=cc 4
 have cc5:=cc 5
 have cc6:=cc 6
 have cc7:=cc 7
 simp at cc0 cc1 cc2 cc3 cc4 cc5 cc6 cc7
 refine bodyPost_ret (v:=.tuple #[evV ⟨k1,k2,k3,k4,k5,k6,k7,k8⟩,.bool true]) (by simp[results,Tryz.results145,go_sem,cc0,cc1,cc2,cc3,cc4,cc5,cc6,cc7]) rfl ⟨by first|rfl|rw[hE],ve1,by first|exact hf1|(rw[hE];exact hf1),hf2,?_,fun k hk=>(OW1.out k hk).imp id fun h=>by omega⟩
 exact((BA.out.mono hB'.out).trans B1.out).trans (WR6.below hB'.out)
theorem wk_answer_try (h:WkAt w B bW gT vc vt ve P S) (hBw:B≤w.heap.size) (i:Nat) (hi:i < P.threads.length) {t:Th} (ht:S.ths[i]?=some t) (hd:thDone P i t=false) (hw:t.waits=4) (val:Int) (hl:S.evs.length≤100000):
  Calls Tryz.prog 145 #[.pointer (some ⟨bW,0,none⟩),.int .i64 i,.int .i64 val,.bool false] w fun x w'=>
  x=.returned (.tuple #[evV (withTx (ev0 5) (idOf i t.tx)),.bool true])∧∃ve',WkAt w' B bW gT vc vt ve' P ⟨S.ths.set i {Th.zero with tx:=t.tx+1},S.evs++[withTx (ev0 5) (idOf i t.tx)]⟩∧Kp Mw ve w w'∧Below B w w'∧∀k,ve'.ownBlock=some k→ve.ownBlock=some k∨w.heap.size≤k:=by
 have H:=hid h
 have HT:=hid ht
 have hB':=hid hBw
 have hgT:=(h.ths.lt gT rfl).2
 clear h ht
 have ba:Below w.heap.size w (w.alloc (.cells #[.int .i64 0,.int .i64 0,.int .i64 0,.int .i64 0,.int .i64 0,.int .i64 0,.int .i64 0,.int .i64 0] 53)):=(Below.refl _ _).alloc (Nat.le_refl _) _
 have RZ:=hid (row_new w (.cells #[.int .i64 0,.int .i64 0,.int .i64 0,.int .i64 0,.int .i64 0,.int .i64 0,.int .i64 0,.int .i64 0] 53))
 go_enter Tryz.func145,Tryz.ntmps145
 go_wp2_with fail
 obtain⟨W0,hW⟩:∃W,W=w.alloc (.cells #[.int .i64 0,.int .i64 0,.int .i64 0,.int .i64 0,.int .i64 0,.int .i64 0,.int .i64 0,.int .i64 0] 53):=⟨_,rfl⟩
 have zW0:W0.heap.size=w.heap.size+1:=by rw[hW];simp
 rw[←hW] at ba RZ ⊢
 have BA0:=hid ba
 have HW0:=hid (H.out.below ba)
 clear ba hW
 refine(wk_of_in HW0.out i hi HT.out).mono ?_
 rintro x w1 ⟨rfl,rfl⟩
 rw[hd]
 have bd:Below W0.heap.size W0 W0.drew:=(Below.refl _ _).drew
 have RZ:W0.drew.heap[w.heap.size]?=_:=RZ.out
 have zW:W0.drew.heap.size=w.heap.size+1:=zW0
 obtain⟨W,hW⟩:∃W,W=W0.drew:=⟨_,rfl⟩
 rw[←hW] at bd RZ zW ⊢
 have BA:=hid (BA0.out.trans (bd.mono (by omega)))
 have HW:=hid (HW0.out.below bd)
 have RZ:=hid RZ
 clear bd hW HW0 BA0 zW0
 obtain⟨t2,ht2,-,-,hc⟩:=HW.out.at hi
 rw[HT.out] at ht2
 obtain rfl:=Option.some.inj ht2
 have c5:W.cell? ⟨gT,i*6+5,none⟩=some (.int .i64 t.waits):=hc 5 (by decide)
 rw[hw] at c5
 clear hc ht2
 go_wp2_with fail
 refine(wk_ends HW.out (by omega) i hi HT.out hd 5 hl).mono ?_
 rintro x w1 ⟨rfl,ve1,h1,kp1,b1,ow1⟩
 have RQ:Hid (w1.heap[w.heap.size]?=some (.cells #[.int .i64 0,.int .i64 0,.int .i64 0,.int .i64 0,.int .i64 0,.int .i64 0,.int .i64 0,.int .i64 0] 53 (0,0))):=hid (by
  refine kp1.cells _ _ _ _ RZ.out (fun hM=>?_) fun _ e=>?_
  ·rcases hM with h|h <;> exact absurd h (by decide)
  ·have:=(H.out.evs.lt _ e).2;omega)
 have H1:=hid h1
 have KP1:=hid kp1
 have B1:=hid b1
 have OW1:=hid ow1
 have z1:w.heap.size+1≤w1.heap.size:=by have:=kp1.size;omega
 generalize hE:withTx (ev0 5) (idOf i t.tx)=E at *
 obtain⟨k1,k2,k3,k4,k5,k6,k7,k8⟩:=E
 have zf:∀j,w1.frozen? ⟨w.heap.size,j,none⟩=false:=fun j=>row_free RQ.out j
 have zc:=row_cell RQ.out
 have y0:w1.cell? ⟨w.heap.size,0,none⟩=some (.int .i64 0):=zc 0
 have y1:w1.cell? ⟨w.heap.size,1,none⟩=some (.int .i64 0):=zc 1
 have y2:w1.cell? ⟨w.heap.size,2,none⟩=some (.int .i64 0):=zc 2
 have y3:w1.cell? ⟨w.heap.size,3,none⟩=some (.int .i64 0):=zc 3
 have y4:w1.cell? ⟨w.heap.size,4,none⟩=some (.int .i64 0):=zc 4
 have y5:w1.cell? ⟨w.heap.size,5,none⟩=some (.int .i64 0):=zc 5
 have y6:w1.cell? ⟨w.heap.size,6,none⟩=some (.int .i64 0):=zc 6
 have y7:w1.cell? ⟨w.heap.size,7,none⟩=some (.int .i64 0):=zc 7
 clear h1 kp1 b1 ow1 zc c5 RZ
 go_wp2
 have WR6:=((((((((Wr.start RQ.out).set 0 (.int .i64 k1)).set 1 (.int .i64 k2)).set 2 (.int .i64 k3)).set 3 (.int .i64 k4)).set 4 (.int .i64 k5)).set 5 (.int .i64 k6)).set 6 (.int .i64 k7)).set 7 (.int .i64 k8)
 generalize ((((((((w1).setCell ⟨w.heap.size,0,none⟩ (.int .i64 k1)).setCell ⟨w.heap.size,1,none⟩ (.int .i64 k2)).setCell ⟨w.heap.size,2,none⟩ (.int .i64 k3)).setCell ⟨w.heap.size,3,none⟩ (.int .i64 k4)).setCell ⟨w.heap.size,4,none⟩ (.int .i64 k5)).setCell ⟨w.heap.size,5,none⟩ (.int .i64 k6)).setCell ⟨w.heap.size,6,none⟩ (.int .i64 k7)).setCell ⟨w.heap.size,7,none⟩ (.int .i64 k8)=W6 at *
 obtain⟨hf1,hf2⟩:=WkAt.wrR H.out H1.out ((Kp.of_below BA.out).trans KP1.out fun _ h=>.inl h) (fun k hk=>(OW1.out k hk).imp id fun h=>by omega) rfl WR6
 have cc:=row_cell WR6.row
 have cc0:=cc 0
 have cc1:=cc 1
 have cc2:=cc 2
 have cc3:=cc 3
 have cc4:=cc 4
 have cc5:=cc 5
 have cc6:=cc 6
 have cc7:=cc 7
 simp at cc0 cc1 cc2 cc3 cc4 cc5 cc6 cc7
 refine bodyPost_ret (v:=.tuple #[evV ⟨k1,k2,k3,k4,k5,k6,k7,k8⟩,.bool true]) (by simp[results,Tryz.results145,go_sem,cc0,cc1,cc2,cc3,cc4,cc5,cc6,cc7]) rfl ⟨by first|rfl|rw[hE],ve1,by first|exact hf1|(rw[hE];exact hf1),hf2,?_,fun k hk=>(OW1.out k hk).imp id fun h=>by omega⟩
 exact((BA.out.mono hB'.out).trans B1.out).trans (WR6.below hB'.out)
end
end
