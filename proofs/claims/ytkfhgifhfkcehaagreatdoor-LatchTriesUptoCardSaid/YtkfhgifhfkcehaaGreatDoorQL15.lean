/- Parts of the proof, merged by program out of 4 texts (EnD, EnE, EnF, EnG): the first: The walk through a program begun. Conditions: those of each theorem, as typed. -/
import Derived.Test.YtkfhgifhfkcehaaGreatDoorQL06
import Derived.Test.YtkfhgifhfkcehaaGreatDoorQL14
set_option linter.unusedVariables false
set_option linter.unusedSimpArgs false
set_option linter.unusedSectionVars false
set_option maxRecDepth 100000
set_option maxHeartbeats 4000000
namespace Go.Proofs.YtkfhgifhfkcehaaGreatDoor
open Go.RowKit
section
attribute [local irreducible] wpL
theorem made_flat {α:Type} (f:α→List Value) (sz n:Nat) (x:α) (zc:Array Value) (hz:zc.size=sz) (h0:0 < sz) (hf:f x=zc.toList):(madeCells zc (n*sz)).toList=(List.replicate n x).flatMap f:=by
 have hlen:((List.replicate n x).flatMap f).length=n*sz:=by
  induction n with
  |zero=>simp
  |succ n ih=>rw[List.replicate_succ,List.flatMap_cons,List.length_append,ih,hf];simp[hz,Nat.add_mul];omega
 have hml:(madeCells zc (n*sz)).toList.length=n*sz:=by rw[Array.length_toList,size_madeCells]
 apply List.ext_getElem?
 intro i
 by_cases hi:i < n*sz
 ·have hd:i / sz < n:=Nat.div_lt_of_lt_mul (by rw[Nat.mul_comm];exact hi)
  have hm:i % sz < sz:=Nat.mod_lt _ h0
  have he:i=i / sz*sz+i % sz:=by rw[Nat.mul_comm];exact(Nat.div_add_mod i sz).symm
  have key:∀(n k j:Nat),k < n→j < sz→((List.replicate n x).flatMap f)[k*sz+j]?=(f x)[j]?:=by
   intro n
   induction n with
   |zero=>intro k j hk;omega
   |succ n ih=>
    intro k j hk hj
    rw[List.replicate_succ,List.flatMap_cons]
    have hfl:(f x).length=sz:=by rw[hf];simpa using hz
    cases k with
    |zero=>rw[Nat.zero_mul,Nat.zero_add,List.getElem?_append_left (by omega)]
    |succ k=>
     rw[List.getElem?_append_right (by rw[hfl,Nat.add_mul];omega),hfl,show(k+1)*sz+j - sz=k*sz+j by rw[Nat.add_mul];omega]
     exact ih k j (by omega) hj
  rw[he,key n _ _ hd hm,←he,hf]
  simp only[madeCells,Array.getElem?_toList]
  rw[Array.getElem?_map]
  simp[hi,hz,hm]
 ·rw [List.getElem?_eq_none (by omega),List.getElem?_eq_none (by omega)]
section
variable {α:Type} {f:α→List Value} {e:TypeId} {sz B:Nat} {P:Program} {o:Oper} {a:Act} {K:Act→World→Prop} {Q:Exit→Act→World→Prop}
theorem wp_makeN (s c:Operand) (t:TypeId) (ho:o.op=.makeSlice t s c) (z:Value) (bytes:Nat) (ht:P.underlying t=some (.slice e)) (hinfo:(P.info? e).map (fun i=>(i.zero,i.size,i.bytes))=some (some z,sz,bytes))
  {w:World} {n:Nat} (hs:a.eval s=.int .i64 n) (hc:a.eval c=.int .i64 n) (hn:n≤9223372036854775807) (hby:bytes*n≤140737488355328) (hB:B≤w.heap.size) (x:α) (hx:f x=z.cells.toList) (hz:z.cells.size=sz) (h0:0 < sz)
  (hK:∀w',OwnF f e sz w' B (.slice (some ⟨w.heap.size,0,none⟩) n n) (List.replicate n x)→Below w.heap.size w w'→w.heap.size+1≤w'.heap.size→K (a.put o.dst (.slice (some ⟨w.heap.size,0,none⟩) n n)) w'):
  o.wp P a w K Q:=by
 obtain⟨i0,hi,hz0,hz1,hz2⟩:=info_parts hinfo
 obtain⟨w',hr,h1,h2⟩:=run_make_full (P:=P) w B t e i0 z sz ht hi hz0 hz1 .i64 .i64 n (by rw[hz2];omega) (by unfold maxLen;omega) hB
 rw[made_flat f sz n x _ hz h0 hx] at h1
 unfold Oper.wp execOp
 simp[ho,hs,hc,hr,Result.andThen]
 refine hK w' (by unfold OwnF;rw[List.length_replicate];exact h1) ((Below.refl w.heap.size w).grown h2 (Nat.le_refl _) (fun _ h=>by cases h)) ?_
 obtain⟨-,h3⟩:=h1
 rcases h3 with⟨h3,-⟩|⟨g,cap,cur,hv,-,hh,-⟩
 ·cases h3
 ·simp only[Value.slice.injEq,Option.some.injEq,Addr.mk.injEq,and_true] at hv
  obtain⟨rfl,-⟩:=hv
  exact row_lt hh
end
theorem infoTh:(Tryz.prog.info? 283).map (fun i=>(i.zero,i.size,i.bytes))=some (some (.agg #[.int .i64 0,.int .i64 0,.bool false,.bool false,.int .i64 0,.int .i64 0]),6,40):=by kernel_rfl
def StartRet (P:Pg) (ev:Value) (w:World) (e:Ending) (w':World):Prop:=
 (¬ValidIs P∧e=.returned (.tuple #[.pointer none,ev])∨ValidIs P∧∃bW gT vc vt,e=.returned (.tuple #[.pointer (some ⟨bW,0,none⟩),.nilIface])∧WkAt w' w.heap.size bW gT vc vt (.slice none 0 0) P ⟨List.replicate P.threads.length Th.zero,[]⟩)∧Below w.heap.size w w'
def StartMid (P:Pg) (w W:World) (ac:Option Addr) (cc:Nat) (at':Option Addr) (ct:Nat):Exit→Act→World→Prop:=fun e a' X=>
 ∃(bW gT:Nat) (uc ut:Value),e=.normal∧a'={tmps:=#[(.agg #[.slice ac P.cells.length cc,.slice at' P.threads.length ct]),.pointer (some ⟨w.heap.size,0,none⟩),.pointer (some ⟨bW,0,none⟩),.nilIface,.nilIface,(.agg #[.slice ac P.cells.length cc,.slice at' P.threads.length ct]),.nilIface,.nilIface,.bool false,undef,(.agg #[.slice ac P.cells.length cc,.slice at' P.threads.length ct]),.agg #[uc,ut],.pointer (some ⟨w.heap.size,1,none⟩),(.slice at' P.threads.length ct),.int .i64 P.threads.length,.slice (some ⟨gT,0,none⟩) P.threads.length P.threads.length,.agg #[uc,ut,.slice (some ⟨gT,0,none⟩) P.threads.length P.threads.length,.slice none 0 0],.pointer (some ⟨bW,0,none⟩)],defers:=[]}∧X.heap[bW]?=some (.cells #[uc,ut,.slice (some ⟨gT,0,none⟩) P.threads.length P.threads.length,.slice none 0 0] 210 (0,0))∧W.heap.size≤bW∧
  OwnI X W.heap.size uc P.cells∧OwnThr X W.heap.size ut P.threads∧OwnF Th.cells 283 6 X W.heap.size (.slice (some ⟨gT,0,none⟩) P.threads.length P.threads.length) (List.replicate P.threads.length Th.zero)∧Below W.heap.size W X
theorem p_Start (vc vt:Value) (P:Pg) (w:World) (h:PgIs w w.heap.size vc vt P) (ev:Value) (hev:w.cell? ⟨2,0,none⟩=some ev) (hne:∃t v,ev=.iface t v) (h10:2 < w.heap.size):
  Calls Tryz.prog 58 #[.agg #[vc,vt]] w (StartRet P ev w):=by
 obtain⟨ac,cc,rfl,mc⟩:=h.cells.ex
 obtain⟨at',ct,rfl,mt⟩:=h.thr.ex
 obtain⟨ty,va,rfl⟩:=hne
 have H:=hid h
 have HE:=hid hev
 clear h hev
 go_enter Tryz.func58,Tryz.ntmps58
 go_wp2_with fail
 have b0:Below w.heap.size w (w.alloc (.cells #[.slice ac P.cells.length cc,.slice at' P.threads.length ct] 25)):=(Below.refl _ w).alloc (Nat.le_refl _) _
 have r0:=row_new w (.cells #[.slice ac P.cells.length cc,.slice at' P.threads.length ct] 25)
 have z0:w.heap.size+1≤(w.alloc (.cells #[.slice ac P.cells.length cc,.slice at' P.threads.length ct] 25)).heap.size:=by simp
 generalize w.alloc (.cells #[.slice ac P.cells.length cc,.slice at' P.threads.length ct] 25)=X at *
 refine(p_Valid _ _ P X ((H.out.below b0).more (by omega)) (.iface ty va) (cell_below b0 h10 HE.out) (by omega)).mono ?_
 rintro e W ⟨hv,b1⟩
 have zW:=b1.size
 have d0:W.cell? ⟨w.heap.size,0,none⟩=some (.slice ac P.cells.length cc):=cell_below b1 (by omega) (row_cell r0 0)
 have d1:W.cell? ⟨w.heap.size,1,none⟩=some (.slice at' P.threads.length ct):=cell_below b1 (by omega) (row_cell r0 1)
 have B1:=hid (b0.trans (b1.mono (by omega)))
 have HW:=hid ((H.out.below B1.out).more (B:=w.heap.size) (B':=W.heap.size) (by omega))
 have lw:w.heap.size < W.heap.size:=by omega
 clear b0 b1 r0 H HE
 rcases hv with⟨hok,rfl⟩|⟨hno,rfl⟩
 case inr=>
  have HN:=hid hno
  clear hno d0 d1
  go_wp2
  go_ret2
  exact⟨.inl ⟨HN.out,rfl⟩,B1.out⟩
 case inl=>
  have HOK:=hid hok
  have hn4:=hok.nums
  clear hok
  go_wp2_with fail
  refine wp_mono (Q:=StartMid P w W ac cc at' ct) ?_ ?_
  ·
   refine wp_rN (W.heap.size) [1,3,0,1,0,3,0,3,0,0] (.frk [0,2,3,4] (.fin [1,5,6,7,8,9]) (.fin [5,1,6,7,8,9])) (by kernel_rfl) ?_
   simp only[wpT,selX,guardAt,sD,sE,sF,sG]
   repeat first|(refine wpL_p fun K hK=>?_;go_simp;refine hK _ _ ?_;clear hK K)|(apply wpL_s;(intro w2 hw2;have hk1:=hw2.cell;have hk3:=hw2.1;clear hw2;go_simp;with_reducible rfl);simp only[Act.put,sA,sB,sC])|refine wpL_nil ?_
   refine⟨?_,?_⟩
   ·
    refine wpL_k (fun K hK=>?_)
    go_simp
    refine(p_Clone _ _ P _ (show PgIs W.drew W.drew.heap.size _ _ P from HW.out.below (Below.refl _ W).drew) HOK.out.ok).mono ?_
    rintro e X1 ⟨uc,ut,rfl,oc,ot,q1⟩
    refine hK _ _ (RN.KeepsN.of_below (q1.mono (by first|omega|exact Nat.le_refl _))) ?_
    clear hK K
    have q1:Below W.heap.size W X1:=(Below.refl _ W).drew.trans q1
    have z1:=q1.size
    have oc:OwnI X1 W.heap.size uc P.cells:=oc
    have ot:OwnThr X1 W.heap.size ut P.threads:=ot
    obtain⟨ua,uk,rfl,-⟩:=oc.form2
    obtain⟨ta,tk,hut,-⟩:∃a c,ut=.slice a P.threads.length c∧True:=by
     obtain⟨ts,h1,h2,-⟩:=ot
     obtain⟨a,c,e,-⟩:=h1.form2
     exact⟨a,c,by rw[e,h2],trivial⟩
    subst hut
    refine wpL_k (fun K hK=>?_)
    refine wp_makeN (f:=Th.cells) (e:=283) (sz:=6) (B:=W.heap.size) _ _ _ rfl _ 40 Tryz.underlying208 infoTh rfl rfl (by omega) (by omega) (by first|omega|exact Nat.le_refl _) Th.zero rfl rfl (by decide) ?_
    intro X2 o2 q2 z2
    refine hK _ _ (RN.KeepsN.of_below (q2.mono (by first|omega|exact Nat.le_refl _))) ?_
    clear hK K
    have q3:=q1.trans (q2.mono z1)
    have O2:=hid o2
    have OC:=hid (OwnF.below oc q2)
    have OT:=hid (ot.below q2)
    have Q3:=hid q3
    have z3:=q3.size
    clear q1 q2 q3 oc ot o2
    repeat (refine wpL_p fun K hK=>?_;go_simp;refine hK _ _ ?_;clear hK K)
    refine wpL_k (fun K hK=>?_)
    go_simp
    refine hK _ _ (RN.KeepsN.alloc _ _ (by omega)) ?_
    clear hK K
    repeat first|(refine wpL_p fun K hK=>?_;go_simp;refine hK _ _ ?_;clear hK K)|refine wpL_nil ?_
    exact⟨X2.heap.size,X1.heap.size,_,_,rfl,rfl,row_new X2 _,z3,OwnF.alloc OC.out _,OT.out.alloc _,O2.out.alloc _,Q3.out.alloc z3 _⟩
   ·
    refine wpL_k (fun K hK=>?_)
    refine wp_makeN (f:=Th.cells) (e:=283) (sz:=6) (B:=W.heap.size) _ _ _ rfl _ 40 Tryz.underlying208 infoTh rfl rfl (by omega) (by omega) (by first|omega|exact Nat.le_refl _) Th.zero rfl rfl (by decide) ?_
    intro X2 o2 q2 z2
    refine hK _ _ (RN.KeepsN.of_below q2) ?_
    clear hK K
    have q2:Below W.heap.size W X2:=(Below.refl _ W).drew.trans q2
    have z2:=q2.size
    refine wpL_k (fun K hK=>?_)
    go_simp
    refine(p_Clone _ _ P _ ((HW.out.below q2).more z2) HOK.out.ok).mono ?_
    rintro e X1 ⟨uc,ut,rfl,oc,ot,q1⟩
    refine hK _ _ (RN.KeepsN.of_below (q1.mono (by first|omega|exact Nat.le_refl _))) ?_
    clear hK K
    have q3:=q2.trans (q1.mono z2)
    have O2:=hid (OwnF.below o2 q1)
    have z4:=q1.size
    have oc:=OwnF.base oc z2
    have ot:=ot.map2 z2 (fun _ h=>OwnF.base h z2) (fun _ h=>OwnF.base h z2) (fun _ _ h=>OwnF.base h z2)
    obtain⟨ua,uk,rfl,-⟩:=oc.form2
    obtain⟨ta,tk,hut,-⟩:∃a c,ut=.slice a P.threads.length c∧True:=by
     obtain⟨ts,h1,h2,-⟩:=ot
     obtain⟨a,c,e,-⟩:=h1.form2
     exact⟨a,c,by rw[e,h2],trivial⟩
    subst hut
    have OC:=hid oc
    have OT:=hid ot
    have Q3:=hid q3
    have z3:=q3.size
    clear q1 q2 q3 oc ot o2
    repeat (refine wpL_p fun K hK=>?_;go_simp;refine hK _ _ ?_;clear hK K)
    refine wpL_k (fun K hK=>?_)
    go_simp
    refine hK _ _ (RN.KeepsN.alloc _ _ (by omega)) ?_
    clear hK K
    repeat first|(refine wpL_p fun K hK=>?_;go_simp;refine hK _ _ ?_;clear hK K)|refine wpL_nil ?_
    exact⟨X1.heap.size,W.heap.size,_,_,rfl,rfl,row_new X1 _,z3,OwnF.alloc OC.out _,OT.out.alloc _,O2.out.alloc _,Q3.out.alloc z3 _⟩
  ·rintro e a' X ⟨bW,gT,uc,ut,rfl,rfl,rw',hbw,oc,ot,oth,bx⟩
   have OC:=hid oc
   have OT:=hid ot
   have OH:=hid oth
   have RW:=hid rw'
   have BX:=hid bx
   clear rw' oc ot oth bx d0 d1
   go_wp2
   go_ret2
   refine⟨.inr ⟨HOK.out,bW,gT,uc,ut,rfl,RW.out,by omega,OwnF.base OC.out (by omega),OT.out.map2 (by omega) (fun _ h=>OwnF.base h (by omega)) (fun _ h=>OwnF.base h (by omega)) (fun _ _ h=>OwnF.base h (by omega)),OwnF.base OH.out (by omega),OwnF.nil _ _,HOK.out.ok,fun i t ht=>?_⟩,B1.out.trans (BX.out.mono (by omega))⟩
   have h1:t=Th.zero:=List.eq_of_mem_replicate (List.mem_of_getElem? ht)
   rw[h1]
   exact ThOk.zero (Nat.zero_le _)
end
section
attribute [local irreducible] wpL
theorem infoSt:(Tryz.prog.info? 131).map (fun i=>(i.zero,i.size,i.bytes))=some (some .nilFunc,1,8):=by kernel_rfl
theorem WkAt.base {w:World} {B B' bW gT:Nat} {vc vt ve:Value} {P:Pg} {S:Wst} (h:WkAt w B bW gT vc vt ve P S) (hB:B'≤B):WkAt w B' bW gT vc vt ve P S:=
 ⟨h.row,Nat.le_trans hB h.hB,OwnF.base h.cells hB,h.thr.map2 hB (fun _ h=>OwnF.base h hB) (fun _ h=>OwnF.base h hB) (fun _ _ h=>OwnF.base h hB),OwnF.base h.ths hB,OwnF.base h.evs hB,h.ok,h.tok⟩
structure DrAt (w:World) (B bD bW gT gN:Nat) (vc vt ve pc pt rf:Value) (P:Pg) (S:Wst) (nx:List Value):Prop where
 row:w.heap[bD]?=some (.cells #[pc,pt,.pointer (some ⟨bW,0,none⟩),.slice (some ⟨gN,0,none⟩) P.threads.length P.threads.length,rf] 129 (0,0))
 hB:B≤bD
 walk:WkAt w B bW gT vc vt ve P S
 pcells:OwnI w B pc P.cells
 pthr:OwnThr w B pt P.threads
 next:OwnF valC 131 1 w B (.slice (some ⟨gN,0,none⟩) P.threads.length P.threads.length) nx
theorem DrAt.below {w w':World} {B bD bW gT gN:Nat} {vc vt ve pc pt rf:Value} {P:Pg} {S:Wst} {nx:List Value} (h:DrAt w B bD bW gT gN vc vt ve pc pt rf P S nx) (hb:Below w.heap.size w w'):DrAt w' B bD bW gT gN vc vt ve pc pt rf P S nx:=
 ⟨row_below h.row hb (row_lt h.row),h.hB,h.walk.below hb,OwnF.below h.pcells hb,h.pthr.below hb,OwnF.below h.next hb⟩
def DStartRet (P:Pg) (ev rf:Value) (w:World) (e:Ending) (w':World):Prop:=
 (¬ValidIs P∧e=.returned (.tuple #[.pointer none,ev])∨ValidIs P∧∃bD bW gT gN vc vt pc pt,e=.returned (.tuple #[.pointer (some ⟨bD,0,none⟩),.nilIface])∧DrAt w' w.heap.size bD bW gT gN vc vt (.slice none 0 0) pc pt rf P ⟨List.replicate P.threads.length Th.zero,[]⟩ (List.replicate P.threads.length .nilFunc))∧Below w.heap.size w w'
def DStartMid (P:Pg) (w W:World) (rf:Value) (bW:Nat) (ac:Option Addr) (cc:Nat) (at':Option Addr) (ct:Nat):Exit→Act→World→Prop:=fun e a' X=>
 ∃(bD gN:Nat) (uc ut:Value),e=.normal∧a'={tmps:=#[(.agg #[.slice ac P.cells.length cc,.slice at' P.threads.length ct]),rf,.pointer (some ⟨w.heap.size,0,none⟩),undef,.pointer (some ⟨bD,0,none⟩),.nilIface,.pointer (some ⟨bW,0,none⟩),.nilIface,.tuple #[.pointer (some ⟨bW,0,none⟩),.nilIface],(.agg #[.slice ac P.cells.length cc,.slice at' P.threads.length ct]),.tuple #[.pointer (some ⟨bW,0,none⟩),.nilIface],.pointer (some ⟨bW,0,none⟩),.nilIface,.nilIface,.bool false,undef,(.agg #[.slice ac P.cells.length cc,.slice at' P.threads.length ct]),.agg #[uc,ut],.pointer (some ⟨bW,0,none⟩),.pointer (some ⟨w.heap.size,1,none⟩),(.slice at' P.threads.length ct),.int .i64 P.threads.length,.slice (some ⟨gN,0,none⟩) P.threads.length P.threads.length,rf,.agg #[uc,ut,.pointer (some ⟨bW,0,none⟩),.slice (some ⟨gN,0,none⟩) P.threads.length P.threads.length,rf],.pointer (some ⟨bD,0,none⟩)],defers:=[]}∧X.heap[bD]?=some (.cells #[uc,ut,.pointer (some ⟨bW,0,none⟩),.slice (some ⟨gN,0,none⟩) P.threads.length P.threads.length,rf] 129 (0,0))∧W.heap.size≤bD∧
  OwnI X W.heap.size uc P.cells∧OwnThr X W.heap.size ut P.threads∧OwnF valC 131 1 X W.heap.size (.slice (some ⟨gN,0,none⟩) P.threads.length P.threads.length) (List.replicate P.threads.length .nilFunc)∧Below W.heap.size W X
theorem p_dStart (vc vt:Value) (P:Pg) (w:World) (h:PgIs w w.heap.size vc vt P) (fn:Fn) (fi ca:Array Value) (ev:Value) (hev:w.cell? ⟨2,0,none⟩=some ev) (hne:∃t v,ev=.iface t v) (h10:2 < w.heap.size):
  Calls Tryz.prog 34 #[.agg #[vc,vt],.func fn fi ca] w (DStartRet P ev (.func fn fi ca) w):=by
 obtain⟨ac,cc,rfl,mc⟩:=h.cells.ex
 obtain⟨at',ct,rfl,mt⟩:=h.thr.ex
 obtain⟨ty,va,rfl⟩:=hne
 have H:=hid h
 have HE:=hid hev
 clear h hev
 go_enter Tryz.func34,Tryz.ntmps34
 go_wp2_with fail
 have b0:Below w.heap.size w (w.alloc (.cells #[.slice ac P.cells.length cc,.slice at' P.threads.length ct] 25)):=(Below.refl _ w).alloc (Nat.le_refl _) _
 have r0:=row_new w (.cells #[.slice ac P.cells.length cc,.slice at' P.threads.length ct] 25)
 have z0:w.heap.size+1≤(w.alloc (.cells #[.slice ac P.cells.length cc,.slice at' P.threads.length ct] 25)).heap.size:=by simp
 generalize w.alloc (.cells #[.slice ac P.cells.length cc,.slice at' P.threads.length ct] 25)=X at *
 refine(p_Start _ _ P X ((H.out.below b0).more (by omega)) (.iface ty va) (cell_below b0 h10 HE.out) ⟨_,_,rfl⟩ (by omega)).mono ?_
 rintro e W ⟨hv,b1⟩
 have zW:=b1.size
 have d0:W.cell? ⟨w.heap.size,0,none⟩=some (.slice ac P.cells.length cc):=cell_below b1 (by omega) (row_cell r0 0)
 have d1:W.cell? ⟨w.heap.size,1,none⟩=some (.slice at' P.threads.length ct):=cell_below b1 (by omega) (row_cell r0 1)
 have B1:=hid (b0.trans (b1.mono (by omega)))
 have HW:=hid ((H.out.below B1.out).more (B:=w.heap.size) (B':=W.heap.size) (by omega))
 have lw:w.heap.size < W.heap.size:=by omega
 clear b0 b1 r0 H HE
 rcases hv with⟨hno,rfl⟩|⟨hok,bW,gT,vc,vt,rfl,hwk⟩
 case inl=>
  have HN:=hid hno
  clear hno d0 d1
  go_wp2
  go_ret2
  exact⟨.inl ⟨HN.out,rfl⟩,B1.out⟩
 case inr=>
  have HOK:=hid hok
  have hn4:=hok.nums
  have HWK:=hid hwk
  clear hok hwk
  go_wp2_with fail
  refine wp_mono (Q:=DStartMid P w W (.func fn fi ca) bW ac cc at' ct) ?_ ?_
  ·
   refine wp_rN (W.heap.size) [1,3,0,0,1,0,3,0,0,3,0,0] (.frk [0,2,3,4,5,7] (.fin [1,6,8,9,10,11]) (.fin [6,1,8,9,10,11])) (by kernel_rfl) ?_
   simp only[wpT,selX,guardAt,sD,sE,sF,sG]
   repeat first|(refine wpL_p fun K hK=>?_;go_simp;refine hK _ _ ?_;clear hK K)|(apply wpL_s;(intro w2 hw2;have hk1:=hw2.cell;have hk3:=hw2.1;clear hw2;go_simp;with_reducible rfl);simp only[Act.put,sA,sB,sC])|refine wpL_nil ?_
   refine⟨?_,?_⟩
   ·
    refine wpL_k (fun K hK=>?_)
    go_simp
    refine(p_Clone _ _ P _ (show PgIs W.drew W.drew.heap.size _ _ P from HW.out.below (Below.refl _ W).drew) HOK.out.ok).mono ?_
    rintro e X1 ⟨uc,ut,rfl,oc,ot,q1⟩
    refine hK _ _ (RN.KeepsN.of_below (q1.mono (by first|omega|exact Nat.le_refl _))) ?_
    clear hK K
    have q1:Below W.heap.size W X1:=(Below.refl _ W).drew.trans q1
    have z1:=q1.size
    have oc:OwnI X1 W.heap.size uc P.cells:=oc
    have ot:OwnThr X1 W.heap.size ut P.threads:=ot
    obtain⟨ua,uk,rfl,-⟩:=oc.form2
    obtain⟨ta,tk,hut,-⟩:∃a c,ut=.slice a P.threads.length c∧True:=by
     obtain⟨ts,h1,h2,-⟩:=ot
     obtain⟨a,c,e,-⟩:=h1.form2
     exact⟨a,c,by rw[e,h2],trivial⟩
    subst hut
    refine wpL_k (fun K hK=>?_)
    refine wp_makeN (f:=valC) (e:=131) (sz:=1) (B:=W.heap.size) _ _ _ rfl _ 8 Tryz.underlying127 infoSt rfl rfl (by omega) (by omega) (by first|omega|exact Nat.le_refl _) (.nilFunc) rfl rfl (by decide) ?_
    intro X2 o2 q2 z2
    refine hK _ _ (RN.KeepsN.of_below (q2.mono (by first|omega|exact Nat.le_refl _))) ?_
    clear hK K
    have q3:=q1.trans (q2.mono z1)
    have O2:=hid o2
    have OC:=hid (OwnF.below oc q2)
    have OT:=hid (ot.below q2)
    have Q3:=hid q3
    have z3:=q3.size
    clear q1 q2 q3 oc ot o2
    repeat (refine wpL_p fun K hK=>?_;go_simp;refine hK _ _ ?_;clear hK K)
    refine wpL_k (fun K hK=>?_)
    go_simp
    refine hK _ _ (RN.KeepsN.alloc _ _ (by omega)) ?_
    clear hK K
    repeat first|(refine wpL_p fun K hK=>?_;go_simp;refine hK _ _ ?_;clear hK K)|refine wpL_nil ?_
    exact⟨X2.heap.size,X1.heap.size,_,_,rfl,rfl,row_new X2 _,z3,OwnF.alloc OC.out _,OT.out.alloc _,O2.out.alloc _,Q3.out.alloc z3 _⟩
   ·
    refine wpL_k (fun K hK=>?_)
    refine wp_makeN (f:=valC) (e:=131) (sz:=1) (B:=W.heap.size) _ _ _ rfl _ 8 Tryz.underlying127 infoSt rfl rfl (by omega) (by omega) (by first|omega|exact Nat.le_refl _) (.nilFunc) rfl rfl (by decide) ?_
    intro X2 o2 q2 z2
    refine hK _ _ (RN.KeepsN.of_below q2) ?_
    clear hK K
    have q2:Below W.heap.size W X2:=(Below.refl _ W).drew.trans q2
    have z2:=q2.size
    refine wpL_k (fun K hK=>?_)
    go_simp
    refine(p_Clone _ _ P _ ((HW.out.below q2).more z2) HOK.out.ok).mono ?_
    rintro e X1 ⟨uc,ut,rfl,oc,ot,q1⟩
    refine hK _ _ (RN.KeepsN.of_below (q1.mono (by first|omega|exact Nat.le_refl _))) ?_
    clear hK K
    have q3:=q2.trans (q1.mono z2)
    have O2:=hid (OwnF.below o2 q1)
    have z4:=q1.size
    have oc:=OwnF.base oc z2
    have ot:=ot.map2 z2 (fun _ h=>OwnF.base h z2) (fun _ h=>OwnF.base h z2) (fun _ _ h=>OwnF.base h z2)
    obtain⟨ua,uk,rfl,-⟩:=oc.form2
    obtain⟨ta,tk,hut,-⟩:∃a c,ut=.slice a P.threads.length c∧True:=by
     obtain⟨ts,h1,h2,-⟩:=ot
     obtain⟨a,c,e,-⟩:=h1.form2
     exact⟨a,c,by rw[e,h2],trivial⟩
    subst hut
    have OC:=hid oc
    have OT:=hid ot
    have Q3:=hid q3
    have z3:=q3.size
    clear q1 q2 q3 oc ot o2
    repeat (refine wpL_p fun K hK=>?_;go_simp;refine hK _ _ ?_;clear hK K)
    refine wpL_k (fun K hK=>?_)
    go_simp
    refine hK _ _ (RN.KeepsN.alloc _ _ (by omega)) ?_
    clear hK K
    repeat first|(refine wpL_p fun K hK=>?_;go_simp;refine hK _ _ ?_;clear hK K)|refine wpL_nil ?_
    exact⟨X1.heap.size,W.heap.size,_,_,rfl,rfl,row_new X1 _,z3,OwnF.alloc OC.out _,OT.out.alloc _,O2.out.alloc _,Q3.out.alloc z3 _⟩
  ·rintro e a' X ⟨bD,gN,uc,ut,rfl,rfl,rw',hbw,oc,ot,oth,bx⟩
   have OC:=hid oc
   have OT:=hid ot
   have OH:=hid oth
   have RW:=hid rw'
   have BX:=hid bx
   clear rw' oc ot oth bx d0 d1
   go_wp2
   go_ret2
   exact⟨.inr ⟨HOK.out,bD,bW,gT,gN,vc,vt,uc,ut,rfl,RW.out,by omega,WkAt.base (HWK.out.below BX.out) (by omega),OwnF.base OC.out (by omega),OT.out.map2 (by omega) (fun _ h=>OwnF.base h (by omega)) (fun _ h=>OwnF.base h (by omega)) (fun _ _ h=>OwnF.base h (by omega)),OwnF.base OH.out (by omega)⟩,B1.out.trans (BX.out.mono (by omega))⟩
end
section
attribute [local irreducible] wpL
theorem Kp.rowW {ev:Value} {w w':World} {b:Nat} {cs:Array Value} {t:TypeId} {fz:Nat×Nat} (h:Kp Mw ev w w') (hb:w.heap[b]?=some (.cells cs t fz)) (h1:t≠210) (h2:t≠283) (h3:t≠53):w'.heap[b]?=some (.cells cs t fz):=
 h.cells b cs t fz hb (fun hm=>by rcases hm with h|h;exact h1 h;exact h2 h) (fun ht=>absurd ht h3)
theorem OwnF.kpW {α:Type} {f:α→List Value} {e:TypeId} {sz B:Nat} {v ev:Value} {l:List α} {w w':World} (h:OwnF f e sz w B v l) (hk:Kp Mw ev w w') (h1:e≠210) (h2:e≠283) (h3:e≠53):OwnF f e sz w' B v l:=
 OwnF.kp h hk (fun hm=>by rcases hm with h|h;exact h1 h;exact h2 h) h3
theorem OwnThr.kpW {B:Nat} {v ev:Value} {l:List (List (List Ac))} {w w':World} (h:OwnThr w B v l) (hk:Kp Mw ev w w'):OwnThr w' B v l:=
 h.kp hk (by unfold Mw;decide) (by unfold Mw;decide) (by unfold Mw;decide)
theorem DrAt.walked {w w':World} {B bD bW gT gN:Nat} {vc vt ve ve' pc pt rf:Value} {P:Pg} {S S':Wst} {nx:List Value} (h:DrAt w B bD bW gT gN vc vt ve pc pt rf P S nx) (hk:Kp Mw ve w w') (hw:WkAt w' B bW gT vc vt ve' P S'):DrAt w' B bD bW gT gN vc vt ve' pc pt rf P S' nx:=
 ⟨hk.rowW h.row (by decide) (by decide) (by decide),h.hB,hw,OwnF.kpW h.pcells hk (by decide) (by decide) (by decide),h.pthr.kpW hk,OwnF.kpW h.next hk (by decide) (by decide) (by decide)⟩
def AnsPost (B bD bW gT gN:Nat) (vc vt ve pc pt rf:Value) (P:Pg) (S:Wst) (nx:List Value) (i:Nat) (w:World) (r:Option (Th×Ev)) (x:Ending) (w':World):Prop:=
 x=.returned (.tuple #[])∧Below B w w'∧Kp Mw ve w w'∧∃ve',DrAt w' B bD bW gT gN vc vt ve' pc pt rf P (match r with|none=>S|some y=>S.put i y) nx∧∀k,ve'.ownBlock=some k→ve.ownBlock=some k∨w.heap.size≤k
section
variable {w:World} {B bD bW gT gN:Nat} {vc vt ve pc pt rf:Value} {P:Pg} {S:Wst} {nx:List Value}
theorem d_answer (h:DrAt w B bD bW gT gN vc vt ve pc pt rf P S nx) (hBw:B≤w.heap.size) (i:Nat) (hi:i < P.threads.length) {t:Th} (ht:S.ths[i]?=some t) (val:Int) (abort:Bool) (hv:within9 val=true) (hv2:∀a,(P.acts i t.tx)[t.act]?=some a→a.kind=3→t.adding=false→within9 (val+a.val)=true) (hl:S.evs.length≤100000):
  Calls Tryz.prog 106 #[.pointer (some ⟨bD,0,none⟩),.int .i64 i,.int .i64 val,.bool abort] w (AnsPost B bD bW gT gN vc vt ve pc pt rf P S nx i w (ansOf P i t val abort)):=by
 have d2:w.cell? ⟨bD,2,none⟩=some (.pointer (some ⟨bW,0,none⟩)):=row_cell h.row 2
 have lD:=row_lt h.row
 have H:=hid h
 have hA:=hid (wk_answer h.walk hBw i hi ht val abort hv hv2 hl)
 clear h hv2
 generalize ansOf P i t val abort=r at hA ⊢
 go_enter Tryz.func106,Tryz.ntmps106
 go_wp2_with fail
 refine(hA.out).mono ?_
 clear hA
 intro x w1 hx
 cases r with
 |none=>
  obtain⟨rfl,hb⟩:=hx
  have HB:=hid hb
  clear hb
  go_wp2
  go_end0
  exact⟨rfl,HB.out.mono hBw,Kp.of_below HB.out,ve,H.out.below HB.out,fun k h=>.inl h⟩
 |some y=>
  obtain⟨rfl,ve',hw,hk,hb,ho⟩:=hx
  have HB:=hid hb
  have HK:=hid hk
  have HW:=hid hw
  have HO:=hid ho
  clear hb hk hw ho
  go_wp2
  go_end0
  exact⟨rfl,HB.out,HK.out,ve',H.out.walked HK.out HW.out,HO.out⟩
end
end
section
attribute [local irreducible] wpL
theorem infoO:(Tryz.prog.info? 96).map (fun i=>(i.zero,i.size,i.bytes))=some (some (.agg #[.int .i64 0,.int .i64 0]),2,16):=by kernel_rfl
theorem ob_one (e:Ob):∀u ∈ e.cells,u.oneCell'=true:=by intro u hu;simp[Ob.cells] at hu;rcases hu with rfl|rfl <;> rfl
def allDone (P:Pg) (S:Wst):Bool:=(List.range P.threads.length).all fun i=>wDone P S i
theorem OwnThr.form {w:World} {B:Nat} {v:Value} {l:List (List (List Ac))} (h:OwnThr w B v l):∃a c,v=.slice a l.length c:=by
 obtain⟨ts,h1,h2,-⟩:=h
 obtain⟨a,c,e,-⟩:=h1.form2
 exact⟨a,c,by rw[e,h2]⟩
def obsOf (P:Pg):List Ob:=P.cells.map fun c=>⟨1,c⟩
def HistRet (os:List Ob) (es:List Ev) (w:World) (e:Ending) (w':World):Prop:=
 ∃ov vv,e=.returned (.agg #[ov,vv])∧OwnF Ob.cells 96 2 w' w.heap.size ov os∧OwnF Ev.cells 53 8 w' w.heap.size vv es∧Below w.heap.size w w'
section
variable {w:World} {B bD bW gT gN:Nat} {vc vt ve pc pt rf:Value} {P:Pg} {S:Wst} {nx:List Value}
theorem d_done (h:DrAt w B bD bW gT gN vc vt ve pc pt rf P S nx):
  Calls Tryz.prog 37 #[.pointer (some ⟨bD,0,none⟩)] w fun e w'=>e=.returned (.bool (allDone P S))∧Below w.heap.size w w':=by
 obtain⟨at',ct,rfl⟩:=h.pthr.form
 have d1:w.cell? ⟨bD,1,none⟩=some (.slice at' P.threads.length ct):=row_cell h.row 1
 have d2:w.cell? ⟨bD,2,none⟩=some (.pointer (some ⟨bW,0,none⟩)):=row_cell h.row 2
 have lD:=row_lt h.row
 have hn4:=h.walk.ok.threads.2
 have H:=hid h
 clear h
 go_enter Tryz.func37,Tryz.ntmps37
 go_wp2_with fail
 have D2:=hid d2
 clear d1 d2
 go_loopw [10] (fun p wr=>∃i:Nat,i≤P.threads.length∧p=.int .i64 i∧Below w.heap.size w wr∧∀j:Nat,j < i→wDone P S j=true) (fun p _=>P.threads.length - (intOf p).toNat)
 case atStart=>exact⟨0,by omega,by go_num,Below.refl _ _,fun j hj=>absurd hj (by omega)⟩
 case round=>
  obtain⟨i,hi,rfl,hbw,hd⟩:=hrel
  have HBW:=hid hbw
  have HD:=hid hd
  clear hbw hd
  by_cases hlt:i < P.threads.length
  ·have d2:=cell_below HBW.out lD D2.out
   have lDr:bD < wr.heap.size:=by have:=HBW.out.size;omega
   go_wp2_with fail
   refine(wk_done (H.out.walk.below HBW.out) i).mono ?_
   rintro e w1 ⟨rfl,rfl⟩
   cases hw:wDone P S i with
   |false=>
    go_wp2
    go_ret
    refine⟨?_,HBW.out.drew⟩
    have:allDone P S=false:=by
     unfold allDone
     rw[List.all_eq_false]
     exact⟨i,List.mem_range.2 hlt,by simp[hw]⟩
    rw[this];rfl
   |true=>
    go_wp2_with fail
    go_roundw
    case rel=>
     refine⟨i+1,by omega,by go_num,HBW.out.drew,fun j hj=>?_⟩
     rcases Nat.lt_or_eq_of_le (Nat.lt_succ_iff.1 hj) with h|rfl
     ·exact HD.out j h
     ·exact hw
    case measure=>simp[intOf];omega
  ·obtain rfl:i=P.threads.length:=by omega
   go_wp2
   go_ret
   refine⟨?_,HBW.out⟩
   have:allDone P S=true:=by
    unfold allDone
    rw[List.all_eq_true]
    exact fun j hj=>HD.out j (List.mem_range.1 hj)
   rw[this];rfl
theorem d_history (h:DrAt w B bD bW gT gN vc vt ve pc pt rf P S nx) (hl:S.evs.length≤100000):
  Calls Tryz.prog 38 #[.pointer (some ⟨bD,0,none⟩)] w (HistRet (obsOf P) S.evs w):=by
 obtain⟨ac,cc,rfl,-⟩:=h.pcells.form2
 have d0:w.cell? ⟨bD,0,none⟩=some (.slice ac P.cells.length cc):=row_cell h.row 0
 have d2:w.cell? ⟨bD,2,none⟩=some (.pointer (some ⟨bW,0,none⟩)):=row_cell h.row 2
 have lD:=row_lt h.row
 have hn4:=h.walk.ok.cells.2
 have HC:=hid (show Sl w w.heap.size 1 (.slice ac P.cells.length cc) P.cells.length (P.cells.map (.int .i64)) from by rw[←flat_int];exact h.pcells.sl)
 have D0:=hid d0
 have H:=hid h
 clear h d0
 go_enter Tryz.func38,Tryz.ntmps38
 go_wp2_with fail
 have b0:Below w.heap.size w (w.alloc (.cells #[.slice none 0 0,.slice none 0 0] 37)):=(Below.refl _ w).alloc (Nat.le_refl _) _
 have r0:=row_new w (.cells #[.slice none 0 0,.slice none 0 0] 37)
 have z0:(w.alloc (.cells #[.slice none 0 0,.slice none 0 0] 37)).heap.size=w.heap.size+1:=by simp
 generalize w.alloc (.cells #[.slice none 0 0,.slice none 0 0] 37)=X at *
 refine(wk_events (H.out.walk.below b0) hl).mono ?_
 rintro e W ⟨vv,rfl,oe,b1⟩
 obtain⟨ae,ce,rfl,-⟩:=oe.form2
 have z1:=b1.size
 have r1:=row_below r0 b1 (by omega)
 have B1:=hid (b0.trans (b1.mono (by omega)))
 have OE:=hid (OwnF.base oe (show w.heap.size≤X.heap.size by omega))
 have lo:w.heap.size < W.heap.size:=by omega
 have lD1:bD < W.heap.size:=by omega
 have d0:=cell_below B1.out lD D0.out
 have R1:=hid r1
 clear b0 r0 oe d2 r1
 go_wp2_with fail
 have b2:Below w.heap.size w (W.alloc (.cells #[.slice none 0 0,.slice ae S.evs.length ce] 37)):=B1.out.alloc (by omega) _
 have r2:=row_new W (.cells #[.slice none 0 0,.slice ae S.evs.length ce] 37)
 have r3:=row_old (o:=.cells #[.slice none 0 0,.slice ae S.evs.length ce] 37) R1.out
 have o2:=OE.out.alloc (.cells #[.slice none 0 0,.slice ae S.evs.length ce] 37)
 have hob:(obsOf P).length=P.cells.length:=by simp[obsOf]
 generalize W.alloc (.cells #[.slice none 0 0,.slice ae S.evs.length ce] 37)=Y at *
 have B2:=hid b2
 have R2:=hid r2
 have R3:=hid r3
 have O2:=hid o2
 clear b2 r2 r3 o2 d0
 go_loopw [18] (fun p wr=>∃(i:Nat) (ov:Value),i≤P.cells.length∧p=.int .i64 i∧Below w.heap.size w wr∧wr.heap[W.heap.size]?=some (.cells #[ov,.slice ae S.evs.length ce] 37 (0,0))∧wr.heap[w.heap.size]?=some (.cells #[.slice none 0 0,.slice none 0 0] 37 (0,0))∧OwnF Ob.cells 96 2 wr w.heap.size ov ((obsOf P).take i)∧OwnF Ev.cells 53 8 wr w.heap.size (.slice ae S.evs.length ce) S.evs) (fun p _=>P.cells.length - (intOf p).toNat)
 case atStart=>exact⟨0,.slice none 0 0,by omega,by go_num,B2.out,R2.out,R3.out,OwnF.nil _ _,O2.out⟩
 case round=>
  obtain⟨i,ov,hi,rfl,hB,hr2,hr3,hO,hV⟩:=hrel
  clear B2 R2 R3 O2
  obtain⟨ao,co,rfl,-⟩:=hO.form2
  have hlo:((obsOf P).take i).length=i:=by rw[List.length_take];omega
  rw[hlo] at hO hr2
  have e0:=row_cell hr2 0
  have ef:=row_free hr2 0
  have e1:=row_cell hr2 1
  have lh:=row_lt hr2
  have zB:=hB.size
  have HB:=hid hB
  have HR2:=hid hr2
  have HR3:=hid hr3
  have HO:=hid hO
  have HV:=hid hV
  clear hB hr2 hr3 hO hV
  by_cases hlt:i < P.cells.length
  ·obtain ⟨b,off,c,rfl,hb,hc,hcc⟩:=HC.out.intAt hlt
   have hcc:=cell_below HB.out hb hcc
   have hbz:b < wr.heap.size:=by omega
   have hoc:(obsOf P)[i]?=some ⟨1,c⟩:=by simp[obsOf,hc]
   have HOC:=hid hoc
   clear hoc hc e1
   go_wp2_with (at_builtin;refine wpList_appF rfl _ _ _ rfl _ 16 Tryz.underlying34 infoO rfl HO.out ⟨1,c⟩ (by first|omega|(simp <;> omega)) (by rfl) (by rfl) (by first|rfl|simp) rfl (ob_one _) (by first|omega|(simp only[List.length_append,List.length_cons,List.length_nil,List.length_replicate];omega)) (by first|omega|(simp only[List.length_append,List.length_cons,List.length_nil,List.length_replicate];omega)) ?_;refine Stop.halt ?_)
   refine Stop.go ?_
   intro g4 c4 w4 o4 G4
   have b4:=HB.out.trans (G4.below zB fun q h=>(HO.out.lt q h).1)
   have q2:=row_grw HR2.out G4 (OwnF.neT HO.out HR2.out (by decide))
   have q3:=row_grw HR3.out G4 (OwnF.neT HO.out HR3.out (by decide))
   have oV:=HV.out.grwT HO.out (by decide) G4
   have f6:=row_free q2 0
   have l6:=row_lt q2
   have e0:=row_cell q2 0
   have B4:=hid b4
   have Q2:=hid q2
   have Q3:=hid q3
   have OV:=hid oV
   have O4:=hid o4
   clear b4 q2 q3 oV o4 G4 ef lh
   go_wp2_with fail
   go_roundw
   case rel=>
    refine⟨i+1,_,by omega,by go_num,B4.out.setCell (p:=⟨W.heap.size,0,none⟩) (by show w.heap.size≤W.heap.size;omega) _,row_set Q2.out 0 _,row_other Q3.out (by omega),?_,OwnF.other OV.out (OwnF.neT OV.out Q2.out (by decide)) _⟩
    rw[take_step HOC.out]
    exact OwnF.other O4.out (OwnF.neT O4.out Q2.out (by decide)) _
   case measure=>simp[intOf];omega
  ·obtain rfl:i=P.cells.length:=by omega
   have y0:=row_cell HR3.out 0
   have y1:=row_cell HR3.out 1
   have yf:∀j,wr.frozen? ⟨w.heap.size,j,none⟩=false:=fun j=>row_free HR3.out j
   have l3:=row_lt HR3.out
   go_wp2
   have r4:=row2 (u1:=.slice ao P.cells.length co) (u2:=.slice ae S.evs.length ce) HR3.out
   have c0:=row_cell r4 0
   have c1:=row_cell r4 1
   simp only[List.getElem?_toArray,List.getElem?_cons_zero,List.getElem?_cons_succ] at c0 c1
   refine bodyPost_ret (v:=.agg #[.slice ao P.cells.length co,.slice ae S.evs.length ce]) (by simp[results,Tryz.results38,go_sem,c0,c1]) rfl ⟨_,_,rfl,?_,?_,?_⟩
   ·have:=OwnF.box2 (u1:=.slice ao P.cells.length co) (u2:=.slice ae S.evs.length ce) HO.out HR3.out (by decide)
    rwa [show (obsOf P).take P.cells.length=obsOf P from by rw[←hob,List.take_length]] at this
   ·exact OwnF.box2 HV.out HR3.out (by decide)
   ·exact (HB.out.setCell (p:=⟨w.heap.size,0,none⟩) (Nat.le_refl _) _).setCell (p:=⟨w.heap.size,1,none⟩) (Nat.le_refl _) _
end
end
