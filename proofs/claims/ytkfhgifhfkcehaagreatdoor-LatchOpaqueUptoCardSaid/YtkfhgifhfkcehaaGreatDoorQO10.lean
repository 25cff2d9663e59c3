/- Parts of the proof; the first: The walk through a program begun. Conditions: those of each theorem, as typed. -/
import Derived.Test.YtkfhgifhfkcehaaGreatDoorQO03
import Derived.Test.YtkfhgifhfkcehaaGreatDoorQO09
import Derived.Maps.OwnSet
import Derived.Maps.RangeWalk
set_option linter.unusedVariables false
set_option linter.unusedSimpArgs false
set_option linter.unusedSectionVars false
set_option maxRecDepth 100000
set_option maxHeartbeats 4000000
namespace Go.Proofs.YtkfhgifhfkcehaaGreatDoor
open Go.Maps Go.RowKit
section
attribute [local irreducible] xF
theorem made_flat {α:Type} (f:α->List Value) (sz n:Nat) (x:α) (zc:Array Value) (hz:zc.size=sz) (h0:0 < sz) (hf:f x=zc.toList):(madeCells zc (n*sz)).toList=(List.replicate n x).flatMap f:=by
 have hlen:((List.replicate n x).flatMap f).length=n*sz:=by
  induction n with
  |zero=>simp
  |succ n ih=>rw[List.replicate_succ,List.flatMap_cons,List.length_append,ih,hf];simp[hz,Nat.add_mul];omega
 have hml:(madeCells zc (n*sz)).toList.length=n*sz:=by rw[Array.length_toList,size_madeCells]
 apply List.ext_getElem?;intro i;by_cases hi:i < n*sz
 ·have hd:i / sz < n:=Nat.div_lt_of_lt_mul (by rw[Nat.mul_comm];exact hi)
  have hm:i % sz < sz:=Nat.mod_lt _ h0;have he:i=i / sz*sz+i % sz:=by rw[Nat.mul_comm];exact(Nat.div_add_mod i sz).symm
  have key:∀(n k j:Nat),k < n->j < sz->((List.replicate n x).flatMap f)[k*sz+j]?=(f x)[j]?:=by
   intro n
   induction n with
   |zero=>intro k j hk;omega
   |succ n ih=>
    intro k j hk hj;rw[List.replicate_succ,List.flatMap_cons];have hfl:(f x).length=sz:=by rw[hf];simpa using hz
    cases k with
    |zero=>rw[Nat.zero_mul,Nat.zero_add,List.getElem?_append_left (by omega)]
    |succ k=>
     rw[List.getElem?_append_right (by rw[hfl,Nat.add_mul];omega),hfl,show(k+1)*sz+j - sz=k*sz+j by rw[Nat.add_mul];omega];exact ih k j (by omega) hj
  rw[he,key n _ _ hd hm,←he,hf];simp only[madeCells,Array.getElem?_toList];rw[Array.getElem?_map];simp[hi,hz,hm]
 ·rw [List.getElem?_eq_none (by omega),List.getElem?_eq_none (by omega)]
section
variable {α:Type} {f:α->List Value} {e:TypeId} {sz B:Nat} {P:Program} {o:Oper} {a:Act} {K:Act->World->Prop} {Q:Exit->Act->World->Prop}
theorem wp_makeN (s c:Operand) (t:TypeId) (ho:o.op=.makeSlice t s c) (z:Value) (bytes:Nat) (ht:P.underlying t=some (.slice e)) (hinfo:(P.info? e).map (fun i=>(i.zero,i.size,i.bytes))=some (some z,sz,bytes))
  {w:World} {n:Nat} (hs:a.eval s=.int .i64 n) (hc:a.eval c=.int .i64 n) (hn:n<=9223372036854775807) (hby:bytes*n<=140737488355328) (hB:B<=w.heap.size) (x:α) (hx:f x=z.cells.toList) (hz:z.cells.size=sz) (h0:0 < sz)
  (hK:∀w',qp f e sz w' B (.slice (some ⟨w.heap.size,0,none⟩) n n) (List.replicate n x)->Below w.heap.size w w'->w.heap.size+1<=w'.heap.size->K (a.put o.dst (.slice (some ⟨w.heap.size,0,none⟩) n n)) w'):
  o.wp P a w K Q:=by
 obtain⟨i0,hi,hz0,hz1,hz2⟩:=info_parts hinfo;obtain⟨w',hr,h1,h2⟩:=run_make_full (P:=P) w B t e i0 z sz ht hi hz0 hz1 .i64 .i64 n (by rw[hz2];omega) (by unfold maxLen;omega) hB;rw[made_flat f sz n x _ hz h0 hx] at h1;unfold Oper.wp execOp;simp[ho,hs,hc,hr,Result.andThen];refine hK w' (by unfold qp;rw[List.length_replicate];exact h1) ((Below.refl w.heap.size w).grown h2 (Nat.le_refl _) (fun _ h=>by cases h)) ?_;obtain⟨-,h3⟩:=h1;rcases h3 with⟨h3,-⟩|⟨g,cap,cur,hv,-,hh,-⟩
 ·cases h3
 ·simp only[Value.slice.injEq,Option.some.injEq,Addr.mk.injEq,and_true] at hv
  obtain⟨rfl,-⟩:=hv;exact qg hh
end
theorem infoTh:(Tryz.prog.info? 283).map (fun i=>(i.zero,i.size,i.bytes))=some (some (.agg #[.int .i64 0,.int .i64 0,.bool false,.bool false,.int .i64 0,.int .i64 0]),6,40):=by kernel_rfl
def StartRet (P:Pg) (ev:Value) (w:World) (e:Ending) (w':World):Prop:=
 (¬xS P/\e=.returned (.tuple #[.pointer none,ev])\/xS P/\∃bW gT vc vt,e=.returned (.tuple #[.pointer (some ⟨bW,0,none⟩),.nilIface])/\qT w' w.heap.size bW gT vc vt (.slice none 0 0) P ⟨List.replicate P.threads.length Th.zero,[]⟩)/\Below w.heap.size w w'
def StartMid (P:Pg) (w W:World) (ac:Option Addr) (cc:Nat) (at':Option Addr) (ct:Nat):Exit->Act->World->Prop:=fun e a' X=>
 ∃(bW gT:Nat) (uc ut:Value),e=.normal/\a'={tmps:=#[(.agg #[.slice ac P.cells.length cc,.slice at' P.threads.length ct]),.pointer (some ⟨w.heap.size,0,none⟩),.pointer (some ⟨bW,0,none⟩),.nilIface,.nilIface,(.agg #[.slice ac P.cells.length cc,.slice at' P.threads.length ct]),.nilIface,.nilIface,.bool false,undef,(.agg #[.slice ac P.cells.length cc,.slice at' P.threads.length ct]),.agg #[uc,ut],.pointer (some ⟨w.heap.size,1,none⟩),(.slice at' P.threads.length ct),.int .i64 P.threads.length,.slice (some ⟨gT,0,none⟩) P.threads.length P.threads.length,.agg #[uc,ut,.slice (some ⟨gT,0,none⟩) P.threads.length P.threads.length,.slice none 0 0],.pointer (some ⟨bW,0,none⟩)],defers:=[]}/\X.heap[bW]?=some (.cells #[uc,ut,.slice (some ⟨gT,0,none⟩) P.threads.length P.threads.length,.slice none 0 0] 210 (0,0))/\W.heap.size<=bW/\
  zg X W.heap.size uc P.cells/\xq X W.heap.size ut P.threads/\qp Th.cells 283 6 X W.heap.size (.slice (some ⟨gT,0,none⟩) P.threads.length P.threads.length) (List.replicate P.threads.length Th.zero)/\Below W.heap.size W X
theorem p_Start (vc vt:Value) (P:Pg) (w:World) (h:PgIs w w.heap.size vc vt P) (ev:Value) (hev:w.cell? ⟨2,0,none⟩=some ev) (hne:∃t v,ev=.iface t v) (h10:2 < w.heap.size):
  Calls Tryz.prog 58 #[.agg #[vc,vt]] w (StartRet P ev w):=by
 obtain⟨ac,cc,rfl,mc⟩:=h.cells.ex;obtain⟨at',ct,rfl,mt⟩:=h.thr.ex;obtain⟨ty,va,rfl⟩:=hne;have H:=qh h;have HE:=qh hev;clear h hev;go_enter Tryz.func58,Tryz.ntmps58;go_wp2_with fail;have b0:Below w.heap.size w (w.alloc (.cells #[.slice ac P.cells.length cc,.slice at' P.threads.length ct] 25)):=(Below.refl _ w).alloc (Nat.le_refl _) _;have r0:=qu w (.cells #[.slice ac P.cells.length cc,.slice at' P.threads.length ct] 25);have z0:w.heap.size+1<=(w.alloc (.cells #[.slice ac P.cells.length cc,.slice at' P.threads.length ct] 25)).heap.size:=by simp
 generalize w.alloc (.cells #[.slice ac P.cells.length cc,.slice at' P.threads.length ct] 25)=X at *;refine(p_Valid _ _ P X ((H.o.below b0).more (by omega)) (.iface ty va) (qx b0 h10 HE.o) (by omega)).mono ?_;rintro e W ⟨hv,b1⟩;have zW:=b1.size;have d0:W.cell? ⟨w.heap.size,0,none⟩=some (.slice ac P.cells.length cc):=qx b1 (by omega) (qd r0 0);have d1:W.cell? ⟨w.heap.size,1,none⟩=some (.slice at' P.threads.length ct):=qx b1 (by omega) (qd r0 1);have B1:=qh (b0.trans (b1.mono (by omega)));have HW:=qh ((H.o.below B1.o).more (B:=w.heap.size) (B':=W.heap.size) (by omega));have lw:w.heap.size < W.heap.size:=by omega
 clear b0 b1 r0 H HE;rcases hv with⟨hok,rfl⟩|⟨hno,rfl⟩
 case inr=>
  have HN:=qh hno;clear hno d0 d1;go_wp2
  go_ret2
  exact⟨.inl ⟨HN.o,rfl⟩,B1.o⟩
 case inl=>
  have HOK:=qh hok;have hn4:=hok.nums;clear hok;go_wp2_with fail;refine wp_mono (Q:=StartMid P w W ac cc at' ct) ?_ ?_
  ·
   refine qQ (W.heap.size) [1,3,0,1,0,3,0,3,0,0] (.frk [0,2,3,4] (.fin [1,5,6,7,8,9]) (.fin [5,1,6,7,8,9])) (by kernel_rfl) ?_;simp only[yn,qO,qD,sD,sE,sF,sG]
   repeat first|(refine qB fun K hK=>?_;go_simp;refine hK _ _ ?_;clear hK K)|(apply qI;(intro w2 hw2;have hk1:=hw2.cell;have hk3:=hw2.1;clear hw2;go_simp;with_reducible rfl);simp only[Act.put,sA,sB,sC])|refine qy ?_
   refine⟨?_,?_⟩
   ·
    refine qG (fun K hK=>?_);go_simp;refine(p_Clone _ _ P _ (show PgIs W.drew W.drew.heap.size _ _ P from HW.o.below (Below.refl _ W).drew) HOK.o.ok).mono ?_;rintro e X1 ⟨uc,ut,rfl,oc,ot,q1⟩;refine hK _ _ (RN.KeepsN.of_below (q1.mono (by first|omega|exact Nat.le_refl _))) ?_;clear hK K;have q1:Below W.heap.size W X1:=(Below.refl _ W).drew.trans q1;have z1:=q1.size;have oc:zg X1 W.heap.size uc P.cells:=oc;have ot:xq X1 W.heap.size ut P.threads:=ot;obtain⟨ua,uk,rfl,-⟩:=oc.form2;obtain⟨ta,tk,hut,-⟩:∃a c,ut=.slice a P.threads.length c/\True:=by
     obtain⟨ts,h1,h2,-⟩:=ot;obtain⟨a,c,e,-⟩:=h1.form2;exact⟨a,c,by rw[e,h2],trivial⟩
    subst hut;refine qG (fun K hK=>?_);refine wp_makeN (f:=Th.cells) (e:=283) (sz:=6) (B:=W.heap.size) _ _ _ rfl _ 40 Tryz.underlying208 infoTh rfl rfl (by omega) (by omega) (by first|omega|exact Nat.le_refl _) Th.zero rfl rfl (by decide) ?_;intro X2 o2 q2 z2;refine hK _ _ (RN.KeepsN.of_below (q2.mono (by first|omega|exact Nat.le_refl _))) ?_;clear hK K;have q3:=q1.trans (q2.mono z1);have O2:=qh o2;have OC:=qh (qp.below oc q2);have OT:=qh (ot.below q2);have Q3:=qh q3;have z3:=q3.size;clear q1 q2 q3 oc ot o2
    repeat (refine qB fun K hK=>?_;go_simp;refine hK _ _ ?_;clear hK K)
    refine qG (fun K hK=>?_);go_simp;refine hK _ _ (RN.KeepsN.alloc _ _ (by omega)) ?_;clear hK K
    repeat first|(refine qB fun K hK=>?_;go_simp;refine hK _ _ ?_;clear hK K)|refine qy ?_
    exact⟨X2.heap.size,X1.heap.size,_,_,rfl,rfl,qu X2 _,z3,qp.alloc OC.o _,OT.o.alloc _,O2.o.alloc _,Q3.o.alloc z3 _⟩
   ·
    refine qG (fun K hK=>?_);refine wp_makeN (f:=Th.cells) (e:=283) (sz:=6) (B:=W.heap.size) _ _ _ rfl _ 40 Tryz.underlying208 infoTh rfl rfl (by omega) (by omega) (by first|omega|exact Nat.le_refl _) Th.zero rfl rfl (by decide) ?_;intro X2 o2 q2 z2;refine hK _ _ (RN.KeepsN.of_below q2) ?_;clear hK K;have q2:Below W.heap.size W X2:=(Below.refl _ W).drew.trans q2;have z2:=q2.size;refine qG (fun K hK=>?_);go_simp;refine(p_Clone _ _ P _ ((HW.o.below q2).more z2) HOK.o.ok).mono ?_;rintro e X1 ⟨uc,ut,rfl,oc,ot,q1⟩;refine hK _ _ (RN.KeepsN.of_below (q1.mono (by first|omega|exact Nat.le_refl _))) ?_;clear hK K;have q3:=q2.trans (q1.mono z2);have O2:=qh (qp.below o2 q1);have z4:=q1.size;have oc:=qp.base oc z2;have ot:=ot.map2 z2 (fun _ h=>qp.base h z2) (fun _ h=>qp.base h z2) (fun _ _ h=>qp.base h z2);obtain⟨ua,uk,rfl,-⟩:=oc.form2;obtain⟨ta,tk,hut,-⟩:∃a c,ut=.slice a P.threads.length c/\True:=by
     obtain⟨ts,h1,h2,-⟩:=ot;obtain⟨a,c,e,-⟩:=h1.form2;exact⟨a,c,by rw[e,h2],trivial⟩
    subst hut;have OC:=qh oc;have OT:=qh ot;have Q3:=qh q3;have z3:=q3.size;clear q1 q2 q3 oc ot o2
    repeat (refine qB fun K hK=>?_;go_simp;refine hK _ _ ?_;clear hK K)
    refine qG (fun K hK=>?_);go_simp;refine hK _ _ (RN.KeepsN.alloc _ _ (by omega)) ?_;clear hK K
    repeat first|(refine qB fun K hK=>?_;go_simp;refine hK _ _ ?_;clear hK K)|refine qy ?_
    exact⟨X1.heap.size,W.heap.size,_,_,rfl,rfl,qu X1 _,z3,qp.alloc OC.o _,OT.o.alloc _,O2.o.alloc _,Q3.o.alloc z3 _⟩
  ·rintro e a' X ⟨bW,gT,uc,ut,rfl,rfl,rw',hbw,oc,ot,oth,bx⟩
   have OC:=qh oc;have OT:=qh ot;have OH:=qh oth;have RW:=qh rw';have BX:=qh bx;clear rw' oc ot oth bx d0 d1;go_wp2
   go_ret2
   refine⟨.inr ⟨HOK.o,bW,gT,uc,ut,rfl,RW.o,by omega,qp.base OC.o (by omega),OT.o.map2 (by omega) (fun _ h=>qp.base h (by omega)) (fun _ h=>qp.base h (by omega)) (fun _ _ h=>qp.base h (by omega)),qp.base OH.o (by omega),qp.nil _ _,HOK.o.ok,fun i t ht=>?_⟩,B1.o.trans (BX.o.mono (by omega))⟩;have h1:t=Th.zero:=List.eq_of_mem_replicate (List.mem_of_getElem? ht);rw[h1];exact ThOk.zero (Nat.zero_le _)
end
section
attribute [local irreducible] xF
theorem infoSt:(Tryz.prog.info? 131).map (fun i=>(i.zero,i.size,i.bytes))=some (some .nilFunc,1,8):=by kernel_rfl
theorem qT.base {w:World} {B B' bW gT:Nat} {vc vt ve:Value} {P:Pg} {S:yq} (h:qT w B bW gT vc vt ve P S) (hB:B'<=B):qT w B' bW gT vc vt ve P S:=
 ⟨h.row,Nat.le_trans hB h.hB,qp.base h.cells hB,h.thr.map2 hB (fun _ h=>qp.base h hB) (fun _ h=>qp.base h hB) (fun _ _ h=>qp.base h hB),qp.base h.ths hB,qp.base h.evs hB,h.ok,h.tok⟩
structure DrAt (w:World) (B bD bW gT gN:Nat) (vc vt ve pc pt rf:Value) (P:Pg) (S:yq) (nx:List Value):Prop where
 row:w.heap[bD]?=some (.cells #[pc,pt,.pointer (some ⟨bW,0,none⟩),.slice (some ⟨gN,0,none⟩) P.threads.length P.threads.length,rf] 129 (0,0))
 hB:B<=bD
 walk:qT w B bW gT vc vt ve P S
 pcells:zg w B pc P.cells
 pthr:xq w B pt P.threads
 next:qp yv 131 1 w B (.slice (some ⟨gN,0,none⟩) P.threads.length P.threads.length) nx
theorem DrAt.below {w w':World} {B bD bW gT gN:Nat} {vc vt ve pc pt rf:Value} {P:Pg} {S:yq} {nx:List Value} (h:DrAt w B bD bW gT gN vc vt ve pc pt rf P S nx) (hb:Below w.heap.size w w'):DrAt w' B bD bW gT gN vc vt ve pc pt rf P S nx:=
 ⟨qj h.row hb (qg h.row),h.hB,h.walk.below hb,qp.below h.pcells hb,h.pthr.below hb,qp.below h.next hb⟩
def DStartRet (P:Pg) (ev rf:Value) (w:World) (e:Ending) (w':World):Prop:=
 (¬xS P/\e=.returned (.tuple #[.pointer none,ev])\/xS P/\∃bD bW gT gN vc vt pc pt,e=.returned (.tuple #[.pointer (some ⟨bD,0,none⟩),.nilIface])/\DrAt w' w.heap.size bD bW gT gN vc vt (.slice none 0 0) pc pt rf P ⟨List.replicate P.threads.length Th.zero,[]⟩ (List.replicate P.threads.length .nilFunc))/\Below w.heap.size w w'
def DStartMid (P:Pg) (w W:World) (rf:Value) (bW:Nat) (ac:Option Addr) (cc:Nat) (at':Option Addr) (ct:Nat):Exit->Act->World->Prop:=fun e a' X=>
 ∃(bD gN:Nat) (uc ut:Value),e=.normal/\a'={tmps:=#[(.agg #[.slice ac P.cells.length cc,.slice at' P.threads.length ct]),rf,.pointer (some ⟨w.heap.size,0,none⟩),undef,.pointer (some ⟨bD,0,none⟩),.nilIface,.pointer (some ⟨bW,0,none⟩),.nilIface,.tuple #[.pointer (some ⟨bW,0,none⟩),.nilIface],(.agg #[.slice ac P.cells.length cc,.slice at' P.threads.length ct]),.tuple #[.pointer (some ⟨bW,0,none⟩),.nilIface],.pointer (some ⟨bW,0,none⟩),.nilIface,.nilIface,.bool false,undef,(.agg #[.slice ac P.cells.length cc,.slice at' P.threads.length ct]),.agg #[uc,ut],.pointer (some ⟨bW,0,none⟩),.pointer (some ⟨w.heap.size,1,none⟩),(.slice at' P.threads.length ct),.int .i64 P.threads.length,.slice (some ⟨gN,0,none⟩) P.threads.length P.threads.length,rf,.agg #[uc,ut,.pointer (some ⟨bW,0,none⟩),.slice (some ⟨gN,0,none⟩) P.threads.length P.threads.length,rf],.pointer (some ⟨bD,0,none⟩)],defers:=[]}/\X.heap[bD]?=some (.cells #[uc,ut,.pointer (some ⟨bW,0,none⟩),.slice (some ⟨gN,0,none⟩) P.threads.length P.threads.length,rf] 129 (0,0))/\W.heap.size<=bD/\
  zg X W.heap.size uc P.cells/\xq X W.heap.size ut P.threads/\qp yv 131 1 X W.heap.size (.slice (some ⟨gN,0,none⟩) P.threads.length P.threads.length) (List.replicate P.threads.length .nilFunc)/\Below W.heap.size W X
theorem p_dStart (vc vt:Value) (P:Pg) (w:World) (h:PgIs w w.heap.size vc vt P) (fn:Fn) (fi ca:Array Value) (ev:Value) (hev:w.cell? ⟨2,0,none⟩=some ev) (hne:∃t v,ev=.iface t v) (h10:2 < w.heap.size):
  Calls Tryz.prog 34 #[.agg #[vc,vt],.func fn fi ca] w (DStartRet P ev (.func fn fi ca) w):=by
 obtain⟨ac,cc,rfl,mc⟩:=h.cells.ex;obtain⟨at',ct,rfl,mt⟩:=h.thr.ex;obtain⟨ty,va,rfl⟩:=hne;have H:=qh h;have HE:=qh hev;clear h hev;go_enter Tryz.func34,Tryz.ntmps34;go_wp2_with fail;have b0:Below w.heap.size w (w.alloc (.cells #[.slice ac P.cells.length cc,.slice at' P.threads.length ct] 25)):=(Below.refl _ w).alloc (Nat.le_refl _) _;have r0:=qu w (.cells #[.slice ac P.cells.length cc,.slice at' P.threads.length ct] 25);have z0:w.heap.size+1<=(w.alloc (.cells #[.slice ac P.cells.length cc,.slice at' P.threads.length ct] 25)).heap.size:=by simp
 generalize w.alloc (.cells #[.slice ac P.cells.length cc,.slice at' P.threads.length ct] 25)=X at *;refine(p_Start _ _ P X ((H.o.below b0).more (by omega)) (.iface ty va) (qx b0 h10 HE.o) ⟨_,_,rfl⟩ (by omega)).mono ?_;rintro e W ⟨hv,b1⟩;have zW:=b1.size;have d0:W.cell? ⟨w.heap.size,0,none⟩=some (.slice ac P.cells.length cc):=qx b1 (by omega) (qd r0 0);have d1:W.cell? ⟨w.heap.size,1,none⟩=some (.slice at' P.threads.length ct):=qx b1 (by omega) (qd r0 1);have B1:=qh (b0.trans (b1.mono (by omega)));have HW:=qh ((H.o.below B1.o).more (B:=w.heap.size) (B':=W.heap.size) (by omega));have lw:w.heap.size < W.heap.size:=by omega
 clear b0 b1 r0 H HE;rcases hv with⟨hno,rfl⟩|⟨hok,bW,gT,vc,vt,rfl,hwk⟩
 case inl=>
  have HN:=qh hno;clear hno d0 d1;go_wp2
  go_ret2
  exact⟨.inl ⟨HN.o,rfl⟩,B1.o⟩
 case inr=>
  have HOK:=qh hok;have hn4:=hok.nums;have HWK:=qh hwk;clear hok hwk;go_wp2_with fail;refine wp_mono (Q:=DStartMid P w W (.func fn fi ca) bW ac cc at' ct) ?_ ?_
  ·
   refine qQ (W.heap.size) [1,3,0,0,1,0,3,0,0,3,0,0] (.frk [0,2,3,4,5,7] (.fin [1,6,8,9,10,11]) (.fin [6,1,8,9,10,11])) (by kernel_rfl) ?_;simp only[yn,qO,qD,sD,sE,sF,sG]
   repeat first|(refine qB fun K hK=>?_;go_simp;refine hK _ _ ?_;clear hK K)|(apply qI;(intro w2 hw2;have hk1:=hw2.cell;have hk3:=hw2.1;clear hw2;go_simp;with_reducible rfl);simp only[Act.put,sA,sB,sC])|refine qy ?_
   refine⟨?_,?_⟩
   ·
    refine qG (fun K hK=>?_);go_simp;refine(p_Clone _ _ P _ (show PgIs W.drew W.drew.heap.size _ _ P from HW.o.below (Below.refl _ W).drew) HOK.o.ok).mono ?_;rintro e X1 ⟨uc,ut,rfl,oc,ot,q1⟩;refine hK _ _ (RN.KeepsN.of_below (q1.mono (by first|omega|exact Nat.le_refl _))) ?_;clear hK K;have q1:Below W.heap.size W X1:=(Below.refl _ W).drew.trans q1;have z1:=q1.size;have oc:zg X1 W.heap.size uc P.cells:=oc;have ot:xq X1 W.heap.size ut P.threads:=ot;obtain⟨ua,uk,rfl,-⟩:=oc.form2;obtain⟨ta,tk,hut,-⟩:∃a c,ut=.slice a P.threads.length c/\True:=by
     obtain⟨ts,h1,h2,-⟩:=ot;obtain⟨a,c,e,-⟩:=h1.form2;exact⟨a,c,by rw[e,h2],trivial⟩
    subst hut;refine qG (fun K hK=>?_);refine wp_makeN (f:=yv) (e:=131) (sz:=1) (B:=W.heap.size) _ _ _ rfl _ 8 Tryz.underlying127 infoSt rfl rfl (by omega) (by omega) (by first|omega|exact Nat.le_refl _) (.nilFunc) rfl rfl (by decide) ?_;intro X2 o2 q2 z2;refine hK _ _ (RN.KeepsN.of_below (q2.mono (by first|omega|exact Nat.le_refl _))) ?_;clear hK K;have q3:=q1.trans (q2.mono z1);have O2:=qh o2;have OC:=qh (qp.below oc q2);have OT:=qh (ot.below q2);have Q3:=qh q3;have z3:=q3.size;clear q1 q2 q3 oc ot o2
    repeat (refine qB fun K hK=>?_;go_simp;refine hK _ _ ?_;clear hK K)
    refine qG (fun K hK=>?_);go_simp;refine hK _ _ (RN.KeepsN.alloc _ _ (by omega)) ?_;clear hK K
    repeat first|(refine qB fun K hK=>?_;go_simp;refine hK _ _ ?_;clear hK K)|refine qy ?_
    exact⟨X2.heap.size,X1.heap.size,_,_,rfl,rfl,qu X2 _,z3,qp.alloc OC.o _,OT.o.alloc _,O2.o.alloc _,Q3.o.alloc z3 _⟩
   ·
    refine qG (fun K hK=>?_);refine wp_makeN (f:=yv) (e:=131) (sz:=1) (B:=W.heap.size) _ _ _ rfl _ 8 Tryz.underlying127 infoSt rfl rfl (by omega) (by omega) (by first|omega|exact Nat.le_refl _) (.nilFunc) rfl rfl (by decide) ?_;intro X2 o2 q2 z2;refine hK _ _ (RN.KeepsN.of_below q2) ?_;clear hK K;have q2:Below W.heap.size W X2:=(Below.refl _ W).drew.trans q2;have z2:=q2.size;refine qG (fun K hK=>?_);go_simp;refine(p_Clone _ _ P _ ((HW.o.below q2).more z2) HOK.o.ok).mono ?_;rintro e X1 ⟨uc,ut,rfl,oc,ot,q1⟩;refine hK _ _ (RN.KeepsN.of_below (q1.mono (by first|omega|exact Nat.le_refl _))) ?_;clear hK K;have q3:=q2.trans (q1.mono z2);have O2:=qh (qp.below o2 q1);have z4:=q1.size;have oc:=qp.base oc z2;have ot:=ot.map2 z2 (fun _ h=>qp.base h z2) (fun _ h=>qp.base h z2) (fun _ _ h=>qp.base h z2);obtain⟨ua,uk,rfl,-⟩:=oc.form2;obtain⟨ta,tk,hut,-⟩:∃a c,ut=.slice a P.threads.length c/\True:=by
     obtain⟨ts,h1,h2,-⟩:=ot;obtain⟨a,c,e,-⟩:=h1.form2;exact⟨a,c,by rw[e,h2],trivial⟩
    subst hut;have OC:=qh oc;have OT:=qh ot;have Q3:=qh q3;have z3:=q3.size;clear q1 q2 q3 oc ot o2
    repeat (refine qB fun K hK=>?_;go_simp;refine hK _ _ ?_;clear hK K)
    refine qG (fun K hK=>?_);go_simp;refine hK _ _ (RN.KeepsN.alloc _ _ (by omega)) ?_;clear hK K
    repeat first|(refine qB fun K hK=>?_;go_simp;refine hK _ _ ?_;clear hK K)|refine qy ?_
    exact⟨X1.heap.size,W.heap.size,_,_,rfl,rfl,qu X1 _,z3,qp.alloc OC.o _,OT.o.alloc _,O2.o.alloc _,Q3.o.alloc z3 _⟩
  ·rintro e a' X ⟨bD,gN,uc,ut,rfl,rfl,rw',hbw,oc,ot,oth,bx⟩
   have OC:=qh oc;have OT:=qh ot;have OH:=qh oth;have RW:=qh rw';have BX:=qh bx;clear rw' oc ot oth bx d0 d1;go_wp2
   go_ret2
   exact⟨.inr ⟨HOK.o,bD,bW,gT,gN,vc,vt,uc,ut,rfl,RW.o,by omega,qT.base (HWK.o.below BX.o) (by omega),qp.base OC.o (by omega),OT.o.map2 (by omega) (fun _ h=>qp.base h (by omega)) (fun _ h=>qp.base h (by omega)) (fun _ _ h=>qp.base h (by omega)),qp.base OH.o (by omega)⟩,B1.o.trans (BX.o.mono (by omega))⟩
end
section
attribute [local irreducible] xF
theorem Kp.rowW {ev:Value} {w w':World} {b:Nat} {cs:Array Value} {t:TypeId} {fz:Nat×Nat} (h:Kp Mw ev w w') (hb:w.heap[b]?=some (.cells cs t fz)) (h1:t≠210) (h2:t≠283) (h3:t≠53):w'.heap[b]?=some (.cells cs t fz):=
 h.cells b cs t fz hb (fun hm=>by rcases hm with h|h;exact h1 h;exact h2 h) (fun ht=>absurd ht h3)
theorem qp.kpW {α:Type} {f:α->List Value} {e:TypeId} {sz B:Nat} {v ev:Value} {l:List α} {w w':World} (h:qp f e sz w B v l) (hk:Kp Mw ev w w') (h1:e≠210) (h2:e≠283) (h3:e≠53):qp f e sz w' B v l:=
 qp.kp h hk (fun hm=>by rcases hm with h|h;exact h1 h;exact h2 h) h3
theorem xq.kpW {B:Nat} {v ev:Value} {l:List (List (List Ac))} {w w':World} (h:xq w B v l) (hk:Kp Mw ev w w'):xq w' B v l:=
 h.kp hk (by unfold Mw;decide) (by unfold Mw;decide) (by unfold Mw;decide)
theorem DrAt.walked {w w':World} {B bD bW gT gN:Nat} {vc vt ve ve' pc pt rf:Value} {P:Pg} {S S':yq} {nx:List Value} (h:DrAt w B bD bW gT gN vc vt ve pc pt rf P S nx) (hk:Kp Mw ve w w') (hw:qT w' B bW gT vc vt ve' P S'):DrAt w' B bD bW gT gN vc vt ve' pc pt rf P S' nx:=
 ⟨hk.rowW h.row (by decide) (by decide) (by decide),h.hB,hw,qp.kpW h.pcells hk (by decide) (by decide) (by decide),h.pthr.kpW hk,qp.kpW h.next hk (by decide) (by decide) (by decide)⟩
def AnsPost (B bD bW gT gN:Nat) (vc vt ve pc pt rf:Value) (P:Pg) (S:yq) (nx:List Value) (i:Nat) (w:World) (r:Option (Th×Ev)) (x:Ending) (w':World):Prop:=
 x=.returned (.tuple #[])/\Below B w w'/\Kp Mw ve w w'/\∃ve',DrAt w' B bD bW gT gN vc vt ve' pc pt rf P (match r with|none=>S|some y=>S.put i y) nx/\∀k,ve'.ownBlock=some k->ve.ownBlock=some k\/w.heap.size<=k
section
variable {w:World} {B bD bW gT gN:Nat} {vc vt ve pc pt rf:Value} {P:Pg} {S:yq} {nx:List Value}
theorem d_answer (h:DrAt w B bD bW gT gN vc vt ve pc pt rf P S nx) (hBw:B<=w.heap.size) (i:Nat) (hi:i < P.threads.length) {t:Th} (ht:S.ths[i]?=some t) (val:Int) (abort:Bool) (hv:xK val=true) (hv2:∀a,(P.acts i t.tx)[t.act]?=some a->a.kind=3->t.adding=false->xK (val+a.val)=true) (hl:S.evs.length<=100000):
  Calls Tryz.prog 106 #[.pointer (some ⟨bD,0,none⟩),.int .i64 i,.int .i64 val,.bool abort] w (AnsPost B bD bW gT gN vc vt ve pc pt rf P S nx i w (yG P i t val abort)):=by
 have d2:w.cell? ⟨bD,2,none⟩=some (.pointer (some ⟨bW,0,none⟩)):=qd h.row 2;have lD:=qg h.row;have H:=qh h;have hA:=qh (wk_answer h.walk hBw i hi ht val abort hv hv2 hl);clear h hv2;generalize yG P i t val abort=r at hA ⊢;go_enter Tryz.func106,Tryz.ntmps106;go_wp2_with fail;refine(hA.o).mono ?_;clear hA;intro x w1 hx;cases r with
 |none=>
  obtain⟨rfl,hb⟩:=hx;have HB:=qh hb;clear hb;go_wp2;go_end0;exact⟨rfl,HB.o.mono hBw,Kp.of_below HB.o,ve,H.o.below HB.o,fun k h=>.inl h⟩
 |some y=>
  obtain⟨rfl,ve',hw,hk,hb,ho⟩:=hx;have HB:=qh hb;have HK:=qh hk;have HW:=qh hw;have HO:=qh ho;clear hb hk hw ho;go_wp2;go_end0;exact⟨rfl,HB.o,HK.o,ve',H.o.walked HK.o HW.o,HO.o⟩
end
end
section
attribute [local irreducible] xF
theorem infoO:(Tryz.prog.info? 96).map (fun i=>(i.zero,i.size,i.bytes))=some (some (.agg #[.int .i64 0,.int .i64 0]),2,16):=by kernel_rfl
theorem ob_one (e:Ob):∀u ∈ e.cells,u.oneCell'=true:=by intro u hu;simp[Ob.cells] at hu;rcases hu with rfl|rfl <;> rfl
def za (P:Pg) (S:yq):Bool:=(List.range P.threads.length).all fun i=>xW P S i
theorem xq.form {w:World} {B:Nat} {v:Value} {l:List (List (List Ac))} (h:xq w B v l):∃a c,v=.slice a l.length c:=by
 obtain⟨ts,h1,h2,-⟩:=h;obtain⟨a,c,e,-⟩:=h1.form2;exact⟨a,c,by rw[e,h2]⟩
def qZ (P:Pg):List Ob:=P.cells.map fun c=>⟨1,c⟩
def HistRet (os:List Ob) (es:List Ev) (w:World) (e:Ending) (w':World):Prop:=
 ∃ov vv,e=.returned (.agg #[ov,vv])/\qp Ob.cells 96 2 w' w.heap.size ov os/\qp Ev.cells 53 8 w' w.heap.size vv es/\Below w.heap.size w w'
section
variable {w:World} {B bD bW gT gN:Nat} {vc vt ve pc pt rf:Value} {P:Pg} {S:yq} {nx:List Value}
theorem d_done (h:DrAt w B bD bW gT gN vc vt ve pc pt rf P S nx):
  Calls Tryz.prog 37 #[.pointer (some ⟨bD,0,none⟩)] w fun e w'=>e=.returned (.bool (za P S))/\Below w.heap.size w w':=by
 obtain⟨at',ct,rfl⟩:=h.pthr.form;have d1:w.cell? ⟨bD,1,none⟩=some (.slice at' P.threads.length ct):=qd h.row 1;have d2:w.cell? ⟨bD,2,none⟩=some (.pointer (some ⟨bW,0,none⟩)):=qd h.row 2;have lD:=qg h.row;have hn4:=h.walk.ok.threads.2;have H:=qh h;clear h;go_enter Tryz.func37,Tryz.ntmps37;go_wp2_with fail;have D2:=qh d2;clear d1 d2
 go_loopw [10] (fun p wr=>∃i:Nat,i<=P.threads.length/\p=.int .i64 i/\Below w.heap.size w wr/\∀j:Nat,j < i->xW P S j=true) (fun p _=>P.threads.length - (intOf p).toNat)
 case atStart=>exact⟨0,by omega,by go_num,Below.refl _ _,fun j hj=>absurd hj (by omega)⟩
 case round=>
  obtain⟨i,hi,rfl,hbw,hd⟩:=hrel;have HBW:=qh hbw;have HD:=qh hd;clear hbw hd;by_cases hlt:i < P.threads.length
  ·have d2:=qx HBW.o lD D2.o
   have lDr:bD < wr.heap.size:=by have:=HBW.o.size;omega
   go_wp2_with fail;refine(wk_done (H.o.walk.below HBW.o) i).mono ?_;rintro e w1 ⟨rfl,rfl⟩;cases hw:xW P S i with
   |false=>
    go_wp2;go_ret;refine⟨?_,HBW.o.drew⟩;have:za P S=false:=by
     unfold za;rw[List.all_eq_false];exact⟨i,List.mem_range.2 hlt,by simp[hw]⟩
    rw[this];rfl
   |true=>
    go_wp2_with fail;go_roundw
    case rel=>
     refine⟨i+1,by omega,by go_num,HBW.o.drew,fun j hj=>?_⟩;rcases Nat.lt_or_eq_of_le (Nat.lt_succ_iff.1 hj) with h|rfl
     ·exact HD.o j h
     ·exact hw
    case measure=>simp[intOf];omega
  ·obtain rfl:i=P.threads.length:=by omega
   go_wp2;go_ret;refine⟨?_,HBW.o⟩;have:za P S=true:=by
    unfold za;rw[List.all_eq_true];exact fun j hj=>HD.o j (List.mem_range.1 hj)
   rw[this];rfl
theorem d_history (h:DrAt w B bD bW gT gN vc vt ve pc pt rf P S nx) (hl:S.evs.length<=100000):
  Calls Tryz.prog 38 #[.pointer (some ⟨bD,0,none⟩)] w (HistRet (qZ P) S.evs w):=by
 obtain⟨ac,cc,rfl,-⟩:=h.pcells.form2;have d0:w.cell? ⟨bD,0,none⟩=some (.slice ac P.cells.length cc):=qd h.row 0;have d2:w.cell? ⟨bD,2,none⟩=some (.pointer (some ⟨bW,0,none⟩)):=qd h.row 2;have lD:=qg h.row;have hn4:=h.walk.ok.cells.2;have HC:=qh (show Sl w w.heap.size 1 (.slice ac P.cells.length cc) P.cells.length (P.cells.map (.int .i64)) from by rw[←flat_int];exact h.pcells.sl);have D0:=qh d0;have H:=qh h;clear h d0;go_enter Tryz.func38,Tryz.ntmps38;go_wp2_with fail;have b0:Below w.heap.size w (w.alloc (.cells #[.slice none 0 0,.slice none 0 0] 37)):=(Below.refl _ w).alloc (Nat.le_refl _) _;have r0:=qu w (.cells #[.slice none 0 0,.slice none 0 0] 37);have z0:(w.alloc (.cells #[.slice none 0 0,.slice none 0 0] 37)).heap.size=w.heap.size+1:=by simp
 generalize w.alloc (.cells #[.slice none 0 0,.slice none 0 0] 37)=X at *;refine(wk_events (H.o.walk.below b0) hl).mono ?_;rintro e W ⟨vv,rfl,oe,b1⟩;obtain⟨ae,ce,rfl,-⟩:=oe.form2;have z1:=b1.size;have r1:=qj r0 b1 (by omega);have B1:=qh (b0.trans (b1.mono (by omega)));have OE:=qh (qp.base oe (show w.heap.size<=X.heap.size by omega));have lo:w.heap.size < W.heap.size:=by omega
 have lD1:bD < W.heap.size:=by omega
 have d0:=qx B1.o lD D0.o;have R1:=qh r1;clear b0 r0 oe d2 r1;go_wp2_with fail;have b2:Below w.heap.size w (W.alloc (.cells #[.slice none 0 0,.slice ae S.evs.length ce] 37)):=B1.o.alloc (by omega) _;have r2:=qu W (.cells #[.slice none 0 0,.slice ae S.evs.length ce] 37);have r3:=qF (o:=.cells #[.slice none 0 0,.slice ae S.evs.length ce] 37) R1.o;have o2:=OE.o.alloc (.cells #[.slice none 0 0,.slice ae S.evs.length ce] 37);have hob:(qZ P).length=P.cells.length:=by simp[qZ]
 generalize W.alloc (.cells #[.slice none 0 0,.slice ae S.evs.length ce] 37)=Y at *;have B2:=qh b2;have R2:=qh r2;have R3:=qh r3;have O2:=qh o2;clear b2 r2 r3 o2 d0
 go_loopw [18] (fun p wr=>∃(i:Nat) (ov:Value),i<=P.cells.length/\p=.int .i64 i/\Below w.heap.size w wr/\wr.heap[W.heap.size]?=some (.cells #[ov,.slice ae S.evs.length ce] 37 (0,0))/\wr.heap[w.heap.size]?=some (.cells #[.slice none 0 0,.slice none 0 0] 37 (0,0))/\qp Ob.cells 96 2 wr w.heap.size ov ((qZ P).take i)/\qp Ev.cells 53 8 wr w.heap.size (.slice ae S.evs.length ce) S.evs) (fun p _=>P.cells.length - (intOf p).toNat)
 case atStart=>exact⟨0,.slice none 0 0,by omega,by go_num,B2.o,R2.o,R3.o,qp.nil _ _,O2.o⟩
 case round=>
  obtain⟨i,ov,hi,rfl,hB,hr2,hr3,hO,hV⟩:=hrel;clear B2 R2 R3 O2;obtain⟨ao,co,rfl,-⟩:=hO.form2;have hlo:((qZ P).take i).length=i:=by rw[List.length_take];omega
  rw[hlo] at hO hr2;have e0:=qd hr2 0;have ef:=qq hr2 0;have e1:=qd hr2 1;have lh:=qg hr2;have zB:=hB.size;have HB:=qh hB;have HR2:=qh hr2;have HR3:=qh hr3;have HO:=qh hO;have HV:=qh hV;clear hB hr2 hr3 hO hV;by_cases hlt:i < P.cells.length
  ·obtain ⟨b,off,c,rfl,hb,hc,hcc⟩:=HC.o.intAt hlt
   have hcc:=qx HB.o hb hcc;have hbz:b < wr.heap.size:=by omega
   have hoc:(qZ P)[i]?=some ⟨1,c⟩:=by simp[qZ,hc]
   have HOC:=qh hoc;clear hoc hc e1;go_wp2_with (at_builtin;refine qS rfl _ _ _ rfl _ 16 Tryz.underlying34 infoO rfl HO.o ⟨1,c⟩ (by first|omega|(simp <;> omega)) (by rfl) (by rfl) (by first|rfl|simp) rfl (ob_one _) (by first|omega|(simp only[List.length_append,List.length_cons,List.length_nil,List.length_replicate];omega)) (by first|omega|(simp only[List.length_append,List.length_cons,List.length_nil,List.length_replicate];omega)) ?_;refine qW.halt ?_)
   refine qW.go ?_;intro g4 c4 w4 o4 G4;have b4:=HB.o.trans (G4.below zB fun q h=>(HO.o.lt q h).1);have q2:=qN HR2.o G4 (qp.neT HO.o HR2.o (by decide));have q3:=qN HR3.o G4 (qp.neT HO.o HR3.o (by decide));have oV:=HV.o.grwT HO.o (by decide) G4;have f6:=qq q2 0;have l6:=qg q2;have e0:=qd q2 0;have B4:=qh b4;have Q2:=qh q2;have Q3:=qh q3;have OV:=qh oV;have O4:=qh o4;clear b4 q2 q3 oV o4 G4 ef lh;go_wp2_with fail;go_roundw
   case rel=>
    refine⟨i+1,_,by omega,by go_num,B4.o.setCell (p:=⟨W.heap.size,0,none⟩) (by show w.heap.size<=W.heap.size;omega) _,qA Q2.o 0 _,qH Q3.o (by omega),?_,qp.other OV.o (qp.neT OV.o Q2.o (by decide)) _⟩;rw[take_step HOC.o];exact qp.other O4.o (qp.neT O4.o Q2.o (by decide)) _
   case measure=>simp[intOf];omega
  ·obtain rfl:i=P.cells.length:=by omega
   have y0:=qd HR3.o 0;have y1:=qd HR3.o 1;have yf:∀j,wr.frozen? ⟨w.heap.size,j,none⟩=false:=fun j=>qq HR3.o j;have l3:=qg HR3.o;go_wp2;have r4:=row2 (u1:=.slice ao P.cells.length co) (u2:=.slice ae S.evs.length ce) HR3.o;have c0:=qd r4 0;have c1:=qd r4 1;simp only[List.getElem?_toArray,List.getElem?_cons_zero,List.getElem?_cons_succ] at c0 c1;refine bodyPost_ret (v:=.agg #[.slice ao P.cells.length co,.slice ae S.evs.length ce]) (by simp[results,Tryz.results38,go_sem,c0,c1]) rfl ⟨_,_,rfl,?_,?_,?_⟩
   ·have:=qp.box2 (u1:=.slice ao P.cells.length co) (u2:=.slice ae S.evs.length ce) HO.o HR3.o (by decide)
    rwa [show (qZ P).take P.cells.length=qZ P from by rw[←hob,List.take_length]] at this
   ·exact qp.box2 HV.o HR3.o (by decide)
   ·exact (HB.o.setCell (p:=⟨w.heap.size,0,none⟩) (Nat.le_refl _) _).setCell (p:=⟨w.heap.size,1,none⟩) (Nat.le_refl _) _
end
end
abbrev DU:=DataW Unit
abbrev RdU:=Value->Option (DU×List MemPlace)
section
variable {ε:Type}
def KSrt (M:List (Int×ε)):Prop:=M.Pairwise fun x y=>x.1 < y.1
def upd (a:Int) (v:ε):List (Int×ε)->List (Int×ε)
 |[]=>[(a,v)]
 |(x,u)::r=>if x=a then(a,v)::r else if a < x then(a,v)::(x,u)::r else(x,u)::upd a v r
def yz (a:Int):List (Int×ε)->Option ε
 |[]=>none
 |(x,u)::r=>if x=a then some u else yz a r
theorem keys_upd {a:Int} {v:ε} {z:Int}:∀{M:List (Int×ε)},(∃u,(z,u) ∈ upd a v M)↔z=a\/∃u,(z,u) ∈ M
 |[]=>by simp[upd]
 |(x,u)::r=>by
  have ih:=keys_upd (a:=a) (v:=v) (z:=z) (M:=r);unfold upd
  split
  ·rename_i h
   subst h;simp only[List.mem_cons,Prod.mk.injEq];constructor
   ·rintro ⟨y,⟨h,_⟩|h⟩
    ·exact .inl h
    ·exact .inr ⟨y,.inr h⟩
   ·rintro (h|⟨y,⟨h,_⟩|h⟩)
    ·exact ⟨v,.inl ⟨h,rfl⟩⟩
    ·exact ⟨v,.inl ⟨h,rfl⟩⟩
    ·exact ⟨y,.inr h⟩
  ·split
   ·simp only[List.mem_cons,Prod.mk.injEq]
    constructor
    ·rintro ⟨y,⟨h,_⟩|h⟩
     ·exact .inl h
     ·exact .inr ⟨y,h⟩
    ·rintro (h|⟨y,h⟩)
     ·exact ⟨v,.inl ⟨h,rfl⟩⟩
     ·exact ⟨y,.inr h⟩
   ·simp only[List.mem_cons,Prod.mk.injEq]
    constructor
    ·rintro ⟨y,⟨h,h'⟩|h⟩
     ·exact .inr ⟨y,.inl ⟨h,h'⟩⟩
     ·rcases ih.1 ⟨y,h⟩ with h|⟨y',h⟩
      ·exact .inl h
      ·exact .inr ⟨y',.inr h⟩
    ·rintro (h|⟨y,⟨h,h'⟩|h⟩)
     ·obtain ⟨y,h⟩:=ih.2 (.inl h);exact⟨y,.inr h⟩
     ·exact ⟨y,.inl ⟨h,h'⟩⟩
     ·obtain ⟨y,h⟩:=ih.2 (.inr ⟨y,h⟩);exact⟨y,.inr h⟩
theorem mem_upd {a:Int} {v:ε} {p:Int×ε}:∀{M:List (Int×ε)},KSrt M->(p ∈ upd a v M↔p=(a,v)\/(p ∈ M/\p.1≠a))
 |[],_=>by simp[upd]
 |(x,u)::r,h=>by
  obtain⟨h1,h2⟩:=List.pairwise_cons.1 h;have ih:=mem_upd (a:=a) (v:=v) (p:=p) h2;unfold upd
  split
  ·rename_i hx
   subst hx;simp only[List.mem_cons];constructor
   ·rintro (h|h)
    ·exact .inl h
    ·exact .inr ⟨.inr h,by have:=h1 p h;simp only at this;omega⟩
   ·rintro (h|⟨h|h,hne⟩)
    ·exact .inl h
    ·exact absurd (by rw[h]) hne
    ·exact .inr h
  ·rename_i hx
   split
   ·rename_i hlt
    simp only[List.mem_cons];constructor
    ·rintro (h|h|h)
     ·exact .inl h
     ·exact .inr ⟨.inl h,by rw[h];exact hx⟩
     ·exact .inr ⟨.inr h,by have:=h1 p h;simp only at this;omega⟩
    ·rintro (h|⟨h,_⟩)
     ·exact .inl h
     ·exact .inr h
   ·simp only[List.mem_cons,ih]
    constructor
    ·rintro (h|h|⟨h,hne⟩)
     ·exact .inr ⟨.inl h,by rw[h];exact hx⟩
     ·exact .inl h
     ·exact .inr ⟨.inr h,hne⟩
    ·rintro (h|⟨h|h,hne⟩)
     ·exact .inr (.inl h)
     ·exact .inl h
     ·exact .inr (.inr ⟨h,hne⟩)
theorem yQ {a:Int} {v:ε}:∀{M:List (Int×ε)},KSrt M->KSrt (upd a v M)
 |[],_=>by simp[upd,KSrt]
 |(x,u)::r,h=>by
  obtain⟨h1,h2⟩:=List.pairwise_cons.1 h;unfold upd
  split
  ·rename_i hx
   subst hx;exact List.pairwise_cons.2 ⟨h1,h2⟩
  ·rename_i hx
   split
   ·rename_i hlt
    refine List.pairwise_cons.2 ⟨fun z hz=>?_,h⟩;rcases List.mem_cons.1 hz with rfl|hz
    ·exact hlt
    ·have:=h1 z hz;simp only at this ⊢;omega
   ·refine List.pairwise_cons.2 ⟨fun z hz=>?_,yQ h2⟩
    rcases(mem_upd h2).1 hz with rfl|⟨hz,_⟩
    ·simp only;omega
    ·exact h1 z hz
theorem xQ {a:Int} {u:ε}:∀{M:List (Int×ε)},KSrt M->(yz a M=some u↔(a,u) ∈ M)
 |[],_=>by simp[yz]
 |(x,y)::r,h=>by
  obtain⟨h1,h2⟩:=List.pairwise_cons.1 h;unfold yz
  split
  ·rename_i hx
   subst hx;simp only[Option.some.injEq,List.mem_cons,Prod.mk.injEq,true_and];constructor
   ·exact fun h=>.inl h.symm
   ·rintro (h|h)
    ·exact h.symm
    ·have:=h1 _ h;simp only at this;omega
  ·rename_i hx
   rw[xQ h2];simp only[List.mem_cons,Prod.mk.injEq];constructor
   ·exact .inr
   ·rintro (⟨h,_⟩|h)
    ·exact absurd h.symm hx
    ·exact h
theorem fnd_none {a:Int}:∀{M:List (Int×ε)},yz a M=none↔∀u,(a,u) ∉ M
 |[]=>by simp[yz]
 |(x,y)::r=>by
  unfold yz
  split
  ·rename_i hx
   subst hx;simp only[reduceCtorEq,false_iff];exact fun h=>h y (by simp)
  ·rename_i hx
   rw[fnd_none];constructor
   ·intro h u hm
    rcases List.mem_cons.1 hm with e|e
    ·simp only[Prod.mk.injEq] at e;exact hx e.1.symm
    ·exact h u e
   ·exact fun h u hm=>h u (by simp[hm])
theorem fnd_upd_same {a:Int} {v:ε} {M:List (Int×ε)} (h:KSrt M):yz a (upd a v M)=some v:=(xQ (yQ h)).2 ((mem_upd h).2 (.inl rfl))
theorem fnd_upd_other {a c:Int} {v:ε} {M:List (Int×ε)} (h:KSrt M) (hc:c≠a):yz c (upd a v M)=yz c M:=by
 cases e:yz c M with
 |some u=>exact(xQ (yQ h)).2 ((mem_upd h).2 (.inr ⟨(xQ h).1 e,hc⟩))
 |none=>
  rw[fnd_none] at e ⊢;intro u hm;rcases(mem_upd h).1 hm with e'|⟨hm,_⟩
  ·simp only[Prod.mk.injEq] at e';exact hc e'.1
  ·exact e u hm
end
structure KeyT (P:Program) (K:TypeId) (kv:Int->Value) (kl:Int->Lit) (dom:Int->Prop):Prop where
 keyed:Keyed P K
 of:∀x,dom x->keyOf P K (kv x)=some (kl x)
 before:∀x y,dom x->dom y->((kl x).before (kl y)=true↔x < y)
 inj:∀x y,dom x->dom y->kl x=kl y->x=y
section
variable {P:Program} {K:TypeId} {kv:Int->Value} {kl:Int->Lit} {dom:Int->Prop} {ε:Type}
theorem KeyT.key (T:KeyT P K kv kl dom) {x:Int} (hx:dom x):WideAt.IsKeyLit (kl x):=T.keyed.key (T.of x hx)
theorem KeyT.self (T:KeyT P K kv kl dom) {x:Int} (hx:dom x):(kl x).sameKey (kl x)=true:=WideAt.sameKey_self (T.key hx)
theorem KeyT.same (T:KeyT P K kv kl dom) {x y:Int} (hx:dom x) (hy:dom y):(kl x).sameKey (kl y)=(x==y):=by
 by_cases h:x=y
 ·subst h;rw[T.self hx];simp
 ·rw [sameKey_ne fun e=>h (T.inj x y hx hy e)];simp[h]
def KDom (dom:Int->Prop) (M:List (Int×ε)):Prop:=∀p ∈ M,dom p.1
def mapD (kl:Int->Lit) (ed:ε->DU) (M:List (Int×ε)):DU:=.map (M.map fun p=>(kl p.1,ed p.2))
variable {ed:ε->DU} {M:List (Int×ε)}
theorem mapD_size:Maps.size (mapD kl ed M)=M.length:=by simp[mapD,Maps.size]
theorem mapD_find (T:KeyT P K kv kl dom) {a:Int} (ha:dom a):∀{M:List (Int×ε)},KDom dom M->(M.map fun p=>(kl p.1,ed p.2)).find? (fun p=>p.1.sameKey (kl a))=(yz a M).map fun u=>(kl a,ed u)
 |[],_=>rfl
 |(x,u)::r,h=>by
  have hx:dom x:=h (x,u) (by simp);have ih:=mapD_find T ha (M:=r) fun p hp=>h p (by simp[hp]);simp only[List.map_cons,List.find?_cons,T.same hx ha,yz];by_cases e:x=a
  ·subst e;simp
  ·have:(x==a)=false:=by simpa using e
   rw[this,if_neg e];exact ih
theorem mapD_at (T:KeyT P K kv kl dom) {a:Int} (ha:dom a) (h:KDom dom M) (z:DU):(mapD kl ed M).atKey (kl a) z=match yz a M with|some u=>ed u|none=>z:=by
 unfold mapD DataW.atKey;simp only;rw[mapD_find T ha h];cases yz a M <;> rfl
theorem mapD_has (T:KeyT P K kv kl dom) {a:Int} (ha:dom a) (h:KDom dom M):Maps.has (mapD kl ed M) (kl a)=(yz a M).isSome:=by
 have h1:=mapD_find (ed:=ed) T ha h;unfold mapD Maps.has;simp only;rw[show ((M.map fun p=>(kl p.1,ed p.2)).any fun p=>p.1.sameKey (kl a))=((M.map fun p=>(kl p.1,ed p.2)).find? fun p=>p.1.sameKey (kl a)).isSome from(List.isSome_find? ..).symm,h1];cases yz a M <;> rfl
theorem mapD_put (T:KeyT P K kv kl dom) {a:Int} (ha:dom a) (v:ε) (h:KDom dom M) (hs:KSrt M):(mapD kl ed M).put (kl a) (ed v)=mapD kl ed (upd a v M):=by
 unfold mapD DataW.put;simp only[DataW.map.injEq]
 induction M with
 |nil=>rfl
 |cons q r ih=>
  obtain⟨x,u⟩:=q;have hx:dom x:=h (x,u) (by simp);have hr:KDom dom r:=fun p hp=>h p (by simp[hp]);obtain⟨h1,h2⟩:=List.pairwise_cons.1 hs;have keep:a<=x->(r.map fun p=>(kl p.1,ed p.2)).filter (fun p=>!p.1.sameKey (kl a))=r.map fun p=>(kl p.1,ed p.2):=fun hle=>by
   refine List.filter_eq_self.2 fun p hp=>?_;obtain⟨y,hy,rfl⟩:=List.mem_map.1 hp;have:=h1 y hy;simp only at this ⊢;rw[T.same (hr y hy) ha];have:(y.1==a)=false:=by rw[beq_eq_false_iff_ne];omega
   rw[this];rfl
  unfold upd;by_cases e:x=a
  ·subst e
   simp only[List.map_cons,List.filter_cons,T.self hx,Bool.not_true,Bool.false_eq_true,if_false,if_true];rw[keep (Int.le_refl _)];cases r with
   |nil=>rfl
   |cons y r=>
    have hy:dom y.1:=hr y (by simp);have hlt:(kl x).before (kl y.1)=true:=(T.before x y.1 hx hy).2 (h1 y (by simp));simp only[List.map_cons,DataW.insert,hlt,if_true]
  ·have e1:(kl x).sameKey (kl a)=false:=by rw[T.same hx ha];simpa using e
   simp only[List.map_cons,List.filter_cons,e1,Bool.not_false,if_true,if_neg e];by_cases hlt:a < x
   ·rw [keep (Int.le_of_lt hlt),if_pos hlt]
    simp only[DataW.insert,(T.before a x ha hx).2 hlt,if_true,List.map_cons]
   ·rw [if_neg hlt]
    have hb:¬(kl a).before (kl x)=true:=fun hb=>hlt ((T.before a x ha hx).1 hb);simp only[DataW.insert,if_neg hb,List.map_cons];rw[ih hr h2]
structure ElemT (R:RdU) (ev:ε->Value) (ed:ε->DU) (zv:Value) (zd:DU):Prop where
 of:∀x,∃ps,R (ev x)=some (ed x,ps)
 zero:∃ps,R zv=some (zd,ps)
 inv:∀v x ps,R v=some (ed x,ps)->v=ev x
 invz:∀v ps,R v=some (zd,ps)->v=zv
def xg (P:Program) (K:TypeId) (R:RdU) (kl:Int->Lit) (ed:ε->DU) (w:World) (b n:Nat) (M:List (Int×ε)):Prop:=w.ownsMap P K R b n (mapD kl ed M)
variable {R:RdU} {ev:ε->Value} {zv:Value} {zd:DU} {w w':World} {b n:Nat}
theorem xg.lt (h:xg P K R kl ed w b n M):b < w.heap.size:=World.ownsMap.lt h
theorem xg.below {B:Nat} (h:xg P K R kl ed w b n M) (hb:Below B w w') (hlt:b < B):xg P K R kl ed w' b n M:=by
 obtain⟨es,clock,h1,h2⟩:=h;exact⟨es,clock,(hb.block b hlt).trans h1,h2⟩
theorem xg.obj (h:xg P K R kl ed w b n M) (hw:w'.heap[b]?=w.heap[b]?):xg P K R kl ed w' b n M:=by
 obtain⟨es,clock,h1,h2⟩:=h;exact⟨es,clock,hw.trans h1,h2⟩
theorem xg.drew (h:xg P K R kl ed w b n M):xg P K R kl ed w.drew b n M:=h
theorem xg.made (w:World):xg P K R kl ed (w.alloc (.map #[] 0)) w.heap.size 0 []:=World.ownsMap_made w P K R
theorem xg.length_le (h:xg P K R kl ed w b n M):M.length<=n:=by have:=World.ownsMap.size_le h;rwa [mapD_size] at this
theorem xg.lookOk (T:KeyT P K kv kl dom) (E:ElemT R ev ed zv zd) (h:xg P K R kl ed w b n M) (hM:KDom dom M) {t e:TypeId} (ht:P.underlying t=some (.map K e)) (hz:(zeroValue e).run P w=.ok zv w) {a:Int} (ha:dom a):
  (Instr.lookup t (.map (some b)) (kv a) true).run P w=.ok (.tuple #[match yz a M with|some u=>ev u|none=>zv,.bool (yz a M).isSome]) w:=by
 obtain⟨zp,hzd⟩:=E.zero;obtain⟨v,ps,hrun,hv⟩:=World.ownsMap.look_ok h T.keyed ht hz hzd (T.of a ha);rw[mapD_at T ha hM] at hv;rw[hrun,mapD_has T ha hM];cases hf:yz a M with
 |some u=>rw[hf] at hv;rw[E.inv v u ps hv]
 |none=>rw[hf] at hv;rw[E.invz v ps hv]
theorem xg.wp_store (T:KeyT P K kv kl dom) (E:ElemT R ev ed zv zd) (h:xg P K R kl ed w b n M) (hM:KDom dom M) (hs:KSrt M) {t e:TypeId} (ht:P.underlying t=some (.map K e)) (hn:n < maxLen) {a:Int} (ha:dom a) {v:ε}
  {o:Oper} {act:Act} {Q:Exit->Act->World->Prop} {K':Act->World->Prop} {m x y:Operand} (hop:o.op=Op.mapUpdate t m x y) (hm:act.eval m=.map (some b)) (hx:act.eval x=kv a) (hy:act.eval y=ev v)
  (hK:∀w',xg P K R kl ed w' b (n+1) (upd a v M)->w.mapTurned w' b->K' (act.put o.dst undef) w'):o.wp P act w K' Q:=by
 obtain⟨ps,hv⟩:=E.of v;obtain⟨w',hrun,h1,h2⟩:=World.ownsMap.store h T.keyed ht hn (T.of a ha) hv;rw[mapD_put T ha v hM hs] at h1;unfold Oper.wp;simp only[execOp,hop,hm,hx,hy,Sem.run_bind,hrun,Result.andThen_ok,Sem.run_pure];exact hK w' h1 h2
theorem xg.wpList_store (T:KeyT P K kv kl dom) (E:ElemT R ev ed zv zd) (h:xg P K R kl ed w b n M) (hM:KDom dom M) (hs:KSrt M) {t e:TypeId} (ht:P.underlying t=some (.map K e)) (hn:n < maxLen) {a:Int} (ha:dom a) {v:ε}
  {ops:Array Oper} {rest:List Oper} {o:Oper} {act:Act} {Q:Exit->Act->World->Prop} {m x y:Operand} (hg:o.guard=none) (hop:o.op=Op.mapUpdate t m x y) (hm:act.eval m=.map (some b)) (hx:act.eval x=kv a) (hy:act.eval y=ev v)
  (hK:∀w',xg P K R kl ed w' b (n+1) (upd a v M)->w.mapTurned w' b->wpList P ops Q rest (act.put o.dst undef) w'):wpList P ops Q (o::rest) act w:=
 wpList_plain hg fun _ hK'=>h.wp_store T E hM hs ht hn ha hop hm hx hy fun w' h1 h2=>hK' _ _ (hK w' h1 h2)
def Rng (P:Program) (K:TypeId) (R:RdU) (kl:Int->Lit) (ed:ε->DU) (w:World) (b r n:Nat) (M:List (Int×ε)) (S:Int->Bool) (cnt:Nat):Prop:=
 ∃left,w.ranges P K R b r n (mapD kl ed M) left cnt/\∀p ∈ M,left (kl p.1)=S p.1
theorem Rng.left_eq {r cnt:Nat} {S:Int->Bool} (h:Rng P K R kl ed w b r n M S cnt):w.rangeLeft b r=cnt:=let ⟨_,h,_⟩:=h;h.left_eq
theorem Rng.owns {r cnt:Nat} {S:Int->Bool} (h:Rng P K R kl ed w b r n M S cnt):xg P K R kl ed w b n M:=let ⟨_,h,_⟩:=h;h.owns
theorem Rng.obj {r cnt:Nat} {S:Int->Bool} (h:Rng P K R kl ed w b r n M S cnt) (h1:w'.heap[b]?=w.heap[b]?) (h2:w'.heap[r]?=w.heap[r]?):Rng P K R kl ed w' b r n M S cnt:=by
 obtain⟨left,⟨es,clock,since,seen,c0,hb,F,hs,hD,hr,rest⟩,hl⟩:=h;exact⟨left,⟨es,clock,since,seen,c0,h1.trans hb,F,hs,hD,h2.trans hr,rest⟩,hl⟩
theorem Rng.iter {r cnt:Nat} {S:Int->Bool} (h:Rng P K R kl ed w b r n M S cnt):∃since seen c0,w.heap[r]?=some (.mapIter (some b) since seen c0):=by
 obtain⟨left,⟨es,clock,since,seen,c0,hb,F,hs,hD,hr,rest⟩,hl⟩:=h;exact⟨since,seen,c0,hr⟩
theorem Rng.key {r cnt:Nat} {l:Lit} {left:Lit->Bool} (hr:w.ranges P K R b r n (mapD kl ed M) left cnt) (hl:left l=true):∃p ∈ M,kl p.1=l:=by
 obtain⟨es,clock,since,seen,c0,hb,F,hs,hD,hr,h1,h2,h3,h4,h5⟩:=hr;obtain⟨x,hx,rfl⟩:=h4 l hl;have hm:WideElems.rg P K R x ∈ (es.toList.map (WideElems.rg P K R)).foldr DataW.insert []:=mem_sorted.2 (List.mem_map.2 ⟨x,hx,rfl⟩);have e:M.map (fun p=>(kl p.1,ed p.2))=(es.toList.map (WideElems.rg P K R)).foldr DataW.insert []:=by
  have:=hD;unfold mapD at this;simpa using this
 rw[←e] at hm;obtain⟨p,hp,hq⟩:=List.mem_map.1 hm;exact⟨p,hp,by rw[←hq]⟩
theorem xg.wpList_range (T:KeyT P K kv kl dom) (h:xg P K R kl ed w b n M) (hM:KDom dom M) (hs:KSrt M) {t e:TypeId} (ht:P.underlying t=some (.map K e))
  {ops:Array Oper} {rest:List Oper} {o:Oper} {act:Act} {Q:Exit->Act->World->Prop} {m:Operand} (hg:o.guard=none) (hop:o.op=Op.range t m) (hm:act.eval m=.map (some b))
  (hK:∀w',Rng P K R kl ed w' b w.heap.size n M (fun _=>true) M.length->w.grownBy w' none->w'.heap.size=w.heap.size+1->wpList P ops Q rest (act.put o.dst (.pointer (some ⟨w.heap.size,0,none⟩))) w'):wpList P ops Q (o::rest) act w:=
 wpList_range_own w hg m t hop K e T.keyed ht R b n _ hm h fun w' h1 h2 h3=>hK w' ⟨_,by rw[mapD_size] at h1;exact h1,fun p hp=>by
  rw[mapD_has T (hM p hp) hM,(xQ hs).2 (show(p.1,p.2) ∈ M from hp)];rfl⟩ h2 h3
theorem Rng.wpList_next (T:KeyT P K kv kl dom) (E:ElemT R ev ed zv zd) {r cnt:Nat} {S:Int->Bool} (h:Rng P K R kl ed w b r n M S cnt) (hM:KDom dom M) (hs:KSrt M)
  {ops:Array Oper} {rest:List Oper} {o:Oper} {act:Act} {Q:Exit->Act->World->Prop} {it:Operand} (hg:o.guard=none) (hop:o.op=Op.next it false) (hit:act.eval it=.pointer (some ⟨r,0,none⟩))
  (hDone:(∀p ∈ M,S p.1=false)->wpList P ops Q rest (act.put o.dst (.tuple #[.bool false])) w)
  (hMore:∀(x:Int) (u:ε) (w':World) (cnt':Nat),(x,u) ∈ M->S x=true->Rng P K R kl ed w' b r n M (fun z=>S z&&!(z==x)) cnt'->cnt' < cnt->w.grownBy w' (some r)->w'.heap.size=w.heap.size->
   (Instr.entry (.pointer (some ⟨r,0,none⟩))).run P w'=.ok (.tuple #[kv x,ev u]) w'->wpList P ops Q rest (act.put o.dst (.tuple #[.bool true,kv x,ev u])) w'):wpList P ops Q (o::rest) act w:=by
 refine wpList_plain hg fun K' hK'=>?_;obtain⟨left,hr,hl⟩:=h;unfold Oper.wp;rcases hr.next T.keyed o.type with⟨h1,h2,hrun⟩|⟨key,v,l,y,w',cnt',hkey,hlk,hv,hat,hrun,hrg,hlt,hgr,hsz,hen⟩
 ·simp only[execOp,hop,hit,Sem.run_bind,hrun,Result.andThen_ok]
  exact hK' _ _ (hDone fun p hp=>by rw[←hl p hp];exact h2 _)
 ·obtain ⟨⟨x,u⟩,hp,rfl⟩:=Rng.key hr hlk
  obtain rfl:key=kv x:=T.keyed.inj hkey (T.of x (hM _ hp));have hv2:v=ev u:=by
   have:=hat zd;rw[mapD_at T (hM _ hp) hM,(xQ hs).2 hp] at this;obtain⟨yd,ps⟩:=y;simp only at this;rw[←this] at hv;exact E.inv v u ps hv
  subst hv2;simp only[execOp,hop,hit,Sem.run_bind,hrun,Result.andThen_ok];refine hK' _ _ (hMore x u w' cnt' hp (by rw[←hl _ hp];exact hlk) ⟨_,hrg,fun p hp'=>?_⟩ hlt hgr hsz hen);rw[hl p hp',T.same (hM p hp') (hM _ hp)]
end
def Rbool:RdU
 |.bool x=>some (.lit (.bool x),[])
 |_=>none
def Rint:RdU
 |.int .i64 n=>some (.lit (.int .i64 n),[])
 |_=>none
theorem elem_bool:ElemT Rbool (fun _:Unit=>.bool true) (fun _=>.lit (.bool true)) (.bool false) (.lit (.bool false)) where
 of _:=⟨[],rfl⟩
 zero:=⟨[],rfl⟩
 inv v _ ps h:=by cases v <;> simp_all [Rbool]
 invz v ps h:=by cases v <;> simp_all [Rbool]
theorem elem_int:ElemT Rint (fun n:Int=>.int .i64 n) (fun n=>.lit (.int .i64 n)) (.int .i64 0) (.lit (.int .i64 0)) where
 of _:=⟨[],rfl⟩
 zero:=⟨[],rfl⟩
 inv v x ps h:=by
  unfold Rint at h
  split at h <;> simp_all
 invz v ps h:=by
  unfold Rint at h
  split at h <;> simp_all
def dI (x:Int):Prop:=(Lit.int .i64 x).wf=true
theorem keyT_int {P:Program} {K:TypeId} (hk:P.underlying K=some (.int .i64)):KeyT P K (.int .i64) (.int .i64) dI where
 keyed:=int_keyed hk
 of x hx:=keyOf_int_mk hk hx
 before x y _ _:=by simp[Lit.before]
 inj x y _ _ h:=by simpa using h
