/- Parts of the proof; the first: The walk through a program begun. Conditions: those of each theorem, as typed. -/
import Derived.Test.YtkfhgifhfkcehaaGreatDoorQC03
import Derived.Test.YtkfhgifhfkcehaaGreatDoorQC09
import Derived.Maps.OwnSet
import Derived.Maps.RangeWalk
set_option linter.unusedVariables false
set_option linter.unusedSimpArgs false
set_option linter.unusedSectionVars false
set_option maxRecDepth 100000
set_option maxHeartbeats 4000000
namespace Go.Proofs.YtkfhgifhfkcehaaGreatDoor
open Go.Maps Go.RowKit
section
attribute [local irreducible] xL
theorem made_flat {α:Type} (f:α->List Value) (sz n:Nat) (x:α) (zc:Array Value) (hz:zc.size=sz) (h0:0 < sz) (hf:f x=zc.toList):(madeCells zc (n*sz)).toList=(List.replicate n x).flatMap f:=by
 have hlen:((List.replicate n x).flatMap f).length=n*sz:=by
  induction n with
  |zero=>simp
  |succ n ih=>rw[List.replicate_succ,List.flatMap_cons,List.length_append,ih,hf];simp[hz,Nat.add_mul];omega
 have hml:(madeCells zc (n*sz)).toList.length=n*sz:=by rw[Array.length_toList,size_madeCells]
 apply List.ext_getElem?;intro i;by_cases hi:i < n*sz
 ·have hd:i / sz < n:=Nat.div_lt_of_lt_mul (by rw[Nat.mul_comm];exact hi)
  have hm:i % sz < sz:=Nat.mod_lt _ h0;have he:i=i / sz*sz+i % sz:=by rw[Nat.mul_comm];exact(Nat.div_add_mod i sz).symm
  have key:∀(n k j:Nat),k < n->j < sz->((List.replicate n x).flatMap f)[k*sz+j]?=(f x)[j]?:=by
   intro n
   induction n with
   |zero=>intro k j hk;omega
   |succ n ih=>
    intro k j hk hj;rw[List.replicate_succ,List.flatMap_cons];have hfl:(f x).length=sz:=by rw[hf];simpa using hz
    cases k with
    |zero=>rw[Nat.zero_mul,Nat.zero_add,List.getElem?_append_left (by omega)]
    |succ k=>
     rw[List.getElem?_append_right (by rw[hfl,Nat.add_mul];omega),hfl,show(k+1)*sz+j - sz=k*sz+j by rw[Nat.add_mul];omega];exact ih k j (by omega) hj
  rw[he,key n _ _ hd hm,←he,hf];simp only[madeCells,Array.getElem?_toList];rw[Array.getElem?_map];simp[hi,hz,hm]
 ·rw [List.getElem?_eq_none (by omega),List.getElem?_eq_none (by omega)]
section
variable {α:Type} {f:α->List Value} {e:TypeId} {sz B:Nat} {P:Program} {o:Oper} {a:Act} {K:Act->World->Prop} {Q:Exit->Act->World->Prop}
theorem wp_makeN (s c:Operand) (t:TypeId) (ho:o.op=.makeSlice t s c) (z:Value) (bytes:Nat) (ht:P.underlying t=some (.slice e)) (hinfo:(P.info? e).map (fun i=>(i.zero,i.size,i.bytes))=some (some z,sz,bytes))
  {w:World} {n:Nat} (hs:a.eval s=.int .i64 n) (hc:a.eval c=.int .i64 n) (hn:n<=9223372036854775807) (hby:bytes*n<=140737488355328) (hB:B<=w.heap.size) (x:α) (hx:f x=z.cells.toList) (hz:z.cells.size=sz) (h0:0 < sz)
  (hK:∀w',qq f e sz w' B (.slice (some ⟨w.heap.size,0,none⟩) n n) (List.replicate n x)->Below w.heap.size w w'->w.heap.size+1<=w'.heap.size->K (a.put o.dst (.slice (some ⟨w.heap.size,0,none⟩) n n)) w'):
  o.wp P a w K Q:=by
 obtain⟨i0,hi,hz0,hz1,hz2⟩:=info_parts hinfo;obtain⟨w',hr,h1,h2⟩:=run_make_full (P:=P) w B t e i0 z sz ht hi hz0 hz1 .i64 .i64 n (by rw[hz2];omega) (by unfold maxLen;omega) hB;rw[made_flat f sz n x _ hz h0 hx] at h1;unfold Oper.wp execOp;simp[ho,hs,hc,hr,Result.andThen];refine hK w' (by unfold qq;rw[List.length_replicate];exact h1) ((Below.refl w.heap.size w).grown h2 (Nat.le_refl _) (fun _ h=>by cases h)) ?_;obtain⟨-,h3⟩:=h1;rcases h3 with⟨h3,-⟩|⟨g,cap,cur,hv,-,hh,-⟩
 ·cases h3
 ·simp only[Value.slice.injEq,Option.some.injEq,Addr.mk.injEq,and_true] at hv
  obtain⟨rfl,-⟩:=hv;exact qh hh
end
theorem infoTh:(Tryz.prog.info? 283).map (fun i=>(i.zero,i.size,i.bytes))=some (some (.agg #[.int .i64 0,.int .i64 0,.bool false,.bool false,.int .i64 0,.int .i64 0]),6,40):=by kernel_rfl
def StartRet (P:Pg) (ev:Value) (w:World) (e:Ending) (w':World):Prop:=
 (¬xV P/\e=.returned (.tuple #[.pointer none,ev])\/xV P/\∃bW gT vc vt,e=.returned (.tuple #[.pointer (some ⟨bW,0,none⟩),.nilIface])/\qW w' w.heap.size bW gT vc vt (.slice none 0 0) P ⟨List.replicate P.threads.length Th.zero,[]⟩)/\Below w.heap.size w w'
def StartMid (P:Pg) (w W:World) (ac:Option Addr) (cc:Nat) (at':Option Addr) (ct:Nat):Exit->Act->World->Prop:=fun e a' X=>
 ∃(bW gT:Nat) (uc ut:Value),e=.normal/\a'={tmps:=#[(.agg #[.slice ac P.cells.length cc,.slice at' P.threads.length ct]),.pointer (some ⟨w.heap.size,0,none⟩),.pointer (some ⟨bW,0,none⟩),.nilIface,.nilIface,(.agg #[.slice ac P.cells.length cc,.slice at' P.threads.length ct]),.nilIface,.nilIface,.bool false,undef,(.agg #[.slice ac P.cells.length cc,.slice at' P.threads.length ct]),.agg #[uc,ut],.pointer (some ⟨w.heap.size,1,none⟩),(.slice at' P.threads.length ct),.int .i64 P.threads.length,.slice (some ⟨gT,0,none⟩) P.threads.length P.threads.length,.agg #[uc,ut,.slice (some ⟨gT,0,none⟩) P.threads.length P.threads.length,.slice none 0 0],.pointer (some ⟨bW,0,none⟩)],defers:=[]}/\X.heap[bW]?=some (.cells #[uc,ut,.slice (some ⟨gT,0,none⟩) P.threads.length P.threads.length,.slice none 0 0] 210 (0,0))/\W.heap.size<=bW/\
  yY X W.heap.size uc P.cells/\xu X W.heap.size ut P.threads/\qq Th.cells 283 6 X W.heap.size (.slice (some ⟨gT,0,none⟩) P.threads.length P.threads.length) (List.replicate P.threads.length Th.zero)/\Below W.heap.size W X
theorem p_Start (vc vt:Value) (P:Pg) (w:World) (h:PgIs w w.heap.size vc vt P) (ev:Value) (hev:w.cell? ⟨2,0,none⟩=some ev) (hne:∃t v,ev=.iface t v) (h10:2 < w.heap.size):
  Calls Tryz.prog 58 #[.agg #[vc,vt]] w (StartRet P ev w):=by
 obtain⟨ac,cc,rfl,mc⟩:=h.cells.ex;obtain⟨at',ct,rfl,mt⟩:=h.thr.ex;obtain⟨ty,va,rfl⟩:=hne;have H:=qj h;have HE:=qj hev;clear h hev;go_enter Tryz.func58,Tryz.ntmps58;go_wp2_with fail;have b0:Below w.heap.size w (w.alloc (.cells #[.slice ac P.cells.length cc,.slice at' P.threads.length ct] 25)):=(Below.refl _ w).alloc (Nat.le_refl _) _;have r0:=qy w (.cells #[.slice ac P.cells.length cc,.slice at' P.threads.length ct] 25);have z0:w.heap.size+1<=(w.alloc (.cells #[.slice ac P.cells.length cc,.slice at' P.threads.length ct] 25)).heap.size:=by simp
 generalize w.alloc (.cells #[.slice ac P.cells.length cc,.slice at' P.threads.length ct] 25)=X at *;refine(p_Valid _ _ P X ((H.o.below b0).more (by omega)) (.iface ty va) (qu b0 h10 HE.o) (by omega)).mono ?_;rintro e W ⟨hv,b1⟩;have zW:=b1.size;have d0:W.cell? ⟨w.heap.size,0,none⟩=some (.slice ac P.cells.length cc):=qu b1 (by omega) (qg r0 0);have d1:W.cell? ⟨w.heap.size,1,none⟩=some (.slice at' P.threads.length ct):=qu b1 (by omega) (qg r0 1);have B1:=qj (b0.trans (b1.mono (by omega)));have HW:=qj ((H.o.below B1.o).more (B:=w.heap.size) (B':=W.heap.size) (by omega));have lw:w.heap.size < W.heap.size:=by omega
 clear b0 b1 r0 H HE;rcases hv with⟨hok,rfl⟩|⟨hno,rfl⟩
 case inr=>
  have HN:=qj hno;clear hno d0 d1;go_wp2
  go_ret2
  exact⟨.inl ⟨HN.o,rfl⟩,B1.o⟩
 case inl=>
  have HOK:=qj hok;have hn4:=hok.nums;clear hok;go_wp2_with fail;refine wp_mono (Q:=StartMid P w W ac cc at' ct) ?_ ?_
  ·
   refine qT (W.heap.size) [1,3,0,1,0,3,0,3,0,0] (.frk [0,2,3,4] (.fin [1,5,6,7,8,9]) (.fin [5,1,6,7,8,9])) (by kernel_rfl) ?_;simp only[yp,qP,qD,sD,sE,sF,sG]
   repeat first|(refine qC fun K hK=>?_;go_simp;refine hK _ _ ?_;clear hK K)|(apply qJ;(intro w2 hw2;have hk1:=hw2.cell;have hk3:=hw2.1;clear hw2;go_simp;with_reducible rfl);simp only[Act.put,sA,sB,sC])|refine qA ?_
   refine⟨?_,?_⟩
   ·
    refine qI (fun K hK=>?_);go_simp;refine(p_Clone _ _ P _ (show PgIs W.drew W.drew.heap.size _ _ P from HW.o.below (Below.refl _ W).drew) HOK.o.ok).mono ?_;rintro e X1 ⟨uc,ut,rfl,oc,ot,q1⟩;refine hK _ _ (RN.KeepsN.of_below (q1.mono (by first|omega|exact Nat.le_refl _))) ?_;clear hK K;have q1:Below W.heap.size W X1:=(Below.refl _ W).drew.trans q1;have z1:=q1.size;have oc:yY X1 W.heap.size uc P.cells:=oc;have ot:xu X1 W.heap.size ut P.threads:=ot;obtain⟨ua,uk,rfl,-⟩:=oc.form2;obtain⟨ta,tk,hut,-⟩:∃a c,ut=.slice a P.threads.length c/\True:=by
     obtain⟨ts,h1,h2,-⟩:=ot;obtain⟨a,c,e,-⟩:=h1.form2;exact⟨a,c,by rw[e,h2],trivial⟩
    subst hut;refine qI (fun K hK=>?_);refine wp_makeN (f:=Th.cells) (e:=283) (sz:=6) (B:=W.heap.size) _ _ _ rfl _ 40 Tryz.underlying208 infoTh rfl rfl (by omega) (by omega) (by first|omega|exact Nat.le_refl _) Th.zero rfl rfl (by decide) ?_;intro X2 o2 q2 z2;refine hK _ _ (RN.KeepsN.of_below (q2.mono (by first|omega|exact Nat.le_refl _))) ?_;clear hK K;have q3:=q1.trans (q2.mono z1);have O2:=qj o2;have OC:=qj (qq.below oc q2);have OT:=qj (ot.below q2);have Q3:=qj q3;have z3:=q3.size;clear q1 q2 q3 oc ot o2
    repeat (refine qC fun K hK=>?_;go_simp;refine hK _ _ ?_;clear hK K)
    refine qI (fun K hK=>?_);go_simp;refine hK _ _ (RN.KeepsN.alloc _ _ (by omega)) ?_;clear hK K
    repeat first|(refine qC fun K hK=>?_;go_simp;refine hK _ _ ?_;clear hK K)|refine qA ?_
    exact⟨X2.heap.size,X1.heap.size,_,_,rfl,rfl,qy X2 _,z3,qq.alloc OC.o _,OT.o.alloc _,O2.o.alloc _,Q3.o.alloc z3 _⟩
   ·
    refine qI (fun K hK=>?_);refine wp_makeN (f:=Th.cells) (e:=283) (sz:=6) (B:=W.heap.size) _ _ _ rfl _ 40 Tryz.underlying208 infoTh rfl rfl (by omega) (by omega) (by first|omega|exact Nat.le_refl _) Th.zero rfl rfl (by decide) ?_;intro X2 o2 q2 z2;refine hK _ _ (RN.KeepsN.of_below q2) ?_;clear hK K;have q2:Below W.heap.size W X2:=(Below.refl _ W).drew.trans q2;have z2:=q2.size;refine qI (fun K hK=>?_);go_simp;refine(p_Clone _ _ P _ ((HW.o.below q2).more z2) HOK.o.ok).mono ?_;rintro e X1 ⟨uc,ut,rfl,oc,ot,q1⟩;refine hK _ _ (RN.KeepsN.of_below (q1.mono (by first|omega|exact Nat.le_refl _))) ?_;clear hK K;have q3:=q2.trans (q1.mono z2);have O2:=qj (qq.below o2 q1);have z4:=q1.size;have oc:=qq.base oc z2;have ot:=ot.map2 z2 (fun _ h=>qq.base h z2) (fun _ h=>qq.base h z2) (fun _ _ h=>qq.base h z2);obtain⟨ua,uk,rfl,-⟩:=oc.form2;obtain⟨ta,tk,hut,-⟩:∃a c,ut=.slice a P.threads.length c/\True:=by
     obtain⟨ts,h1,h2,-⟩:=ot;obtain⟨a,c,e,-⟩:=h1.form2;exact⟨a,c,by rw[e,h2],trivial⟩
    subst hut;have OC:=qj oc;have OT:=qj ot;have Q3:=qj q3;have z3:=q3.size;clear q1 q2 q3 oc ot o2
    repeat (refine qC fun K hK=>?_;go_simp;refine hK _ _ ?_;clear hK K)
    refine qI (fun K hK=>?_);go_simp;refine hK _ _ (RN.KeepsN.alloc _ _ (by omega)) ?_;clear hK K
    repeat first|(refine qC fun K hK=>?_;go_simp;refine hK _ _ ?_;clear hK K)|refine qA ?_
    exact⟨X1.heap.size,W.heap.size,_,_,rfl,rfl,qy X1 _,z3,qq.alloc OC.o _,OT.o.alloc _,O2.o.alloc _,Q3.o.alloc z3 _⟩
  ·rintro e a' X ⟨bW,gT,uc,ut,rfl,rfl,rw',hbw,oc,ot,oth,bx⟩
   have OC:=qj oc;have OT:=qj ot;have OH:=qj oth;have RW:=qj rw';have BX:=qj bx;clear rw' oc ot oth bx d0 d1;go_wp2
   go_ret2
   refine⟨.inr ⟨HOK.o,bW,gT,uc,ut,rfl,RW.o,by omega,qq.base OC.o (by omega),OT.o.map2 (by omega) (fun _ h=>qq.base h (by omega)) (fun _ h=>qq.base h (by omega)) (fun _ _ h=>qq.base h (by omega)),qq.base OH.o (by omega),qq.nil _ _,HOK.o.ok,fun i t ht=>?_⟩,B1.o.trans (BX.o.mono (by omega))⟩;have h1:t=Th.zero:=List.eq_of_mem_replicate (List.mem_of_getElem? ht);rw[h1];exact ThOk.zero (Nat.zero_le _)
end
section
attribute [local irreducible] xL
theorem infoSt:(Tryz.prog.info? 131).map (fun i=>(i.zero,i.size,i.bytes))=some (some .nilFunc,1,8):=by kernel_rfl
theorem qW.base {w:World} {B B' bW gT:Nat} {vc vt ve:Value} {P:Pg} {S:yk} (h:qW w B bW gT vc vt ve P S) (hB:B'<=B):qW w B' bW gT vc vt ve P S:=
 ⟨h.row,Nat.le_trans hB h.hB,qq.base h.cells hB,h.thr.map2 hB (fun _ h=>qq.base h hB) (fun _ h=>qq.base h hB) (fun _ _ h=>qq.base h hB),qq.base h.ths hB,qq.base h.evs hB,h.ok,h.tok⟩
structure DrAt (w:World) (B bD bW gT gN:Nat) (vc vt ve pc pt rf:Value) (P:Pg) (S:yk) (nx:List Value):Prop where
 row:w.heap[bD]?=some (.cells #[pc,pt,.pointer (some ⟨bW,0,none⟩),.slice (some ⟨gN,0,none⟩) P.threads.length P.threads.length,rf] 129 (0,0))
 hB:B<=bD
 walk:qW w B bW gT vc vt ve P S
 pcells:yY w B pc P.cells
 pthr:xu w B pt P.threads
 next:qq yz 131 1 w B (.slice (some ⟨gN,0,none⟩) P.threads.length P.threads.length) nx
theorem DrAt.below {w w':World} {B bD bW gT gN:Nat} {vc vt ve pc pt rf:Value} {P:Pg} {S:yk} {nx:List Value} (h:DrAt w B bD bW gT gN vc vt ve pc pt rf P S nx) (hb:Below w.heap.size w w'):DrAt w' B bD bW gT gN vc vt ve pc pt rf P S nx:=
 ⟨qp h.row hb (qh h.row),h.hB,h.walk.below hb,qq.below h.pcells hb,h.pthr.below hb,qq.below h.next hb⟩
def DStartRet (P:Pg) (ev rf:Value) (w:World) (e:Ending) (w':World):Prop:=
 (¬xV P/\e=.returned (.tuple #[.pointer none,ev])\/xV P/\∃bD bW gT gN vc vt pc pt,e=.returned (.tuple #[.pointer (some ⟨bD,0,none⟩),.nilIface])/\DrAt w' w.heap.size bD bW gT gN vc vt (.slice none 0 0) pc pt rf P ⟨List.replicate P.threads.length Th.zero,[]⟩ (List.replicate P.threads.length .nilFunc))/\Below w.heap.size w w'
def DStartMid (P:Pg) (w W:World) (rf:Value) (bW:Nat) (ac:Option Addr) (cc:Nat) (at':Option Addr) (ct:Nat):Exit->Act->World->Prop:=fun e a' X=>
 ∃(bD gN:Nat) (uc ut:Value),e=.normal/\a'={tmps:=#[(.agg #[.slice ac P.cells.length cc,.slice at' P.threads.length ct]),rf,.pointer (some ⟨w.heap.size,0,none⟩),undef,.pointer (some ⟨bD,0,none⟩),.nilIface,.pointer (some ⟨bW,0,none⟩),.nilIface,.tuple #[.pointer (some ⟨bW,0,none⟩),.nilIface],(.agg #[.slice ac P.cells.length cc,.slice at' P.threads.length ct]),.tuple #[.pointer (some ⟨bW,0,none⟩),.nilIface],.pointer (some ⟨bW,0,none⟩),.nilIface,.nilIface,.bool false,undef,(.agg #[.slice ac P.cells.length cc,.slice at' P.threads.length ct]),.agg #[uc,ut],.pointer (some ⟨bW,0,none⟩),.pointer (some ⟨w.heap.size,1,none⟩),(.slice at' P.threads.length ct),.int .i64 P.threads.length,.slice (some ⟨gN,0,none⟩) P.threads.length P.threads.length,rf,.agg #[uc,ut,.pointer (some ⟨bW,0,none⟩),.slice (some ⟨gN,0,none⟩) P.threads.length P.threads.length,rf],.pointer (some ⟨bD,0,none⟩)],defers:=[]}/\X.heap[bD]?=some (.cells #[uc,ut,.pointer (some ⟨bW,0,none⟩),.slice (some ⟨gN,0,none⟩) P.threads.length P.threads.length,rf] 129 (0,0))/\W.heap.size<=bD/\
  yY X W.heap.size uc P.cells/\xu X W.heap.size ut P.threads/\qq yz 131 1 X W.heap.size (.slice (some ⟨gN,0,none⟩) P.threads.length P.threads.length) (List.replicate P.threads.length .nilFunc)/\Below W.heap.size W X
theorem p_dStart (vc vt:Value) (P:Pg) (w:World) (h:PgIs w w.heap.size vc vt P) (fn:Fn) (fi ca:Array Value) (ev:Value) (hev:w.cell? ⟨2,0,none⟩=some ev) (hne:∃t v,ev=.iface t v) (h10:2 < w.heap.size):
  Calls Tryz.prog 34 #[.agg #[vc,vt],.func fn fi ca] w (DStartRet P ev (.func fn fi ca) w):=by
 obtain⟨ac,cc,rfl,mc⟩:=h.cells.ex;obtain⟨at',ct,rfl,mt⟩:=h.thr.ex;obtain⟨ty,va,rfl⟩:=hne;have H:=qj h;have HE:=qj hev;clear h hev;go_enter Tryz.func34,Tryz.ntmps34;go_wp2_with fail;have b0:Below w.heap.size w (w.alloc (.cells #[.slice ac P.cells.length cc,.slice at' P.threads.length ct] 25)):=(Below.refl _ w).alloc (Nat.le_refl _) _;have r0:=qy w (.cells #[.slice ac P.cells.length cc,.slice at' P.threads.length ct] 25);have z0:w.heap.size+1<=(w.alloc (.cells #[.slice ac P.cells.length cc,.slice at' P.threads.length ct] 25)).heap.size:=by simp
 generalize w.alloc (.cells #[.slice ac P.cells.length cc,.slice at' P.threads.length ct] 25)=X at *;refine(p_Start _ _ P X ((H.o.below b0).more (by omega)) (.iface ty va) (qu b0 h10 HE.o) ⟨_,_,rfl⟩ (by omega)).mono ?_;rintro e W ⟨hv,b1⟩;have zW:=b1.size;have d0:W.cell? ⟨w.heap.size,0,none⟩=some (.slice ac P.cells.length cc):=qu b1 (by omega) (qg r0 0);have d1:W.cell? ⟨w.heap.size,1,none⟩=some (.slice at' P.threads.length ct):=qu b1 (by omega) (qg r0 1);have B1:=qj (b0.trans (b1.mono (by omega)));have HW:=qj ((H.o.below B1.o).more (B:=w.heap.size) (B':=W.heap.size) (by omega));have lw:w.heap.size < W.heap.size:=by omega
 clear b0 b1 r0 H HE;rcases hv with⟨hno,rfl⟩|⟨hok,bW,gT,vc,vt,rfl,hwk⟩
 case inl=>
  have HN:=qj hno;clear hno d0 d1;go_wp2
  go_ret2
  exact⟨.inl ⟨HN.o,rfl⟩,B1.o⟩
 case inr=>
  have HOK:=qj hok;have hn4:=hok.nums;have HWK:=qj hwk;clear hok hwk;go_wp2_with fail;refine wp_mono (Q:=DStartMid P w W (.func fn fi ca) bW ac cc at' ct) ?_ ?_
  ·
   refine qT (W.heap.size) [1,3,0,0,1,0,3,0,0,3,0,0] (.frk [0,2,3,4,5,7] (.fin [1,6,8,9,10,11]) (.fin [6,1,8,9,10,11])) (by kernel_rfl) ?_;simp only[yp,qP,qD,sD,sE,sF,sG]
   repeat first|(refine qC fun K hK=>?_;go_simp;refine hK _ _ ?_;clear hK K)|(apply qJ;(intro w2 hw2;have hk1:=hw2.cell;have hk3:=hw2.1;clear hw2;go_simp;with_reducible rfl);simp only[Act.put,sA,sB,sC])|refine qA ?_
   refine⟨?_,?_⟩
   ·
    refine qI (fun K hK=>?_);go_simp;refine(p_Clone _ _ P _ (show PgIs W.drew W.drew.heap.size _ _ P from HW.o.below (Below.refl _ W).drew) HOK.o.ok).mono ?_;rintro e X1 ⟨uc,ut,rfl,oc,ot,q1⟩;refine hK _ _ (RN.KeepsN.of_below (q1.mono (by first|omega|exact Nat.le_refl _))) ?_;clear hK K;have q1:Below W.heap.size W X1:=(Below.refl _ W).drew.trans q1;have z1:=q1.size;have oc:yY X1 W.heap.size uc P.cells:=oc;have ot:xu X1 W.heap.size ut P.threads:=ot;obtain⟨ua,uk,rfl,-⟩:=oc.form2;obtain⟨ta,tk,hut,-⟩:∃a c,ut=.slice a P.threads.length c/\True:=by
     obtain⟨ts,h1,h2,-⟩:=ot;obtain⟨a,c,e,-⟩:=h1.form2;exact⟨a,c,by rw[e,h2],trivial⟩
    subst hut;refine qI (fun K hK=>?_);refine wp_makeN (f:=yz) (e:=131) (sz:=1) (B:=W.heap.size) _ _ _ rfl _ 8 Tryz.underlying127 infoSt rfl rfl (by omega) (by omega) (by first|omega|exact Nat.le_refl _) (.nilFunc) rfl rfl (by decide) ?_;intro X2 o2 q2 z2;refine hK _ _ (RN.KeepsN.of_below (q2.mono (by first|omega|exact Nat.le_refl _))) ?_;clear hK K;have q3:=q1.trans (q2.mono z1);have O2:=qj o2;have OC:=qj (qq.below oc q2);have OT:=qj (ot.below q2);have Q3:=qj q3;have z3:=q3.size;clear q1 q2 q3 oc ot o2
    repeat (refine qC fun K hK=>?_;go_simp;refine hK _ _ ?_;clear hK K)
    refine qI (fun K hK=>?_);go_simp;refine hK _ _ (RN.KeepsN.alloc _ _ (by omega)) ?_;clear hK K
    repeat first|(refine qC fun K hK=>?_;go_simp;refine hK _ _ ?_;clear hK K)|refine qA ?_
    exact⟨X2.heap.size,X1.heap.size,_,_,rfl,rfl,qy X2 _,z3,qq.alloc OC.o _,OT.o.alloc _,O2.o.alloc _,Q3.o.alloc z3 _⟩
   ·
    refine qI (fun K hK=>?_);refine wp_makeN (f:=yz) (e:=131) (sz:=1) (B:=W.heap.size) _ _ _ rfl _ 8 Tryz.underlying127 infoSt rfl rfl (by omega) (by omega) (by first|omega|exact Nat.le_refl _) (.nilFunc) rfl rfl (by decide) ?_;intro X2 o2 q2 z2;refine hK _ _ (RN.KeepsN.of_below q2) ?_;clear hK K;have q2:Below W.heap.size W X2:=(Below.refl _ W).drew.trans q2;have z2:=q2.size;refine qI (fun K hK=>?_);go_simp;refine(p_Clone _ _ P _ ((HW.o.below q2).more z2) HOK.o.ok).mono ?_;rintro e X1 ⟨uc,ut,rfl,oc,ot,q1⟩;refine hK _ _ (RN.KeepsN.of_below (q1.mono (by first|omega|exact Nat.le_refl _))) ?_;clear hK K;have q3:=q2.trans (q1.mono z2);have O2:=qj (qq.below o2 q1);have z4:=q1.size;have oc:=qq.base oc z2;have ot:=ot.map2 z2 (fun _ h=>qq.base h z2) (fun _ h=>qq.base h z2) (fun _ _ h=>qq.base h z2);obtain⟨ua,uk,rfl,-⟩:=oc.form2;obtain⟨ta,tk,hut,-⟩:∃a c,ut=.slice a P.threads.length c/\True:=by
     obtain⟨ts,h1,h2,-⟩:=ot;obtain⟨a,c,e,-⟩:=h1.form2;exact⟨a,c,by rw[e,h2],trivial⟩
    subst hut;have OC:=qj oc;have OT:=qj ot;have Q3:=qj q3;have z3:=q3.size;clear q1 q2 q3 oc ot o2
    repeat (refine qC fun K hK=>?_;go_simp;refine hK _ _ ?_;clear hK K)
    refine qI (fun K hK=>?_);go_simp;refine hK _ _ (RN.KeepsN.alloc _ _ (by omega)) ?_;clear hK K
    repeat first|(refine qC fun K hK=>?_;go_simp;refine hK _ _ ?_;clear hK K)|refine qA ?_
    exact⟨X1.heap.size,W.heap.size,_,_,rfl,rfl,qy X1 _,z3,qq.alloc OC.o _,OT.o.alloc _,O2.o.alloc _,Q3.o.alloc z3 _⟩
  ·rintro e a' X ⟨bD,gN,uc,ut,rfl,rfl,rw',hbw,oc,ot,oth,bx⟩
   have OC:=qj oc;have OT:=qj ot;have OH:=qj oth;have RW:=qj rw';have BX:=qj bx;clear rw' oc ot oth bx d0 d1;go_wp2
   go_ret2
   exact⟨.inr ⟨HOK.o,bD,bW,gT,gN,vc,vt,uc,ut,rfl,RW.o,by omega,qW.base (HWK.o.below BX.o) (by omega),qq.base OC.o (by omega),OT.o.map2 (by omega) (fun _ h=>qq.base h (by omega)) (fun _ h=>qq.base h (by omega)) (fun _ _ h=>qq.base h (by omega)),qq.base OH.o (by omega)⟩,B1.o.trans (BX.o.mono (by omega))⟩
end
section
attribute [local irreducible] xL
theorem Kp.rowW {ev:Value} {w w':World} {b:Nat} {cs:Array Value} {t:TypeId} {fz:Nat×Nat} (h:Kp Mw ev w w') (hb:w.heap[b]?=some (.cells cs t fz)) (h1:t≠210) (h2:t≠283) (h3:t≠53):w'.heap[b]?=some (.cells cs t fz):=
 h.cells b cs t fz hb (fun hm=>by rcases hm with h|h;exact h1 h;exact h2 h) (fun ht=>absurd ht h3)
theorem qq.kpW {α:Type} {f:α->List Value} {e:TypeId} {sz B:Nat} {v ev:Value} {l:List α} {w w':World} (h:qq f e sz w B v l) (hk:Kp Mw ev w w') (h1:e≠210) (h2:e≠283) (h3:e≠53):qq f e sz w' B v l:=
 qq.kp h hk (fun hm=>by rcases hm with h|h;exact h1 h;exact h2 h) h3
theorem xu.kpW {B:Nat} {v ev:Value} {l:List (List (List Ac))} {w w':World} (h:xu w B v l) (hk:Kp Mw ev w w'):xu w' B v l:=
 h.kp hk (by unfold Mw;decide) (by unfold Mw;decide) (by unfold Mw;decide)
theorem DrAt.walked {w w':World} {B bD bW gT gN:Nat} {vc vt ve ve' pc pt rf:Value} {P:Pg} {S S':yk} {nx:List Value} (h:DrAt w B bD bW gT gN vc vt ve pc pt rf P S nx) (hk:Kp Mw ve w w') (hw:qW w' B bW gT vc vt ve' P S'):DrAt w' B bD bW gT gN vc vt ve' pc pt rf P S' nx:=
 ⟨hk.rowW h.row (by decide) (by decide) (by decide),h.hB,hw,qq.kpW h.pcells hk (by decide) (by decide) (by decide),h.pthr.kpW hk,qq.kpW h.next hk (by decide) (by decide) (by decide)⟩
def AnsPost (B bD bW gT gN:Nat) (vc vt ve pc pt rf:Value) (P:Pg) (S:yk) (nx:List Value) (i:Nat) (w:World) (r:Option (Th×Ev)) (x:Ending) (w':World):Prop:=
 x=.returned (.tuple #[])/\Below B w w'/\Kp Mw ve w w'/\∃ve',DrAt w' B bD bW gT gN vc vt ve' pc pt rf P (match r with|none=>S|some y=>S.put i y) nx/\∀k,ve'.ownBlock=some k->ve.ownBlock=some k\/w.heap.size<=k
section
variable {w:World} {B bD bW gT gN:Nat} {vc vt ve pc pt rf:Value} {P:Pg} {S:yk} {nx:List Value}
theorem d_answer (h:DrAt w B bD bW gT gN vc vt ve pc pt rf P S nx) (hBw:B<=w.heap.size) (i:Nat) (hi:i < P.threads.length) {t:Th} (ht:S.ths[i]?=some t) (val:Int) (abort:Bool) (hv:xN val=true) (hv2:∀a,(P.acts i t.tx)[t.act]?=some a->a.kind=3->t.adding=false->xN (val+a.val)=true) (hl:S.evs.length<=100000):
  Calls Tryz.prog 106 #[.pointer (some ⟨bD,0,none⟩),.int .i64 i,.int .i64 val,.bool abort] w (AnsPost B bD bW gT gN vc vt ve pc pt rf P S nx i w (yV P i t val abort)):=by
 have d2:w.cell? ⟨bD,2,none⟩=some (.pointer (some ⟨bW,0,none⟩)):=qg h.row 2;have lD:=qh h.row;have H:=qj h;have hA:=qj (wk_answer h.walk hBw i hi ht val abort hv hv2 hl);clear h hv2;generalize yV P i t val abort=r at hA ⊢;go_enter Tryz.func106,Tryz.ntmps106;go_wp2_with fail;refine(hA.o).mono ?_;clear hA;intro x w1 hx;cases r with
 |none=>
  obtain⟨rfl,hb⟩:=hx;have HB:=qj hb;clear hb;go_wp2;go_end0;exact⟨rfl,HB.o.mono hBw,Kp.of_below HB.o,ve,H.o.below HB.o,fun k h=>.inl h⟩
 |some y=>
  obtain⟨rfl,ve',hw,hk,hb,ho⟩:=hx;have HB:=qj hb;have HK:=qj hk;have HW:=qj hw;have HO:=qj ho;clear hb hk hw ho;go_wp2;go_end0;exact⟨rfl,HB.o,HK.o,ve',H.o.walked HK.o HW.o,HO.o⟩
end
end
section
attribute [local irreducible] xL
theorem infoO:(Tryz.prog.info? 96).map (fun i=>(i.zero,i.size,i.bytes))=some (some (.agg #[.int .i64 0,.int .i64 0]),2,16):=by kernel_rfl
theorem ob_one (e:Ob):∀u ∈ e.cells,u.oneCell'=true:=by intro u hu;simp[Ob.cells] at hu;rcases hu with rfl|rfl <;> rfl
def zj (P:Pg) (S:yk):Bool:=(List.range P.threads.length).all fun i=>ye P S i
theorem xu.form {w:World} {B:Nat} {v:Value} {l:List (List (List Ac))} (h:xu w B v l):∃a c,v=.slice a l.length c:=by
 obtain⟨ts,h1,h2,-⟩:=h;obtain⟨a,c,e,-⟩:=h1.form2;exact⟨a,c,by rw[e,h2]⟩
def xe (P:Pg):List Ob:=P.cells.map fun c=>⟨1,c⟩
def HistRet (os:List Ob) (es:List Ev) (w:World) (e:Ending) (w':World):Prop:=
 ∃ov vv,e=.returned (.agg #[ov,vv])/\qq Ob.cells 96 2 w' w.heap.size ov os/\qq Ev.cells 53 8 w' w.heap.size vv es/\Below w.heap.size w w'
section
variable {w:World} {B bD bW gT gN:Nat} {vc vt ve pc pt rf:Value} {P:Pg} {S:yk} {nx:List Value}
theorem d_done (h:DrAt w B bD bW gT gN vc vt ve pc pt rf P S nx):
  Calls Tryz.prog 37 #[.pointer (some ⟨bD,0,none⟩)] w fun e w'=>e=.returned (.bool (zj P S))/\Below w.heap.size w w':=by
 obtain⟨at',ct,rfl⟩:=h.pthr.form;have d1:w.cell? ⟨bD,1,none⟩=some (.slice at' P.threads.length ct):=qg h.row 1;have d2:w.cell? ⟨bD,2,none⟩=some (.pointer (some ⟨bW,0,none⟩)):=qg h.row 2;have lD:=qh h.row;have hn4:=h.walk.ok.threads.2;have H:=qj h;clear h;go_enter Tryz.func37,Tryz.ntmps37;go_wp2_with fail;have D2:=qj d2;clear d1 d2
 go_loopw [10] (fun p wr=>∃i:Nat,i<=P.threads.length/\p=.int .i64 i/\Below w.heap.size w wr/\∀j:Nat,j < i->ye P S j=true) (fun p _=>P.threads.length - (intOf p).toNat)
 case atStart=>exact⟨0,by omega,by go_num,Below.refl _ _,fun j hj=>absurd hj (by omega)⟩
 case round=>
  obtain⟨i,hi,rfl,hbw,hd⟩:=hrel;have HBW:=qj hbw;have HD:=qj hd;clear hbw hd;by_cases hlt:i < P.threads.length
  ·have d2:=qu HBW.o lD D2.o
   have lDr:bD < wr.heap.size:=by have:=HBW.o.size;omega
   go_wp2_with fail;refine(wk_done (H.o.walk.below HBW.o) i).mono ?_;rintro e w1 ⟨rfl,rfl⟩;cases hw:ye P S i with
   |false=>
    go_wp2;go_ret;refine⟨?_,HBW.o.drew⟩;have:zj P S=false:=by
     unfold zj;rw[List.all_eq_false];exact⟨i,List.mem_range.2 hlt,by simp[hw]⟩
    rw[this];rfl
   |true=>
    go_wp2_with fail;go_roundw
    case rel=>
     refine⟨i+1,by omega,by go_num,HBW.o.drew,fun j hj=>?_⟩;rcases Nat.lt_or_eq_of_le (Nat.lt_succ_iff.1 hj) with h|rfl
     ·exact HD.o j h
     ·exact hw
    case measure=>simp[intOf];omega
  ·obtain rfl:i=P.threads.length:=by omega
   go_wp2;go_ret;refine⟨?_,HBW.o⟩;have:zj P S=true:=by
    unfold zj;rw[List.all_eq_true];exact fun j hj=>HD.o j (List.mem_range.1 hj)
   rw[this];rfl
theorem d_history (h:DrAt w B bD bW gT gN vc vt ve pc pt rf P S nx) (hl:S.evs.length<=100000):
  Calls Tryz.prog 38 #[.pointer (some ⟨bD,0,none⟩)] w (HistRet (xe P) S.evs w):=by
 obtain⟨ac,cc,rfl,-⟩:=h.pcells.form2;have d0:w.cell? ⟨bD,0,none⟩=some (.slice ac P.cells.length cc):=qg h.row 0;have d2:w.cell? ⟨bD,2,none⟩=some (.pointer (some ⟨bW,0,none⟩)):=qg h.row 2;have lD:=qh h.row;have hn4:=h.walk.ok.cells.2;have HC:=qj (show Sl w w.heap.size 1 (.slice ac P.cells.length cc) P.cells.length (P.cells.map (.int .i64)) from by rw[←flat_int];exact h.pcells.sl);have D0:=qj d0;have H:=qj h;clear h d0;go_enter Tryz.func38,Tryz.ntmps38;go_wp2_with fail;have b0:Below w.heap.size w (w.alloc (.cells #[.slice none 0 0,.slice none 0 0] 37)):=(Below.refl _ w).alloc (Nat.le_refl _) _;have r0:=qy w (.cells #[.slice none 0 0,.slice none 0 0] 37);have z0:(w.alloc (.cells #[.slice none 0 0,.slice none 0 0] 37)).heap.size=w.heap.size+1:=by simp
 generalize w.alloc (.cells #[.slice none 0 0,.slice none 0 0] 37)=X at *;refine(wk_events (H.o.walk.below b0) hl).mono ?_;rintro e W ⟨vv,rfl,oe,b1⟩;obtain⟨ae,ce,rfl,-⟩:=oe.form2;have z1:=b1.size;have r1:=qp r0 b1 (by omega);have B1:=qj (b0.trans (b1.mono (by omega)));have OE:=qj (qq.base oe (show w.heap.size<=X.heap.size by omega));have lo:w.heap.size < W.heap.size:=by omega
 have lD1:bD < W.heap.size:=by omega
 have d0:=qu B1.o lD D0.o;have R1:=qj r1;clear b0 r0 oe d2 r1;go_wp2_with fail;have b2:Below w.heap.size w (W.alloc (.cells #[.slice none 0 0,.slice ae S.evs.length ce] 37)):=B1.o.alloc (by omega) _;have r2:=qy W (.cells #[.slice none 0 0,.slice ae S.evs.length ce] 37);have r3:=qF (o:=.cells #[.slice none 0 0,.slice ae S.evs.length ce] 37) R1.o;have o2:=OE.o.alloc (.cells #[.slice none 0 0,.slice ae S.evs.length ce] 37);have hob:(xe P).length=P.cells.length:=by simp[xe]
 generalize W.alloc (.cells #[.slice none 0 0,.slice ae S.evs.length ce] 37)=Y at *;have B2:=qj b2;have R2:=qj r2;have R3:=qj r3;have O2:=qj o2;clear b2 r2 r3 o2 d0
 go_loopw [18] (fun p wr=>∃(i:Nat) (ov:Value),i<=P.cells.length/\p=.int .i64 i/\Below w.heap.size w wr/\wr.heap[W.heap.size]?=some (.cells #[ov,.slice ae S.evs.length ce] 37 (0,0))/\wr.heap[w.heap.size]?=some (.cells #[.slice none 0 0,.slice none 0 0] 37 (0,0))/\qq Ob.cells 96 2 wr w.heap.size ov ((xe P).take i)/\qq Ev.cells 53 8 wr w.heap.size (.slice ae S.evs.length ce) S.evs) (fun p _=>P.cells.length - (intOf p).toNat)
 case atStart=>exact⟨0,.slice none 0 0,by omega,by go_num,B2.o,R2.o,R3.o,qq.nil _ _,O2.o⟩
 case round=>
  obtain⟨i,ov,hi,rfl,hB,hr2,hr3,hO,hV⟩:=hrel;clear B2 R2 R3 O2;obtain⟨ao,co,rfl,-⟩:=hO.form2;have hlo:((xe P).take i).length=i:=by rw[List.length_take];omega
  rw[hlo] at hO hr2;have e0:=qg hr2 0;have ef:=qx hr2 0;have e1:=qg hr2 1;have lh:=qh hr2;have zB:=hB.size;have HB:=qj hB;have HR2:=qj hr2;have HR3:=qj hr3;have HO:=qj hO;have HV:=qj hV;clear hB hr2 hr3 hO hV;by_cases hlt:i < P.cells.length
  ·obtain ⟨b,off,c,rfl,hb,hc,hcc⟩:=HC.o.intAt hlt
   have hcc:=qu HB.o hb hcc;have hbz:b < wr.heap.size:=by omega
   have hoc:(xe P)[i]?=some ⟨1,c⟩:=by simp[xe,hc]
   have HOC:=qj hoc;clear hoc hc e1;go_wp2_with (at_builtin;refine qU rfl _ _ _ rfl _ 16 Tryz.underlying34 infoO rfl HO.o ⟨1,c⟩ (by first|omega|(simp <;> omega)) (by rfl) (by rfl) (by first|rfl|simp) rfl (ob_one _) (by first|omega|(simp only[List.length_append,List.length_cons,List.length_nil,List.length_replicate];omega)) (by first|omega|(simp only[List.length_append,List.length_cons,List.length_nil,List.length_replicate];omega)) ?_;refine xt.halt ?_)
   refine xt.go ?_;intro g4 c4 w4 o4 G4;have b4:=HB.o.trans (G4.below zB fun q h=>(HO.o.lt q h).1);have q2:=qQ HR2.o G4 (qq.neT HO.o HR2.o (by decide));have q3:=qQ HR3.o G4 (qq.neT HO.o HR3.o (by decide));have oV:=HV.o.grwT HO.o (by decide) G4;have f6:=qx q2 0;have l6:=qh q2;have e0:=qg q2 0;have B4:=qj b4;have Q2:=qj q2;have Q3:=qj q3;have OV:=qj oV;have O4:=qj o4;clear b4 q2 q3 oV o4 G4 ef lh;go_wp2_with fail;go_roundw
   case rel=>
    refine⟨i+1,_,by omega,by go_num,B4.o.setCell (p:=⟨W.heap.size,0,none⟩) (by show w.heap.size<=W.heap.size;omega) _,qB Q2.o 0 _,qK Q3.o (by omega),?_,qq.other OV.o (qq.neT OV.o Q2.o (by decide)) _⟩;rw[take_step HOC.o];exact qq.other O4.o (qq.neT O4.o Q2.o (by decide)) _
   case measure=>simp[intOf];omega
  ·obtain rfl:i=P.cells.length:=by omega
   have y0:=qg HR3.o 0;have y1:=qg HR3.o 1;have yf:∀j,wr.frozen? ⟨w.heap.size,j,none⟩=false:=fun j=>qx HR3.o j;have l3:=qh HR3.o;go_wp2;have r4:=row2 (u1:=.slice ao P.cells.length co) (u2:=.slice ae S.evs.length ce) HR3.o;have c0:=qg r4 0;have c1:=qg r4 1;simp only[List.getElem?_toArray,List.getElem?_cons_zero,List.getElem?_cons_succ] at c0 c1;refine bodyPost_ret (v:=.agg #[.slice ao P.cells.length co,.slice ae S.evs.length ce]) (by simp[results,Tryz.results38,go_sem,c0,c1]) rfl ⟨_,_,rfl,?_,?_,?_⟩
   ·have:=qq.box2 (u1:=.slice ao P.cells.length co) (u2:=.slice ae S.evs.length ce) HO.o HR3.o (by decide)
    rwa [show (xe P).take P.cells.length=xe P from by rw[←hob,List.take_length]] at this
   ·exact qq.box2 HV.o HR3.o (by decide)
   ·exact (HB.o.setCell (p:=⟨w.heap.size,0,none⟩) (Nat.le_refl _) _).setCell (p:=⟨w.heap.size,1,none⟩) (Nat.le_refl _) _
end
end
abbrev DU:=DataW Unit
abbrev RdU:=Value->Option (DU×List MemPlace)
section
variable {ε:Type}
def KSrt (M:List (Int×ε)):Prop:=M.Pairwise fun x y=>x.1 < y.1
def upd (a:Int) (v:ε):List (Int×ε)->List (Int×ε)
 |[]=>[(a,v)]
 |(x,u)::r=>if x=a then(a,v)::r else if a < x then(a,v)::(x,u)::r else(x,u)::upd a v r
def yZ (a:Int):List (Int×ε)->Option ε
 |[]=>none
 |(x,u)::r=>if x=a then some u else yZ a r
theorem keys_upd {a:Int} {v:ε} {z:Int}:∀{M:List (Int×ε)},(∃u,(z,u) ∈ upd a v M)↔z=a\/∃u,(z,u) ∈ M
 |[]=>by simp[upd]
 |(x,u)::r=>by
  have ih:=keys_upd (a:=a) (v:=v) (z:=z) (M:=r);unfold upd
  split
  ·rename_i h
   subst h;simp only[List.mem_cons,Prod.mk.injEq];constructor
   ·rintro ⟨y,⟨h,_⟩|h⟩
    ·exact .inl h
    ·exact .inr ⟨y,.inr h⟩
   ·rintro (h|⟨y,⟨h,_⟩|h⟩)
    ·exact ⟨v,.inl ⟨h,rfl⟩⟩
    ·exact ⟨v,.inl ⟨h,rfl⟩⟩
    ·exact ⟨y,.inr h⟩
  ·split
   ·simp only[List.mem_cons,Prod.mk.injEq]
    constructor
    ·rintro ⟨y,⟨h,_⟩|h⟩
     ·exact .inl h
     ·exact .inr ⟨y,h⟩
    ·rintro (h|⟨y,h⟩)
     ·exact ⟨v,.inl ⟨h,rfl⟩⟩
     ·exact ⟨y,.inr h⟩
   ·simp only[List.mem_cons,Prod.mk.injEq]
    constructor
    ·rintro ⟨y,⟨h,h'⟩|h⟩
     ·exact .inr ⟨y,.inl ⟨h,h'⟩⟩
     ·rcases ih.1 ⟨y,h⟩ with h|⟨y',h⟩
      ·exact .inl h
      ·exact .inr ⟨y',.inr h⟩
    ·rintro (h|⟨y,⟨h,h'⟩|h⟩)
     ·obtain ⟨y,h⟩:=ih.2 (.inl h);exact⟨y,.inr h⟩
     ·exact ⟨y,.inl ⟨h,h'⟩⟩
     ·obtain ⟨y,h⟩:=ih.2 (.inr ⟨y,h⟩);exact⟨y,.inr h⟩
theorem mem_upd {a:Int} {v:ε} {p:Int×ε}:∀{M:List (Int×ε)},KSrt M->(p ∈ upd a v M↔p=(a,v)\/(p ∈ M/\p.1≠a))
 |[],_=>by simp[upd]
 |(x,u)::r,h=>by
  obtain⟨h1,h2⟩:=List.pairwise_cons.1 h;have ih:=mem_upd (a:=a) (v:=v) (p:=p) h2;unfold upd
  split
  ·rename_i hx
   subst hx;simp only[List.mem_cons];constructor
   ·rintro (h|h)
    ·exact .inl h
    ·exact .inr ⟨.inr h,by have:=h1 p h;simp only at this;omega⟩
   ·rintro (h|⟨h|h,hne⟩)
    ·exact .inl h
    ·exact absurd (by rw[h]) hne
    ·exact .inr h
  ·rename_i hx
   split
   ·rename_i hlt
    simp only[List.mem_cons];constructor
    ·rintro (h|h|h)
     ·exact .inl h
     ·exact .inr ⟨.inl h,by rw[h];exact hx⟩
     ·exact .inr ⟨.inr h,by have:=h1 p h;simp only at this;omega⟩
    ·rintro (h|⟨h,_⟩)
     ·exact .inl h
     ·exact .inr h
   ·simp only[List.mem_cons,ih]
    constructor
    ·rintro (h|h|⟨h,hne⟩)
     ·exact .inr ⟨.inl h,by rw[h];exact hx⟩
     ·exact .inl h
     ·exact .inr ⟨.inr h,hne⟩
    ·rintro (h|⟨h|h,hne⟩)
     ·exact .inr (.inl h)
     ·exact .inl h
     ·exact .inr (.inr ⟨h,hne⟩)
theorem srt_upd {a:Int} {v:ε}:∀{M:List (Int×ε)},KSrt M->KSrt (upd a v M)
 |[],_=>by simp[upd,KSrt]
 |(x,u)::r,h=>by
  obtain⟨h1,h2⟩:=List.pairwise_cons.1 h;unfold upd
  split
  ·rename_i hx
   subst hx;exact List.pairwise_cons.2 ⟨h1,h2⟩
  ·rename_i hx
   split
   ·rename_i hlt
    refine List.pairwise_cons.2 ⟨fun z hz=>?_,h⟩;rcases List.mem_cons.1 hz with rfl|hz
    ·exact hlt
    ·have:=h1 z hz;simp only at this ⊢;omega
   ·refine List.pairwise_cons.2 ⟨fun z hz=>?_,srt_upd h2⟩
    rcases(mem_upd h2).1 hz with rfl|⟨hz,_⟩
    ·simp only;omega
    ·exact h1 z hz
theorem yu {a:Int} {u:ε}:∀{M:List (Int×ε)},KSrt M->(yZ a M=some u↔(a,u) ∈ M)
 |[],_=>by simp[yZ]
 |(x,y)::r,h=>by
  obtain⟨h1,h2⟩:=List.pairwise_cons.1 h;unfold yZ
  split
  ·rename_i hx
   subst hx;simp only[Option.some.injEq,List.mem_cons,Prod.mk.injEq,true_and];constructor
   ·exact fun h=>.inl h.symm
   ·rintro (h|h)
    ·exact h.symm
    ·have:=h1 _ h;simp only at this;omega
  ·rename_i hx
   rw[yu h2];simp only[List.mem_cons,Prod.mk.injEq];constructor
   ·exact .inr
   ·rintro (⟨h,_⟩|h)
    ·exact absurd h.symm hx
    ·exact h
theorem fnd_none {a:Int}:∀{M:List (Int×ε)},yZ a M=none↔∀u,(a,u) ∉ M
 |[]=>by simp[yZ]
 |(x,y)::r=>by
  unfold yZ
  split
  ·rename_i hx
   subst hx;simp only[reduceCtorEq,false_iff];exact fun h=>h y (by simp)
  ·rename_i hx
   rw[fnd_none];constructor
   ·intro h u hm
    rcases List.mem_cons.1 hm with e|e
    ·simp only[Prod.mk.injEq] at e;exact hx e.1.symm
    ·exact h u e
   ·exact fun h u hm=>h u (by simp[hm])
theorem fnd_upd_same {a:Int} {v:ε} {M:List (Int×ε)} (h:KSrt M):yZ a (upd a v M)=some v:=(yu (srt_upd h)).2 ((mem_upd h).2 (.inl rfl))
theorem fnd_upd_other {a c:Int} {v:ε} {M:List (Int×ε)} (h:KSrt M) (hc:c≠a):yZ c (upd a v M)=yZ c M:=by
 cases e:yZ c M with
 |some u=>exact(yu (srt_upd h)).2 ((mem_upd h).2 (.inr ⟨(yu h).1 e,hc⟩))
 |none=>
  rw[fnd_none] at e ⊢;intro u hm;rcases(mem_upd h).1 hm with e'|⟨hm,_⟩
  ·simp only[Prod.mk.injEq] at e';exact hc e'.1
  ·exact e u hm
end
structure KeyT (P:Program) (K:TypeId) (kv:Int->Value) (kl:Int->Lit) (dom:Int->Prop):Prop where
 keyed:Keyed P K
 of:∀x,dom x->keyOf P K (kv x)=some (kl x)
 before:∀x y,dom x->dom y->((kl x).before (kl y)=true↔x < y)
 inj:∀x y,dom x->dom y->kl x=kl y->x=y
section
variable {P:Program} {K:TypeId} {kv:Int->Value} {kl:Int->Lit} {dom:Int->Prop} {ε:Type}
theorem KeyT.key (T:KeyT P K kv kl dom) {x:Int} (hx:dom x):WideAt.IsKeyLit (kl x):=T.keyed.key (T.of x hx)
theorem KeyT.self (T:KeyT P K kv kl dom) {x:Int} (hx:dom x):(kl x).sameKey (kl x)=true:=WideAt.sameKey_self (T.key hx)
theorem KeyT.same (T:KeyT P K kv kl dom) {x y:Int} (hx:dom x) (hy:dom y):(kl x).sameKey (kl y)=(x==y):=by
 by_cases h:x=y
 ·subst h;rw[T.self hx];simp
 ·rw [sameKey_ne fun e=>h (T.inj x y hx hy e)];simp[h]
def KDom (dom:Int->Prop) (M:List (Int×ε)):Prop:=∀p ∈ M,dom p.1
def mapD (kl:Int->Lit) (ed:ε->DU) (M:List (Int×ε)):DU:=.map (M.map fun p=>(kl p.1,ed p.2))
variable {ed:ε->DU} {M:List (Int×ε)}
theorem mapD_size:Maps.size (mapD kl ed M)=M.length:=by simp[mapD,Maps.size]
theorem mapD_find (T:KeyT P K kv kl dom) {a:Int} (ha:dom a):∀{M:List (Int×ε)},KDom dom M->(M.map fun p=>(kl p.1,ed p.2)).find? (fun p=>p.1.sameKey (kl a))=(yZ a M).map fun u=>(kl a,ed u)
 |[],_=>rfl
 |(x,u)::r,h=>by
  have hx:dom x:=h (x,u) (by simp);have ih:=mapD_find T ha (M:=r) fun p hp=>h p (by simp[hp]);simp only[List.map_cons,List.find?_cons,T.same hx ha,yZ];by_cases e:x=a
  ·subst e;simp
  ·have:(x==a)=false:=by simpa using e
   rw[this,if_neg e];exact ih
theorem mapD_at (T:KeyT P K kv kl dom) {a:Int} (ha:dom a) (h:KDom dom M) (z:DU):(mapD kl ed M).atKey (kl a) z=match yZ a M with|some u=>ed u|none=>z:=by
 unfold mapD DataW.atKey;simp only;rw[mapD_find T ha h];cases yZ a M <;> rfl
theorem mapD_has (T:KeyT P K kv kl dom) {a:Int} (ha:dom a) (h:KDom dom M):Maps.has (mapD kl ed M) (kl a)=(yZ a M).isSome:=by
 have h1:=mapD_find (ed:=ed) T ha h;unfold mapD Maps.has;simp only;rw[show ((M.map fun p=>(kl p.1,ed p.2)).any fun p=>p.1.sameKey (kl a))=((M.map fun p=>(kl p.1,ed p.2)).find? fun p=>p.1.sameKey (kl a)).isSome from(List.isSome_find? ..).symm,h1];cases yZ a M <;> rfl
theorem mapD_put (T:KeyT P K kv kl dom) {a:Int} (ha:dom a) (v:ε) (h:KDom dom M) (hs:KSrt M):(mapD kl ed M).put (kl a) (ed v)=mapD kl ed (upd a v M):=by
 unfold mapD DataW.put;simp only[DataW.map.injEq]
 induction M with
 |nil=>rfl
 |cons q r ih=>
  obtain⟨x,u⟩:=q;have hx:dom x:=h (x,u) (by simp);have hr:KDom dom r:=fun p hp=>h p (by simp[hp]);obtain⟨h1,h2⟩:=List.pairwise_cons.1 hs;have keep:a<=x->(r.map fun p=>(kl p.1,ed p.2)).filter (fun p=>!p.1.sameKey (kl a))=r.map fun p=>(kl p.1,ed p.2):=fun hle=>by
   refine List.filter_eq_self.2 fun p hp=>?_;obtain⟨y,hy,rfl⟩:=List.mem_map.1 hp;have:=h1 y hy;simp only at this ⊢;rw[T.same (hr y hy) ha];have:(y.1==a)=false:=by rw[beq_eq_false_iff_ne];omega
   rw[this];rfl
  unfold upd;by_cases e:x=a
  ·subst e
   simp only[List.map_cons,List.filter_cons,T.self hx,Bool.not_true,Bool.false_eq_true,if_false,if_true];rw[keep (Int.le_refl _)];cases r with
   |nil=>rfl
   |cons y r=>
    have hy:dom y.1:=hr y (by simp);have hlt:(kl x).before (kl y.1)=true:=(T.before x y.1 hx hy).2 (h1 y (by simp));simp only[List.map_cons,DataW.insert,hlt,if_true]
  ·have e1:(kl x).sameKey (kl a)=false:=by rw[T.same hx ha];simpa using e
   simp only[List.map_cons,List.filter_cons,e1,Bool.not_false,if_true,if_neg e];by_cases hlt:a < x
   ·rw [keep (Int.le_of_lt hlt),if_pos hlt]
    simp only[DataW.insert,(T.before a x ha hx).2 hlt,if_true,List.map_cons]
   ·rw [if_neg hlt]
    have hb:¬(kl a).before (kl x)=true:=fun hb=>hlt ((T.before a x ha hx).1 hb);simp only[DataW.insert,if_neg hb,List.map_cons];rw[ih hr h2]
structure ElemT (R:RdU) (ev:ε->Value) (ed:ε->DU) (zv:Value) (zd:DU):Prop where
 of:∀x,∃ps,R (ev x)=some (ed x,ps)
 zero:∃ps,R zv=some (zd,ps)
 inv:∀v x ps,R v=some (ed x,ps)->v=ev x
 invz:∀v ps,R v=some (zd,ps)->v=zv
def xF (P:Program) (K:TypeId) (R:RdU) (kl:Int->Lit) (ed:ε->DU) (w:World) (b n:Nat) (M:List (Int×ε)):Prop:=w.ownsMap P K R b n (mapD kl ed M)
variable {R:RdU} {ev:ε->Value} {zv:Value} {zd:DU} {w w':World} {b n:Nat}
theorem xF.lt (h:xF P K R kl ed w b n M):b < w.heap.size:=World.ownsMap.lt h
theorem xF.obj (h:xF P K R kl ed w b n M) (hw:w'.heap[b]?=w.heap[b]?):xF P K R kl ed w' b n M:=by
 obtain⟨es,clock,h1,h2⟩:=h;exact⟨es,clock,hw.trans h1,h2⟩
theorem xF.drew (h:xF P K R kl ed w b n M):xF P K R kl ed w.drew b n M:=h
theorem xF.made (w:World):xF P K R kl ed (w.alloc (.map #[] 0)) w.heap.size 0 []:=World.ownsMap_made w P K R
theorem xF.length_le (h:xF P K R kl ed w b n M):M.length<=n:=by have:=World.ownsMap.size_le h;rwa [mapD_size] at this
theorem xF.look (T:KeyT P K kv kl dom) (E:ElemT R ev ed zv zd) (h:xF P K R kl ed w b n M) (hM:KDom dom M) {t e:TypeId} (ht:P.underlying t=some (.map K e)) (hz:(zeroValue e).run P w=.ok zv w) {a:Int} (ha:dom a):
  (Instr.lookup t (.map (some b)) (kv a) false).run P w=.ok (match yZ a M with|some u=>ev u|none=>zv) w:=by
 obtain⟨zp,hzd⟩:=E.zero;obtain⟨v,ps,hrun,hv⟩:=World.ownsMap.lookup h T.keyed ht hz hzd (T.of a ha);rw[mapD_at T ha hM] at hv;rw[hrun];cases hf:yZ a M with
 |some u=>rw[hf] at hv;rw[E.inv v u ps hv]
 |none=>rw[hf] at hv;rw[E.invz v ps hv]
theorem xF.lookOk (T:KeyT P K kv kl dom) (E:ElemT R ev ed zv zd) (h:xF P K R kl ed w b n M) (hM:KDom dom M) {t e:TypeId} (ht:P.underlying t=some (.map K e)) (hz:(zeroValue e).run P w=.ok zv w) {a:Int} (ha:dom a):
  (Instr.lookup t (.map (some b)) (kv a) true).run P w=.ok (.tuple #[match yZ a M with|some u=>ev u|none=>zv,.bool (yZ a M).isSome]) w:=by
 obtain⟨zp,hzd⟩:=E.zero;obtain⟨v,ps,hrun,hv⟩:=World.ownsMap.look_ok h T.keyed ht hz hzd (T.of a ha);rw[mapD_at T ha hM] at hv;rw[hrun,mapD_has T ha hM];cases hf:yZ a M with
 |some u=>rw[hf] at hv;rw[E.inv v u ps hv]
 |none=>rw[hf] at hv;rw[E.invz v ps hv]
theorem xF.len (h:xF P K R kl ed w b n M) {t e:TypeId} (ht:P.underlying t=some (.map K e)) (ty:TypeId):(Builtin.len_ #[t] ty #[.map (some b)]).run P w=.ok (.int .i64 M.length) w:=by
 have:=World.ownsMap.len h ht ty
 rwa [mapD_size] at this
theorem xF.wp_store (T:KeyT P K kv kl dom) (E:ElemT R ev ed zv zd) (h:xF P K R kl ed w b n M) (hM:KDom dom M) (hs:KSrt M) {t e:TypeId} (ht:P.underlying t=some (.map K e)) (hn:n < maxLen) {a:Int} (ha:dom a) {v:ε}
  {o:Oper} {act:Act} {Q:Exit->Act->World->Prop} {K':Act->World->Prop} {m x y:Operand} (hop:o.op=Op.mapUpdate t m x y) (hm:act.eval m=.map (some b)) (hx:act.eval x=kv a) (hy:act.eval y=ev v)
  (hK:∀w',xF P K R kl ed w' b (n+1) (upd a v M)->w.mapTurned w' b->K' (act.put o.dst undef) w'):o.wp P act w K' Q:=by
 obtain⟨ps,hv⟩:=E.of v;obtain⟨w',hrun,h1,h2⟩:=World.ownsMap.store h T.keyed ht hn (T.of a ha) hv;rw[mapD_put T ha v hM hs] at h1;unfold Oper.wp;simp only[execOp,hop,hm,hx,hy,Sem.run_bind,hrun,Result.andThen_ok,Sem.run_pure];exact hK w' h1 h2
end
def Rbool:RdU
 |.bool x=>some (.lit (.bool x),[])
 |_=>none
def Rint:RdU
 |.int .i64 n=>some (.lit (.int .i64 n),[])
 |_=>none
theorem elem_bool:ElemT Rbool (fun _:Unit=>.bool true) (fun _=>.lit (.bool true)) (.bool false) (.lit (.bool false)) where
 of _:=⟨[],rfl⟩
 zero:=⟨[],rfl⟩
 inv v _ ps h:=by cases v <;> simp_all [Rbool]
 invz v ps h:=by cases v <;> simp_all [Rbool]
theorem elem_int:ElemT Rint (fun n:Int=>.int .i64 n) (fun n=>.lit (.int .i64 n)) (.int .i64 0) (.lit (.int .i64 0)) where
 of _:=⟨[],rfl⟩
 zero:=⟨[],rfl⟩
 inv v x ps h:=by
  unfold Rint at h
  split at h <;> simp_all
 invz v ps h:=by
  unfold Rint at h
  split at h <;> simp_all
def dI (x:Int):Prop:=(Lit.int .i64 x).wf=true
theorem keyT_int {P:Program} {K:TypeId} (hk:P.underlying K=some (.int .i64)):KeyT P K (.int .i64) (.int .i64) dI where
 keyed:=int_keyed hk
 of x hx:=keyOf_int_mk hk hx
 before x y _ _:=by simp[Lit.before]
 inj x y _ _ h:=by simpa using h
section
attribute [local irreducible] xL
abbrev MI:=List (Int×Int)
def yk.putO (s:yk) (i:Nat):Option (Th×Ev)->yk
 |none=>s
 |some y=>s.put i y
abbrev IsMI (w:World) (b n:Nat) (M:MI):Prop:=xF Tryz.prog 3 Rint (Lit.int .i64) (fun n:Int=>.lit (.int .i64 n)) w b n M
def KCe {ε:Type} (r:List (Int×ε)):Prop:=∀p ∈ r,0<=p.1/\p.1 < 4
theorem KCe.dom {ε:Type} {r:List (Int×ε)} (h:KCe r):KDom dI r:=fun p hp=>by have:=h p hp;unfold dI Lit.wf;simp[IntKind.min,IntKind.max,IntKind.bits,IntKind.signed];omega
theorem ksrt_len {ε:Type}:∀(l:List (Int×ε)) (a b:Int),KSrt l->(∀p ∈ l,a<=p.1/\p.1 < b)->(l.length:Int)<=max 0 (b - a)
 |[],a,b,_,_=>by simp;omega
 |x::l,a,b,h,hb=>by
  obtain⟨h1,h2⟩:=List.pairwise_cons.1 h;have h3:=hb x (by simp);have:=ksrt_len l (x.1+1) b h2 fun p hp=>⟨by have:=h1 p hp;omega,(hb p (by simp[hp])).2⟩
  simp only[List.length_cons];omega
theorem KCe.len {ε:Type} {r:List (Int×ε)} (h:KCe r) (hs:KSrt r):r.length<=4:=by have:=ksrt_len r 0 4 hs h;omega
def mbOf:Value->Option Nat
 |.map b=>b
 |_=>none
def mbs (u:Value×Value) (b:Nat):Prop:=mbOf u.1=some b\/mbOf u.2=some b
abbrev MB:=List (Int×Unit)
abbrev IsMB (w:World) (b n:Nat) (M:MB):Prop:=xF Tryz.prog 3 Rbool (Lit.int .i64) (fun _:Unit=>.lit (.bool true)) w b n M
def Kd (M:TypeId->Prop) (w w':World):Prop:=∀(k:Nat) (cs:Array Value) (t:TypeId) (fz:Nat×Nat),w.heap[k]?=some (.cells cs t fz)->¬M t->w'.heap[k]?=some (.cells cs t fz)
def KmAll (w w':World):Prop:=∀(b:Nat) (es:Array MapEntry) (c:Nat),w.heap[b]?=some (.map es c)->w'.heap[b]?=some (.map es c)
theorem xH {w w':World} {b i:Nat} (h:w.mapTurned w' b) (hi:i≠b):w'.heap[i]?=w.heap[i]?:=by
 obtain⟨es,c,es',c',hb,rfl⟩:=h;exact Go.ChangeMaps.heap_setBlock_other hb _ hi
theorem turned_size {w w':World} {b:Nat} (h:w.mapTurned w' b):w'.heap.size=w.heap.size:=by
 obtain⟨es,c,es',c',hb,rfl⟩:=h;simp[ChangeMaps.setBlock]
theorem Below.turned {w w':World} {b B:Nat} (h:w.mapTurned w' b) (hB:B<=b):Below B w w':=by
 obtain⟨es,c,es',c',hb,rfl⟩:=h;exact⟨rfl,rfl,rfl,by simp[ChangeMaps.setBlock],fun i hi=>Go.ChangeMaps.heap_setBlock_other hb _ (by omega)⟩
section
variable {w w' w1:World} {T T':TypeId->Prop}
theorem Kd.trans (h:Kd T w w1) (k:Kd T w1 w'):Kd T w w':=fun b cs t fz hb ht=>k b cs t fz (h b cs t fz hb ht) ht
theorem Kd.below (h:Below w.heap.size w w'):Kd T w w':=fun _ _ _ _ hb _=>qp hb h (qh hb)
theorem Kd.set {g j:Nat} {cs:Array Value} {t:TypeId} {fz:Nat×Nat} (hg:w.heap[g]?=some (.cells cs t fz)) (ht:T t) (v:Value):Kd T w (w.setCell ⟨g,j,none⟩ v):=fun b cs' t' fz' hb hT=>qK hb (by
 rintro rfl;rw[hg] at hb;simp only[Option.some.injEq,Obj.cells.injEq] at hb;exact hT (hb.2.1▸ht))
theorem Kd.turned {b:Nat} (h:w.mapTurned w' b):Kd T w w':=fun k cs t fz hk _=>(xH h (by
 rintro rfl;obtain⟨es,c,es',c',hb,-⟩:=h;rw[hb] at hk;cases hk)).trans hk
theorem KmAll.trans (h:KmAll w w1) (k:KmAll w1 w'):KmAll w w':=fun b es c hb=>k b es c (h b es c hb)
theorem KmAll.below (h:Below w.heap.size w w'):KmAll w w':=fun _ _ _ hb=>qp hb h (qh hb)
theorem KmAll.set {g j:Nat} {cs:Array Value} {t:TypeId} {fz:Nat×Nat} (hg:w.heap[g]?=some (.cells cs t fz)) (v:Value):KmAll w (w.setCell ⟨g,j,none⟩ v):=fun b es c hb=>qK hb (by
 rintro rfl;rw[hg] at hb;cases hb)
theorem qq.kd {α:Type} {f:α->List Value} {e:TypeId} {sz B:Nat} {v:Value} {l:List α} (h:qq f e sz w B v l) (hk:Kd T w w') (he:¬T e):qq f e sz w' B v l:=by
 obtain⟨h1,h2⟩:=h;refine⟨h1,?_⟩;rcases h2 with h2|⟨g,cap,cur,rfl,hg,hh,r⟩
 ·exact .inl h2
 ·exact .inr ⟨g,cap,cur,rfl,hg,hk g cur e _ hh he,r⟩
theorem xu.kd {B:Nat} {v:Value} {l:List (List (List Ac))} (h:xu w B v l) (hk:Kd T w w') (h0:¬T 79) (h1:¬T 80) (h2:¬T 118):xu w' B v l:=
 h.map (fun _ h=>qq.kd h hk h0) (fun _ _ h=>h.map (fun _ h=>qq.kd h hk h1) (fun _ _ h=>qq.kd h hk h2))
theorem Kd.mono {T T':TypeId->Prop} (h:Kd T w w') (hT:∀t,T t->T' t):Kd T' w w':=fun k cs t fz hk ht=>h k cs t fz hk fun e=>ht (hT t e)
theorem Kd.grw {β:Type} {f1:β->List Value} {e1:TypeId} {sz1 B1:Nat} {v1 v2:Value} {l1:List β} (h1:qq f1 e1 sz1 w B1 v1 l1) (hb:Grw w w' v1 v2):Kd (fun t=>t=e1) w w':=fun k cs t fz hk ht=>qQ hk hb (qq.neT h1 hk ht)
end
theorem flat_set1:∀(l:List Value) (k:Nat) (u:Value),(l.flatMap yz).set k u=(l.set k u).flatMap yz:=fun l k u=>by rw[flat_val,flat_val]
theorem flat_set2 {α:Type} {f:α->List Value} (hf:∀x,(f x).length=2) {u:α} {a b:Value} (hu:f u=[a,b]):∀(l:List α) (k:Nat),((l.flatMap f).set (k*2) a).set (k*2+1) b=(l.set k u).flatMap f
 |[],k=>by simp
 |x::l,0=>by
  have h:=hf x
  match hx:f x,h with
  |[p,q],_=>simp[hx,hu]
 |x::l,k+1=>by
  have ih:=flat_set2 hf hu l k;have h:=hf x
  match hx:f x,h with
  |[p,q],_=>
   rw[show (k+1)*2=k*2+1+1 by omega];simp[hx,ih]
theorem own_set1 {e:TypeId} {w:World} {B g n c:Nat} {l:List Value} (h:qq yz e 1 w B (.slice (some ⟨g,0,none⟩) n c) l) (u:Value) (k:Nat):qq yz e 1 (w.setCell ⟨g,k,none⟩ u) B (.slice (some ⟨g,0,none⟩) n c) (l.set k u):=by
 have hn:=h.len;subst hn;have:=xR h k u;rw[flat_set1] at this;unfold qq;rw[List.length_set];exact this
theorem flat_setN {α:Type} {f:α->List Value} {n:Nat} (hf:∀x,(f x).length=n) {u c:α} {a:Value} {j:Nat} (hj:j < n) (hu:f u=(f c).set j a):∀(l:List α) (k:Nat),l[k]?=some c->(l.flatMap f).set (k*n+j) a=(l.set k u).flatMap f
 |[],k,h=>by simp at h
 |x::l,0,h=>by
  obtain rfl:x=c:=by simpa using h
  simp only[List.flatMap_cons,List.set_cons_zero,Nat.zero_mul,Nat.zero_add,hu];rw[List.set_append_left _ _ (by rw[hf];exact hj)]
 |x::l,k+1,h=>by
  have ih:=flat_setN hf hj hu l k (by simpa using h);simp only[List.flatMap_cons,List.set_cons_succ];have e:(k+1)*n=k*n+n:=Nat.succ_mul k n;rw[List.set_append_right _ _ (by rw[hf,e];omega),hf,show(k+1)*n+j - n=k*n+j by rw[e];omega,ih]
theorem own_setN {α:Type} {f:α->List Value} {e:TypeId} {w:World} {B g n m c:Nat} {l:List α} (h:qq f e n w B (.slice (some ⟨g,0,none⟩) m c) l) (hf:∀x,(f x).length=n) {u x:α} {a:Value} {j:Nat} (hj:j < n) {k:Nat} (hk:l[k]?=some x) (hu:f u=(f x).set j a):
  qq f e n (w.setCell ⟨g,k*n+j,none⟩ a) B (.slice (some ⟨g,0,none⟩) m c) (l.set k u):=by
 have hn:=h.len;subst hn;have:=xR h (k*n+j) a;rw[flat_setN hf hj hu l k hk] at this;unfold qq;rw[List.length_set];exact this
theorem zeroI (w:World):(zeroValue 3).run Tryz.prog w=.ok (.int .i64 0) w:=by kernel_rfl
abbrev keyI:KeyT Tryz.prog 3 (.int .i64) (.int .i64) dI:=keyT_int Tryz.underlying3
theorem lookOkI {w:World} {f n:Nat} {F:MI} (h:IsMI w f n F) (hd:KDom dI F) {a:Int} (ha:dI a) {r:Option Int} (hf:yZ a F=r):(Instr.lookup 133 (.map (some f)) (.int .i64 a) true).run Tryz.prog w=.ok (.tuple #[.int .i64 (r.getD 0),.bool r.isSome]) w:=by
 have:=h.lookOk keyI elem_int hd Tryz.underlying133 (zeroI w) ha;rw[this,hf];cases r <;> rfl
theorem dI_small {x:Int} (h0:0<=x) (h1:x < 4):dI x:=by
 unfold dI Lit.wf;simp[IntKind.min,IntKind.max,IntKind.bits,IntKind.signed];omega
theorem xF.tight {P:Program} {K:TypeId} {R:RdU} {kl:Int->Lit} {ε:Type} {ed:ε->DU} {w:World} {b n:Nat} {M:List (Int×ε)} (h:xF P K R kl ed w b n M):xF P K R kl ed w b M.length M:=by
 obtain⟨es,c,hb,F,hs,hD⟩:=h;refine⟨es,c,hb,F,?_,hD⟩;have:=congrArg Maps.size hD;rw[mapD_size] at this;simp only[Maps.size,length_sorted,List.length_map,Array.length_toList] at this;omega
theorem KCe.upd {ε:Type} {r:List (Int×ε)} (h:KCe r) {a:Int} {v:ε} (h0:0<=a) (h1:a < 4):KCe (upd a v r):=fun p hp=>by
 rcases keys_upd.1 ⟨p.2,hp⟩ with e|⟨u,hu⟩
 ·rw [e];exact⟨h0,h1⟩
 ·exact h (p.1,u) hu
theorem KeepsN.both {N:Nat} {W X Y:World} (h1:RN.KeepsN N W X) (h2:RN.KeepsN N W Y) (hs:X.heap.size<=Y.heap.size):RN.KeepsN N X Y:=⟨hs,fun k hk=>(h2.2 k hk).trans (h1.2 k hk).symm⟩
theorem isMI_new {w:World} {b:Nat} (h:w.heap[b]?=some (.map #[] 0)):IsMI w b 0 []:=by
 obtain⟨es,c,h1,h2⟩:IsMI (w.alloc (.map #[] 0)) w.heap.size 0 []:=xF.made w;rw[qy] at h1;obtain⟨rfl,rfl⟩:#[]=es/\0=c:=by simpa using h1
 exact⟨_,_,h,h2⟩
theorem isMB_new {w:World} {b:Nat} (h:w.heap[b]?=some (.map #[] 0)):IsMB w b 0 []:=by
 obtain⟨es,c,h1,h2⟩:IsMB (w.alloc (.map #[] 0)) w.heap.size 0 []:=xF.made w;rw[qy] at h1;obtain⟨rfl,rfl⟩:#[]=es/\0=c:=by simpa using h1
 exact⟨_,_,h,h2⟩
section
variable {α:Type} {f:α->List Value} {e:TypeId} {sz B:Nat} {P:Program} {o:Oper} {a:Act} {Q:Exit->Act->World->Prop}
theorem wpList_makeN {ops:Array Oper} {rest:List Oper} (hgd:o.guard=none) (s c:Operand) (t:TypeId) (ho:o.op=.makeSlice t s c) (z:Value) (bytes:Nat) (ht:P.underlying t=some (.slice e)) (hinfo:(P.info? e).map (fun i=>(i.zero,i.size,i.bytes))=some (some z,sz,bytes))
  {w:World} {n:Nat} (hs:a.eval s=.int .i64 n) (hc:a.eval c=.int .i64 n) (hn:n<=9223372036854775807) (hby:bytes*n<=140737488355328) (hB:B<=w.heap.size) (x:α) (hx:f x=z.cells.toList) (hz:z.cells.size=sz) (h0:0 < sz)
  (hK:∀w',qq f e sz w' B (.slice (some ⟨w.heap.size,0,none⟩) n n) (List.replicate n x)->Below w.heap.size w w'->w.heap.size+1<=w'.heap.size->wpList P ops Q rest (a.put o.dst (.slice (some ⟨w.heap.size,0,none⟩) n n)) w'):
  wpList P ops Q (o::rest) a w:=
 wpList_plain hgd fun _ hK'=>wp_makeN s c t ho z bytes ht hinfo hs hc hn hby hB x hx hz h0 fun w' h1 h2 h3=>hK' _ _ (hK w' h1 h2 h3)
end
section
variable {w w':World} {ve:Value} {P:Pg}
theorem DrAt.base {B B' bD bW gT gN:Nat} {vc vt pc pt rf:Value} {S:yk} {nx:List Value} (h:DrAt w B bD bW gT gN vc vt ve pc pt rf P S nx) (hB:B'<=B):DrAt w B' bD bW gT gN vc vt ve pc pt rf P S nx:=
 ⟨h.row,Nat.le_trans hB h.hB,h.walk.base hB,qq.base h.pcells hB,h.pthr.map2 hB (fun _ h=>qq.base h hB) (fun _ h=>qq.base h hB) (fun _ _ h=>qq.base h hB),qq.base h.next hB⟩
theorem wDone_in {S:yk} {i:Int} (hl:S.ths.length=P.threads.length) (h:ye P S i=false):∃k:Nat,i=k/\k < P.threads.length:=by
 unfold ye at h
 split at h
 ·cases h
 ·split at h
  ·rename_i h1 t h2
   refine⟨i.toNat,by omega,?_⟩;have:=(List.getElem?_eq_some_iff.1 h2).1;omega
  ·cases h
end
def upI (n:Nat):List Int:=(List.range n).map fun i:Nat=>(i:Int)
theorem upI_succ (n:Nat):upI (n+1)=upI n++[(n:Int)]:=by simp[upI,List.range_succ]
end
