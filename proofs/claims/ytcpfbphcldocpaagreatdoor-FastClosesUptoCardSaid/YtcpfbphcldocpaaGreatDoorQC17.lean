/- Parts of the proof; the first: Which transactions count; which is really ahead of which. Conditions: those of each theorem, as typed. -/
import Derived.Test.YtcpfbphcldocpaaGreatDoorQC04
import Derived.Test.YtcpfbphcldocpaaGreatDoorQC12
import Derived.Test.YtcpfbphcldocpaaGreatDoorQC01
import Derived.Shelf.Slices.Delete
import Derived.Ground.Names2Prog
import Derived.Test.YtcpfbphcldocpaaGreatDoorProg
import Derived.Test.YtcpfbphcldocpaaGreatDoorChecked
import Derived.Test.YtcpfbphcldocpaaGreatDoorQC03
import Derived.RangeFuncNested
import Derived.RangeFuncBound
import Derived.RangeFuncCalls
import Derived.RangeFuncLeaves
import Derived.Shelf.Abstract
import Derived.WalkKit
import Derived.OwnWalkIn
import Derived.TacticsInMore
import Derived.LoopNIn
import Derived.LoopIn
set_option linter.unusedVariables false
set_option linter.unusedSimpArgs false
set_option linter.unusedSectionVars false
set_option maxRecDepth 100000
set_option maxHeartbeats 4000000
namespace Go.Proofs.YtcpfbphcldocpaaGreatDoor
open Go.Maps Go.RowKit Go.Shelf
section
attribute [local irreducible] xL
def cntL (lev st:Int):Bool:=if lev=1\/lev=2 then decide (st=3\/st=2) else decide (lev=3)
theorem cntd_L (lev:Int) (s:St):Mh lev s=cntL lev s.status:=rfl
theorem Kh (lev:Int) (hl:lev=1\/lev=2\/lev=3) (i th st be fi tr:Int) (a:Option Addr) (n c:Nat) (w:World):
  Calls Tryz.prog 61 #[.agg #[.int .i64 i,.int .i64 th,.int .i64 st,.int .i64 be,.int .i64 fi,.int .i64 tr,.slice a n c],.int .i64 lev] w fun e w'=>e=.returned (.bool (cntL lev st))/\Below w.heap.size w w':=by
 have b0:Below w.heap.size w (w.alloc (.cells #[.int .i64 i,.int .i64 th,.int .i64 st,.int .i64 be,.int .i64 fi,.int .i64 tr,.slice a n c] 49)):=(Below.refl _ w).alloc (Nat.le_refl _) _;go_enter Tryz.func61,Tryz.ntmps61;rcases hl with rfl|rfl|rfl
 ·by_cases h3:st=3
  ·subst h3
   go_wp2_with fail;go_ret;exact⟨rfl,b0⟩
  ·have q3:(st==3)=false:=by simpa using h3
   go_wp2_with fail;go_ret;refine⟨?_,b0⟩;simp[cntL,h3];rfl
 ·by_cases h3:st=3
  ·subst h3
   go_wp2_with fail;go_ret;exact⟨rfl,b0⟩
  ·have q3:(st==3)=false:=by simpa using h3
   go_wp2_with fail;go_ret;refine⟨?_,b0⟩;simp[cntL,h3];rfl
 ·go_wp2_with fail
  go_ret;exact⟨rfl,b0⟩
theorem No (i th st be fi tr:Int) (a:Option Addr) (n c:Nat) (i2 th2 st2 be2 fi2 tr2:Int) (a2:Option Addr) (n2 c2:Nat) (w:World):
  Calls Tryz.prog 118 #[.agg #[.int .i64 i,.int .i64 th,.int .i64 st,.int .i64 be,.int .i64 fi,.int .i64 tr,.slice a n c],.agg #[.int .i64 i2,.int .i64 th2,.int .i64 st2,.int .i64 be2,.int .i64 fi2,.int .i64 tr2,.slice a2 n2 c2]] w fun e w'=>e=.returned (.bool (decide (0<=fi)&&decide (fi < be2)))/\Below w.heap.size w w':=by
 have b0:Below w.heap.size w ((w.alloc (.cells #[.int .i64 i,.int .i64 th,.int .i64 st,.int .i64 be,.int .i64 fi,.int .i64 tr,.slice a n c] 49)).alloc (.cells #[.int .i64 i2,.int .i64 th2,.int .i64 st2,.int .i64 be2,.int .i64 fi2,.int .i64 tr2,.slice a2 n2 c2] 49)):=((Below.refl _ w).alloc (Nat.le_refl _) _).alloc (by simp) _;go_enter Tryz.func118,Tryz.ntmps118;by_cases h:0<=fi
 ·have q:decide (0<=fi)=true:=by simpa using h
  go_wp2_with fail;go_ret;refine⟨?_,b0⟩;simp[h]
 ·have q:decide (0<=fi)=false:=by simpa using h
  go_wp2_with fail;go_ret;refine⟨?_,b0⟩;simp[h]
end
def del_ren:Go.Shelf.Ren:=⟨fun|23=>112|n=>n,fun|22=>30|3=>3|4=>4|0=>0|n=>n,fun|n=>n⟩
theorem del23:Go.Proofs.Lays2.n23 Tryz.prog del_ren:={
 mixed:=by kernel_rfl
 f23:=Tryz.func112.trans (congrArg some (by kernel_rfl))
 t0:=Tryz.underlying0
 a0:=Tryz.isAgg0
 z0:=Tryz.sizeOf0
 v0:=Tryz.zeroValue0
 t3:=Tryz.underlying3
 a3:=Tryz.isAgg3
 z3:=Tryz.sizeOf3
 v3:=Tryz.zeroValue3
 t4:=Tryz.underlying4
 a4:=Tryz.isAgg4
 z4:=Tryz.sizeOf4
 v4:=Tryz.zeroValue4
 t22:=Tryz.underlying30
 a22:=Tryz.isAgg30
 z22:=Tryz.sizeOf30
 v22:=Tryz.zeroValue30
 i3:=by kernel_rfl}
def vL (u:Int×Bool):List Value:=[.int .i64 u.1,.bool u.2]
theorem Za (u:Int×Bool):(vL u).length=2:=rfl
theorem Wt:(Tryz.prog.info? 87).map (fun i=>(i.zero,i.size,i.bytes))=some (some (.agg #[.int .i64 0,.bool false]),2,16):=by kernel_rfl
theorem VF (u:Int×Bool):∀x ∈ vL u,x.oneCell'=true:=by intro x hx;simp[vL] at hx;rcases hx with rfl|rfl <;> rfl
section
attribute [local irreducible] xL
def WN (w:World) (r:Option Au) (e:Ending) (w':World):Prop:=match r with
 |some A=>∃v,e=.returned (.tuple #[v,.nilIface])/\zw w' w.heap.size v A/\Below w.heap.size w w'
 |none=>(∃t x,e=.returned (.tuple #[.slice none 0 0,.iface t x]))/\Below w.heap.size w w'
theorem QI:∀{l:List Ev} {A A':Au} {n m:Nat},ye A n l=some A'->(A.length<=m/\∀s ∈ A,s.deeds.length<=m)->A'.length<=m+l.length/\∀s ∈ A',s.deeds.length<=m+l.length
 |[],A,A',n,m,h,hb=>by
  simp only[ye,Option.some.injEq] at h;subst h;exact hb
 |e::l,A,A',n,m,h,hb=>by
  simp only[ye] at h;cases hs:zu A n e with
  |none=>rw[hs] at h;cases h
  |some A1=>
   rw[hs] at h;have:=QI (l:=l) h (Ym hs hb);simp only[List.length_cons];rw[show m+(l.length+1)=m+1+l.length by omega];exact this
theorem Xa {os:List Ob} {es:List Ev} (A:Au) (h:qN os es=some A):A.length<=400/\∀s ∈ A,s.deeds.length<=400:=by
 unfold qN at h
 split at h
 ·rename_i hh
  have hl:es.length<=400:=by
   unfold xJ at hh;simp only[Bool.and_eq_true,decide_eq_true_eq] at hh;exact hh.1.1.2
  have:=QI (m:=0) h ⟨by simp,fun s hs=>(nomatch hs)⟩;exact⟨by omega,fun s hs=>by have:=this.2 s hs;omega⟩
 ·cases h
theorem g_Table (ov vv:Value) (os:List Ob) (es:List Ev) (w:World) (ho:Sl w w.heap.size 2 ov os.length (os.flatMap Ob.cells)) (he:Sl w w.heap.size 8 vv es.length (es.flatMap Ev.cells)) (hod:∀o ∈ os,dI o.kind) (hed:∀e ∈ es,dI e.ret) (hW:xg w) (hG:jn w):
  Calls Tryz.prog 13 #[.agg #[ov,vv]] w (WN w (qN os es)):=by
 obtain⟨ao,co,rfl,mo⟩:=ho.ex;obtain⟨ae,ce,rfl,me⟩:=he.ex;have b0:Below w.heap.size w (w.alloc (.cells #[.slice ao os.length co,.slice ae es.length ce] 25)):=(Below.refl _ w).alloc (Nat.le_refl _) _;have hz0:w.heap.size < (w.alloc (.cells #[.slice ao os.length co,.slice ae es.length ce] 25)).heap.size:=by simp
 have hT:=g_taken (.slice ao os.length co) (.slice ae es.length ce) os es _ ((ho.below b0).more b0.size) ((he.below b0).more b0.size) hod hed (hW.below b0) (hG.below b0);unfold Qo at hT;have hbd:=Xa (os:=os) (es:=es);generalize qN os es=R at *;have hT:=qd hT;have B0:=qd b0;clear ho he hod hed hW b0 hG;go_enter Tryz.func13,Tryz.ntmps13;go_wp2_with fail;generalize w.alloc (.cells #[.slice ao os.length co,.slice ae es.length ce] 25)=W at *;cases R with
 |none=>
  refine(hT.o).mono ?_;rintro e W1 ⟨⟨te,xe,rfl⟩,b1⟩;have B1:=qd (B0.o.trans (b1.mono B0.o.size));clear b1 hT;go_wp2;refine bodyPost_ret (v:=.tuple #[.slice none 0 0,.iface te xe]) (by simp[results,Tryz.results13,go_sem]) rfl ?_;exact⟨⟨_,_,rfl⟩,B1.o⟩
 |some A=>
  obtain⟨hA,hdl⟩:=hbd A rfl;clear hbd;refine(hT.o).mono ?_;rintro e W1 ⟨bA,rfl,hA1,b1⟩;have hz1:=b1.size;have hTx:=qd (sh_Txs W1 hA1 (by omega) fun s hs=>by have:=hdl s hs;omega);have B1:=qd (B0.o.trans (b1.mono B0.o.size));clear b1 hA1 hT hdl;go_wp2_with fail;refine(hTx.o).mono ?_;rintro e W2 ⟨v,rfl,ht,b2⟩;have HT:=qd (ht.base (show w.heap.size<=W1.heap.size by omega));have B2:=qd (B1.o.trans (b2.mono (by omega)));clear hTx b2 ht;obtain⟨rs,hv,r⟩:=HT.o;obtain⟨a,c,rfl⟩:=qj.slv hv;clear hv r;go_wp2;refine bodyPost_ret (v:=.tuple #[.slice a rs.length c,.nilIface]) (by simp[results,Tryz.results13,go_sem]) rfl ?_;exact⟨_,rfl,HT.o,B2.o⟩
theorem sh_Find (v:Value) (A:Au) (x:Int) (B:Nat) (w:World) (h:zw w B v A) {k:Nat} {s:St} (hs:A[k]?=some s) (hx:s.id=x) (hn:∀(j:Nat) (t:St),j < k->A[j]?=some t->t.id≠x):
  Calls Tryz.prog 14 #[v,.int .i64 x] w fun e w'=>e=.returned (.tuple #[.int .i64 k,.bool true])/\Below w.heap.size w w':=by
 obtain⟨rs,hv,hvl,hvc⟩:=h;obtain⟨a,c,rfl⟩:=qj.slv hv;have hkl:=(List.getElem?_eq_some_iff.1 hs).1;have hbig:A.length<=9223372036854775807:=by
  obtain⟨_,_,_,hb⟩:=qj.form2 hv;omega
 have HV:=qd hv;have HVC:=qd hvc;have HN:=qd hn;have HS:=qd hs;clear hv hvc hn hs;go_enter Tryz.func14,Tryz.ntmps14;go_wp2_with fail;obtain⟨W,rfl⟩:∃W,W=w:=⟨_,rfl⟩
 go_loopw [10] (fun p wr=>∃i:Nat,i<=k/\p=.int .i64 i/\Below W.heap.size W wr) (fun p _=>k - (intOf p).toNat)
 case atStart=>exact⟨0,by omega,by go_num,Below.refl _ _⟩
 case round=>
  obtain⟨i,hi,rfl,hB⟩:=hrel;have hz:=hB.size;have HB:=qd hB;clear hB;have hil:i < rs.length:=by omega
  obtain⟨b,off,r,hat,hb,hr,hc⟩:=(qj.sl HV.o).atF YQ.len rfl hil;have c0:=qp HB.o hb (hc 0 (by decide));have c1:=qp HB.o hb (hc 1 (by decide));have c2:=qp HB.o hb (hc 2 (by decide));have c3:=qp HB.o hb (hc 3 (by decide));have c4:=qp HB.o hb (hc 4 (by decide));have c5:=qp HB.o hb (hc 5 (by decide));have c6:=qp HB.o hb (hc 6 (by decide));obtain⟨t,ht⟩:∃t,A[i]?=some t:=⟨_,List.getElem?_eq_getElem (by omega)⟩
  have hro:=(HVC.o i r t hr ht).1.1;obtain⟨dA,dC,hdv⟩:=qj.slv (HVC.o i r t hr ht).2;obtain⟨rid,rth,rst,rbe,rfi,rtr,rdv⟩:=r;simp only at hro hdv;subst hdv;simp at c0 c1 c2 c3 c4 c5 c6;have hbw:b < wr.heap.size:=by omega
  subst hat;clear hr hc;by_cases hik:i=k
  ·subst hik
   have e1:rid=x:=by
    rw[HS.o] at ht;obtain rfl:=Option.some.inj ht;rw[hro,hx]
   subst e1;clear ht;go_wp2;refine bodyPost_ret (v:=.tuple #[.int .i64 i,.bool true]) (by simp[results,Tryz.results14,go_sem]) rfl ?_;exact⟨rfl,HB.o.alloc hz _⟩
  ·have e1:(rid==x)=false:=by
    have:=HN.o i t (by omega) ht;rw[←hro] at this;simpa using this
   clear ht;go_wp2_with fail;go_roundw
   case rel=>exact⟨i+1,by omega,by go_num,HB.o.alloc hz _⟩
   case measure=>simp[intOf];omega
end
def Mn (A:Au):Prop:=∀s ∈ A,∀d ∈ s.deeds,d.op=1\/d.op=2
theorem KS {n:Nat} {e:Ev} {s s':St} (hm:xB n e s=some s') (h:∀d ∈ s'.deeds,d.op=1\/d.op=2):∀d ∈ s.deeds,d.op=1\/d.op=2:=by
 rcases xR hm with⟨-,-,rfl⟩|⟨-,-,d,hd,-,rfl⟩|⟨-,-,rfl⟩|⟨-,-,rfl⟩|⟨-,-,rfl⟩|⟨-,-,rfl⟩
 ·exact fun d hd=>h d (by simp[uB,hd])
 ·have e1:yW e.ret e.val n s={s with stand:=1,deeds:=s.deeds.dropLast++[us d e.ret e.val n]}:=by unfold yW;rw[hd]
  rw[e1] at h;have hl:=Vp hd;intro x hx;rw[hl] at hx;rcases List.mem_append.1 hx with hx|hx
  ·exact h x (by simp[hx])
  ·rw [List.mem_singleton.1 hx]
   exact h (us d e.ret e.val n) (by simp)
 ·exact h
 ·exact h
 ·exact h
 ·exact h
theorem Mn.back {A A':Au} {n:Nat} {e:Ev} (hs:zu A n e=some A') (h:Mn A'):Mn A:=by
 rcases xP hs with⟨-,-,-,rfl⟩|⟨k,s,s',-,hk,-,hm,rfl⟩
 ·exact fun s hs=>h s (by simp[hs])
 ·intro t ht
  obtain⟨j,hj⟩:=List.mem_iff_getElem?.1 ht;by_cases e:k=j
  ·subst e
   rw[hk] at hj;obtain rfl:=Option.some.inj hj;exact KS hm (h s' (vd hk))
  ·exact h t (List.mem_iff_getElem?.2 ⟨j,by rw[List.getElem?_set_ne e];exact hj⟩)
theorem move_reg {n:Nat} {e:Ev} {s s':St} (hm:xB n e s=some s') (h:∀d ∈ s.deeds,d.op=1\/d.op=2):js n e s=some s':=by
 rcases xR hm with⟨h1,h2,rfl⟩|⟨h1,h2,d,hd,hf,rfl⟩|⟨h1,h2,rfl⟩|⟨h1,h2,rfl⟩|⟨h1,h2,rfl⟩|⟨h1,h2,rfl⟩
 ·simp [js,h1,h2,uB]
 ·have hop:=h d (List.mem_of_getLast? hd)
  have hr:Uu d.op e.ret:=by
   rcases hop with e1|e1 <;> rw[e1] at hf ⊢ <;> simp[vy,yV] at hf <;> simp[Uu,hf]
  unfold js;rw[if_neg (by omega),if_pos h1,if_pos h2,hd];simp only;rw[if_pos hr];unfold yW;rw[hd];rfl
 ·simp [js,h1,h2,UH]
 ·simp [js,h1,h2,Qr]
 ·simp [js,h1,h2,Qr]
 ·simp [js,h1,h2,Vr]
theorem ZI:∀(m:Nat) {es:List Ev} {A:Au},es.length=m->ye [] 0 es=some A->Mn A->Fed es A
 |0,es,A,hm,h,_=>by
  obtain rfl:=List.length_eq_zero_iff.1 hm;simp only[ye,Option.some.injEq] at h;subst h;exact .nil
 |m+1,es,A,hm,h,hr=>by
  have hne:es≠[]:=by rintro rfl;simp at hm
  obtain⟨l,e,rfl⟩:∃l e,es=l++[e]:=⟨es.dropLast,es.getLast hne,(List.dropLast_concat_getLast hne).symm⟩
  rw[Qg] at h;cases h0:ye [] 0 l with
  |none=>rw[h0] at h;cases h
  |some A0=>
   rw[h0] at h;simp only[Option.bind_some,Nat.zero_add] at h;have hr0:=hr.back h;have hf:=ZI m (by simpa using hm) h0 hr0;refine .snoc hf ?_;rcases xP h with⟨hk,h1,h2,rfl⟩|⟨k,s,s',hk,hs,hi,hmv,rfl⟩
   ·exact .begin hk h1 h2
   ·exact .move k s s' hk hs hi (move_reg hmv (hr0 s (List.mem_of_getElem? hs)))
theorem NU {os:List Ob} {es:List Ev} {A:Au} (h:qN os es=some A) (hr:Mn A):Fed es A:=by
 unfold qN at h
 split at h
 ·exact ZI _ rfl h hr
 ·cases h
section
attribute [local irreducible] xL
theorem Ve (ov ev:Value) (os:List Ob) (es:List Ev) (w:World) (ho:Sl w w.heap.size 2 ov os.length (os.flatMap Ob.cells)) (he:Sl w w.heap.size 8 ev es.length (es.flatMap Ev.cells)) (hol:os.length<=100000) (hel:es.length<=100000):
  Calls Tryz.prog 34 #[.agg #[ov,ev]] w (XJ os es w):=by
 obtain⟨ao,co,rfl,mo⟩:=ho.ex;obtain⟨ae,ce,rfl,me⟩:=he.ex;have b0:Below w.heap.size w ((w.alloc (.cells #[.slice ao os.length co,.slice ae es.length ce] 25)).alloc (.cells #[.slice none 0 0,.slice none 0 0] 25)):=((Below.refl _ w).alloc (Nat.le_refl _) _).alloc (by simp) _;have r0:=qy (o:=.cells #[.slice none 0 0,.slice none 0 0] 25) (qs w (.cells #[.slice ao os.length co,.slice ae es.length ce] 25));have r1:=qX (w:=w.alloc (.cells #[.slice ao os.length co,.slice ae es.length ce] 25)) (o:=.cells #[.slice none 0 0,.slice none 0 0] 25) (g:=w.heap.size+1) (by simp);have z0:((w.alloc (.cells #[.slice ao os.length co,.slice ae es.length ce] 25)).alloc (.cells #[.slice none 0 0,.slice none 0 0] 25)).heap.size=w.heap.size+2:=by simp
 have HO:=qd ho;have HE:=qd he;clear ho he;go_enter Tryz.func34,Tryz.ntmps34;go_wp2_with fail;generalize (w.alloc (.cells #[.slice ao os.length co,.slice ae es.length ce] 25)).alloc (.cells #[.slice none 0 0,.slice none 0 0] 25)=W at *;have B0:=qd b0;have R0:=qd r0;have R1:=qd r1;have d0:=qa r0 0;have d1:=qa r0 1;simp at d0 d1;have lw:w.heap.size < W.heap.size:=by omega
 clear b0 r0 r1;refine qD (W.heap.size) [0,1,0,3,0,1,3,0,1,0,3,0,1,3,0,2] (.frk [0,1,2,4,5,7,8,9,11,12] (.frk [3] (.fin [6,10,13,14,15]) (.fin [10,6,13,14,15])) (.fin [10,3,6,13,14,15])) (by kernel_rfl) ?_;simp only[xC,qJ,qu,sD,sE,sF,sG]
 repeat first|(refine qq fun K hK=>?_;go_simp;refine hK _ _ ?_;clear hK K)|(apply qx;(intro w2 hw2;have hk1:=hw2.cell;have hk3:=hw2.1;clear hw2;go_simp;with_reducible rfl);simp only[Act.put,sA,sB,sC])|refine qz rfl rfl ?_|(refine qE rfl rfl fun K hK=>?_;simp only[Act.put,sA,sB,sC];refine hK _ _ ?_;clear hK K)|refine qm ?_
 have b0:Below W.heap.size W W.drew:=(Below.refl _ W).drew;have s0:=b0.size;refine⟨?_,?_⟩
 ·refine qC (fun K hK=>?_)
  refine jB (f:=Ob.cells) (e:=62) (sz:=2) (B:=W.heap.size) _ _ _ rfl _ 16 Tryz.underlying22 Ul rfl rfl (by first|omega|(simp <;> omega)) (by first|omega|(simp <;> omega)) (by first|omega|(simp <;> omega)) ?_;intro w1 o1A g1 z1;refine hK _ _ (RN.KeepsN.of_below (g1.mono (by have:=b0.size;omega))) ?_;clear hK K;have b1:Below W.heap.size W w1:=b0.trans (g1.mono b0.size);have s1:=b1.size
  repeat first|(refine qq fun K hK=>?_;go_simp;refine hK _ _ ?_;clear hK K)|(apply qx;(intro w2 hw2;have hk1:=hw2.cell;have hk3:=hw2.1;clear hw2;go_simp;with_reducible rfl);simp only[Act.put,sA,sB,sC])|refine qz rfl rfl ?_|(refine qE rfl rfl fun K hK=>?_;simp only[Act.put,sA,sB,sC];refine hK _ _ ?_;clear hK K)|refine qm ?_
  refine⟨?_,?_⟩
  ·refine qC (fun K hK=>?_)
   refine jw _ _ _ rfl _ 16 Tryz.underlying22 Ul rfl o1A os rfl ((HO.o.below B0.o).below (b1.mono (by omega))) (by first|omega|(simp <;> omega)) rfl rfl Ob.len US (by first|omega|(simp <;> omega)) (by first|omega|(simp <;> omega)) ?_;intro v2 w2 o2A g2;have g2b:=g2.below b1.size fun k h=>(o1A.lt k h).1;refine hK _ _ (RN.KeepsN.of_below g2b) ?_;clear hK K;obtain⟨a2,c2,rfl,-⟩:=qj.form2 (show qj Ob.cells 62 2 w2 W.heap.size v2 os from o2A);have o2A:qj Ob.cells 62 2 w2 W.heap.size (.slice a2 os.length c2) os:=o2A;have b2:Below W.heap.size W w2:=b1.trans g2b;have s2:=b2.size
   repeat first|(refine qq fun K hK=>?_;go_simp;refine hK _ _ ?_;clear hK K)|(apply qx;(intro w2 hw2;have hk1:=hw2.cell;have hk3:=hw2.1;clear hw2;go_simp;with_reducible rfl);simp only[Act.put,sA,sB,sC])|refine qz rfl rfl ?_|(refine qE rfl rfl fun K hK=>?_;simp only[Act.put,sA,sB,sC];refine hK _ _ ?_;clear hK K)|refine qm ?_
   refine qC (fun K hK=>?_);refine jB (f:=Ev.cells) (e:=69) (sz:=8) (B:=W.heap.size) _ _ _ rfl _ 64 Tryz.underlying23 ud rfl rfl (by first|omega|(simp <;> omega)) (by first|omega|(simp <;> omega)) (by first|omega|(simp <;> omega)) ?_;intro w3 o3B g3 z3;refine hK _ _ (RN.KeepsN.of_below (g3.mono (by have:=b2.size;omega))) ?_;clear hK K;have b3:Below W.heap.size W w3:=b2.trans (g3.mono b2.size);have s3:=b3.size;have o3A:=qj.below o2A g3
   repeat first|(refine qq fun K hK=>?_;go_simp;refine hK _ _ ?_;clear hK K)|(apply qx;(intro w2 hw2;have hk1:=hw2.cell;have hk3:=hw2.1;clear hw2;go_simp;with_reducible rfl);simp only[Act.put,sA,sB,sC])|refine qz rfl rfl ?_|(refine qE rfl rfl fun K hK=>?_;simp only[Act.put,sA,sB,sC];refine hK _ _ ?_;clear hK K)|refine qm ?_
   refine qC (fun K hK=>?_);refine jw _ _ _ rfl _ 64 Tryz.underlying23 ud rfl o3B es rfl ((HE.o.below B0.o).below (b3.mono (by omega))) (by first|omega|(simp <;> omega)) rfl rfl Ev.len ug (by first|omega|(simp <;> omega)) (by first|omega|(simp <;> omega)) ?_;intro v4 w4 o4B g4;have g4b:=g4.below b3.size fun k h=>(o3B.lt k h).1;refine hK _ _ (RN.KeepsN.of_below g4b) ?_;clear hK K;obtain⟨a4,c4,rfl,-⟩:=qj.form2 (show qj Ev.cells 69 8 w4 W.heap.size v4 es from o4B);have o4B:qj Ev.cells 69 8 w4 W.heap.size (.slice a4 es.length c4) es:=o4B;have b4:Below W.heap.size W w4:=b3.trans g4b;have s4:=b4.size;have o4A:=qj.grwT o3A o3B (by decide) g4;have OA:=qd o4A;have OB:=qd o4B;have BF:=qd b4;have zF:=b4.size;have RF:=qd (qh R1.o b4 (by omega));have y0:=qa RF.o 0;have y1:=qa RF.o 1;have yf:∀j,w4.frozen? ⟨w.heap.size+1,j,none⟩=false:=fun j=>qt RF.o j;have ly:=qe RF.o;clear g1 g2 g3 g4 b0 b1 b2 b3 b4 d0 d1 o1A o2A o3A o3B o4A o4B
   repeat first|(refine qq fun K hK=>?_;go_simp;refine hK _ _ ?_;clear hK K)|(apply qx;(intro w2 hw2;have hk1:=hw2.cell;have hk3:=hw2.1;clear hw2;go_simp;with_reducible rfl);simp only[Act.put,sA,sB,sC])|refine qz rfl rfl ?_|(refine qE rfl rfl fun K hK=>?_;simp only[Act.put,sA,sB,sC];refine hK _ _ ?_;clear hK K)|refine qm ?_
   refine qF (fun K hK=>?_);go_simp;refine hK _ _ ?_;clear hK K
   repeat first|(refine qq fun K hK=>?_;go_simp;refine hK _ _ ?_;clear hK K)|(apply qx;(intro w2 hw2;have hk1:=hw2.cell;have hk3:=hw2.1;clear hw2;go_simp;with_reducible rfl);simp only[Act.put,sA,sB,sC])|refine qz rfl rfl ?_|(refine qE rfl rfl fun K hK=>?_;simp only[Act.put,sA,sB,sC];refine hK _ _ ?_;clear hK K)|refine qm ?_
   go_wp2;have r4:=Nq (u1:=.slice a2 os.length c2) (u2:=.slice a4 es.length c4) RF.o;have c0:=qa r4 0;have c1:=qa r4 1;simp only[List.getElem?_toArray,List.getElem?_cons_zero,List.getElem?_cons_succ] at c0 c1;refine bodyPost_ret (v:=.agg #[.slice a2 os.length c2,.slice a4 es.length c4]) (by simp[results,Tryz.results34,go_sem,c0,c1]) rfl ⟨_,_,rfl,?_,?_,?_⟩
   ·exact qj.base (qj.box2 OA.o RF.o (by decide)) (by omega)
   ·exact qj.base (qj.box2 OB.o RF.o (by decide)) (by omega)
   ·exact ((B0.o.trans (BF.o.mono (by omega))).setCell (p:=⟨w.heap.size+1,0,none⟩) (by show w.heap.size<=w.heap.size+1;omega) _).setCell (p:=⟨w.heap.size+1,1,none⟩) (by show w.heap.size<=w.heap.size+1;omega) _
  ·refine qC (fun K hK=>?_)
   refine jB (f:=Ev.cells) (e:=69) (sz:=8) (B:=W.heap.size) _ _ _ rfl _ 64 Tryz.underlying23 ud rfl rfl (by first|omega|(simp <;> omega)) (by first|omega|(simp <;> omega)) (by first|omega|(simp <;> omega)) ?_;intro w2 o2B g2 z2;refine hK _ _ (RN.KeepsN.of_below (g2.mono (by have:=b1.size;omega))) ?_;clear hK K;have b2:Below W.heap.size W w2:=b1.trans (g2.mono b1.size);have s2:=b2.size;have o2A:=qj.below o1A g2
   repeat first|(refine qq fun K hK=>?_;go_simp;refine hK _ _ ?_;clear hK K)|(apply qx;(intro w2 hw2;have hk1:=hw2.cell;have hk3:=hw2.1;clear hw2;go_simp;with_reducible rfl);simp only[Act.put,sA,sB,sC])|refine qz rfl rfl ?_|(refine qE rfl rfl fun K hK=>?_;simp only[Act.put,sA,sB,sC];refine hK _ _ ?_;clear hK K)|refine qm ?_
   refine qC (fun K hK=>?_);refine jw _ _ _ rfl _ 16 Tryz.underlying22 Ul rfl o2A os rfl ((HO.o.below B0.o).below (b2.mono (by omega))) (by first|omega|(simp <;> omega)) rfl rfl Ob.len US (by first|omega|(simp <;> omega)) (by first|omega|(simp <;> omega)) ?_;intro v3 w3 o3A g3;have g3b:=g3.below b2.size fun k h=>(o2A.lt k h).1;refine hK _ _ (RN.KeepsN.of_below g3b) ?_;clear hK K;obtain⟨a3,c3,rfl,-⟩:=qj.form2 (show qj Ob.cells 62 2 w3 W.heap.size v3 os from o3A);have o3A:qj Ob.cells 62 2 w3 W.heap.size (.slice a3 os.length c3) os:=o3A;have b3:Below W.heap.size W w3:=b2.trans g3b;have s3:=b3.size;have o3B:=qj.grwT o2B o2A (by decide) g3
   repeat first|(refine qq fun K hK=>?_;go_simp;refine hK _ _ ?_;clear hK K)|(apply qx;(intro w2 hw2;have hk1:=hw2.cell;have hk3:=hw2.1;clear hw2;go_simp;with_reducible rfl);simp only[Act.put,sA,sB,sC])|refine qz rfl rfl ?_|(refine qE rfl rfl fun K hK=>?_;simp only[Act.put,sA,sB,sC];refine hK _ _ ?_;clear hK K)|refine qm ?_
   refine qC (fun K hK=>?_);refine jw _ _ _ rfl _ 64 Tryz.underlying23 ud rfl o3B es rfl ((HE.o.below B0.o).below (b3.mono (by omega))) (by first|omega|(simp <;> omega)) rfl rfl Ev.len ug (by first|omega|(simp <;> omega)) (by first|omega|(simp <;> omega)) ?_;intro v4 w4 o4B g4;have g4b:=g4.below b3.size fun k h=>(o3B.lt k h).1;refine hK _ _ (RN.KeepsN.of_below g4b) ?_;clear hK K;obtain⟨a4,c4,rfl,-⟩:=qj.form2 (show qj Ev.cells 69 8 w4 W.heap.size v4 es from o4B);have o4B:qj Ev.cells 69 8 w4 W.heap.size (.slice a4 es.length c4) es:=o4B;have b4:Below W.heap.size W w4:=b3.trans g4b;have s4:=b4.size;have o4A:=qj.grwT o3A o3B (by decide) g4;have OA:=qd o4A;have OB:=qd o4B;have BF:=qd b4;have zF:=b4.size;have RF:=qd (qh R1.o b4 (by omega));have y0:=qa RF.o 0;have y1:=qa RF.o 1;have yf:∀j,w4.frozen? ⟨w.heap.size+1,j,none⟩=false:=fun j=>qt RF.o j;have ly:=qe RF.o;clear g1 g2 g3 g4 b0 b1 b2 b3 b4 d0 d1 o1A o2A o2B o3A o3B o4A o4B
   repeat first|(refine qq fun K hK=>?_;go_simp;refine hK _ _ ?_;clear hK K)|(apply qx;(intro w2 hw2;have hk1:=hw2.cell;have hk3:=hw2.1;clear hw2;go_simp;with_reducible rfl);simp only[Act.put,sA,sB,sC])|refine qz rfl rfl ?_|(refine qE rfl rfl fun K hK=>?_;simp only[Act.put,sA,sB,sC];refine hK _ _ ?_;clear hK K)|refine qm ?_
   refine qF (fun K hK=>?_);go_simp;refine hK _ _ ?_;clear hK K
   repeat first|(refine qq fun K hK=>?_;go_simp;refine hK _ _ ?_;clear hK K)|(apply qx;(intro w2 hw2;have hk1:=hw2.cell;have hk3:=hw2.1;clear hw2;go_simp;with_reducible rfl);simp only[Act.put,sA,sB,sC])|refine qz rfl rfl ?_|(refine qE rfl rfl fun K hK=>?_;simp only[Act.put,sA,sB,sC];refine hK _ _ ?_;clear hK K)|refine qm ?_
   go_wp2;have r4:=Nq (u1:=.slice a3 os.length c3) (u2:=.slice a4 es.length c4) RF.o;have c0:=qa r4 0;have c1:=qa r4 1;simp only[List.getElem?_toArray,List.getElem?_cons_zero,List.getElem?_cons_succ] at c0 c1;refine bodyPost_ret (v:=.agg #[.slice a3 os.length c3,.slice a4 es.length c4]) (by simp[results,Tryz.results34,go_sem,c0,c1]) rfl ⟨_,_,rfl,?_,?_,?_⟩
   ·exact qj.base (qj.box2 OA.o RF.o (by decide)) (by omega)
   ·exact qj.base (qj.box2 OB.o RF.o (by decide)) (by omega)
   ·exact ((B0.o.trans (BF.o.mono (by omega))).setCell (p:=⟨w.heap.size+1,0,none⟩) (by show w.heap.size<=w.heap.size+1;omega) _).setCell (p:=⟨w.heap.size+1,1,none⟩) (by show w.heap.size<=w.heap.size+1;omega) _
 ·refine qC (fun K hK=>?_)
  refine jB (f:=Ev.cells) (e:=69) (sz:=8) (B:=W.heap.size) _ _ _ rfl _ 64 Tryz.underlying23 ud rfl rfl (by first|omega|(simp <;> omega)) (by first|omega|(simp <;> omega)) (by first|omega|(simp <;> omega)) ?_;intro w1 o1B g1 z1;refine hK _ _ (RN.KeepsN.of_below (g1.mono (by have:=b0.size;omega))) ?_;clear hK K;have b1:Below W.heap.size W w1:=b0.trans (g1.mono b0.size);have s1:=b1.size
  repeat first|(refine qq fun K hK=>?_;go_simp;refine hK _ _ ?_;clear hK K)|(apply qx;(intro w2 hw2;have hk1:=hw2.cell;have hk3:=hw2.1;clear hw2;go_simp;with_reducible rfl);simp only[Act.put,sA,sB,sC])|refine qz rfl rfl ?_|(refine qE rfl rfl fun K hK=>?_;simp only[Act.put,sA,sB,sC];refine hK _ _ ?_;clear hK K)|refine qm ?_
  refine qC (fun K hK=>?_);refine jB (f:=Ob.cells) (e:=62) (sz:=2) (B:=W.heap.size) _ _ _ rfl _ 16 Tryz.underlying22 Ul rfl rfl (by first|omega|(simp <;> omega)) (by first|omega|(simp <;> omega)) (by first|omega|(simp <;> omega)) ?_;intro w2 o2A g2 z2;refine hK _ _ (RN.KeepsN.of_below (g2.mono (by have:=b1.size;omega))) ?_;clear hK K;have b2:Below W.heap.size W w2:=b1.trans (g2.mono b1.size);have s2:=b2.size;have o2B:=qj.below o1B g2
  repeat first|(refine qq fun K hK=>?_;go_simp;refine hK _ _ ?_;clear hK K)|(apply qx;(intro w2 hw2;have hk1:=hw2.cell;have hk3:=hw2.1;clear hw2;go_simp;with_reducible rfl);simp only[Act.put,sA,sB,sC])|refine qz rfl rfl ?_|(refine qE rfl rfl fun K hK=>?_;simp only[Act.put,sA,sB,sC];refine hK _ _ ?_;clear hK K)|refine qm ?_
  refine qC (fun K hK=>?_);refine jw _ _ _ rfl _ 16 Tryz.underlying22 Ul rfl o2A os rfl ((HO.o.below B0.o).below (b2.mono (by omega))) (by first|omega|(simp <;> omega)) rfl rfl Ob.len US (by first|omega|(simp <;> omega)) (by first|omega|(simp <;> omega)) ?_;intro v3 w3 o3A g3;have g3b:=g3.below b2.size fun k h=>(o2A.lt k h).1;refine hK _ _ (RN.KeepsN.of_below g3b) ?_;clear hK K;obtain⟨a3,c3,rfl,-⟩:=qj.form2 (show qj Ob.cells 62 2 w3 W.heap.size v3 os from o3A);have o3A:qj Ob.cells 62 2 w3 W.heap.size (.slice a3 os.length c3) os:=o3A;have b3:Below W.heap.size W w3:=b2.trans g3b;have s3:=b3.size;have o3B:=qj.grwT o2B o2A (by decide) g3
  repeat first|(refine qq fun K hK=>?_;go_simp;refine hK _ _ ?_;clear hK K)|(apply qx;(intro w2 hw2;have hk1:=hw2.cell;have hk3:=hw2.1;clear hw2;go_simp;with_reducible rfl);simp only[Act.put,sA,sB,sC])|refine qz rfl rfl ?_|(refine qE rfl rfl fun K hK=>?_;simp only[Act.put,sA,sB,sC];refine hK _ _ ?_;clear hK K)|refine qm ?_
  refine qC (fun K hK=>?_);refine jw _ _ _ rfl _ 64 Tryz.underlying23 ud rfl o3B es rfl ((HE.o.below B0.o).below (b3.mono (by omega))) (by first|omega|(simp <;> omega)) rfl rfl Ev.len ug (by first|omega|(simp <;> omega)) (by first|omega|(simp <;> omega)) ?_;intro v4 w4 o4B g4;have g4b:=g4.below b3.size fun k h=>(o3B.lt k h).1;refine hK _ _ (RN.KeepsN.of_below g4b) ?_;clear hK K;obtain⟨a4,c4,rfl,-⟩:=qj.form2 (show qj Ev.cells 69 8 w4 W.heap.size v4 es from o4B);have o4B:qj Ev.cells 69 8 w4 W.heap.size (.slice a4 es.length c4) es:=o4B;have b4:Below W.heap.size W w4:=b3.trans g4b;have s4:=b4.size;have o4A:=qj.grwT o3A o3B (by decide) g4;have OA:=qd o4A;have OB:=qd o4B;have BF:=qd b4;have zF:=b4.size;have RF:=qd (qh R1.o b4 (by omega));have y0:=qa RF.o 0;have y1:=qa RF.o 1;have yf:∀j,w4.frozen? ⟨w.heap.size+1,j,none⟩=false:=fun j=>qt RF.o j;have ly:=qe RF.o;clear g1 g2 g3 g4 b0 b1 b2 b3 b4 d0 d1 o1B o2A o2B o3A o3B o4A o4B
  repeat first|(refine qq fun K hK=>?_;go_simp;refine hK _ _ ?_;clear hK K)|(apply qx;(intro w2 hw2;have hk1:=hw2.cell;have hk3:=hw2.1;clear hw2;go_simp;with_reducible rfl);simp only[Act.put,sA,sB,sC])|refine qz rfl rfl ?_|(refine qE rfl rfl fun K hK=>?_;simp only[Act.put,sA,sB,sC];refine hK _ _ ?_;clear hK K)|refine qm ?_
  refine qF (fun K hK=>?_);go_simp;refine hK _ _ ?_;clear hK K
  repeat first|(refine qq fun K hK=>?_;go_simp;refine hK _ _ ?_;clear hK K)|(apply qx;(intro w2 hw2;have hk1:=hw2.cell;have hk3:=hw2.1;clear hw2;go_simp;with_reducible rfl);simp only[Act.put,sA,sB,sC])|refine qz rfl rfl ?_|(refine qE rfl rfl fun K hK=>?_;simp only[Act.put,sA,sB,sC];refine hK _ _ ?_;clear hK K)|refine qm ?_
  go_wp2;have r4:=Nq (u1:=.slice a3 os.length c3) (u2:=.slice a4 es.length c4) RF.o;have c0:=qa r4 0;have c1:=qa r4 1;simp only[List.getElem?_toArray,List.getElem?_cons_zero,List.getElem?_cons_succ] at c0 c1;refine bodyPost_ret (v:=.agg #[.slice a3 os.length c3,.slice a4 es.length c4]) (by simp[results,Tryz.results34,go_sem,c0,c1]) rfl ⟨_,_,rfl,?_,?_,?_⟩
  ·exact qj.base (qj.box2 OA.o RF.o (by decide)) (by omega)
  ·exact qj.base (qj.box2 OB.o RF.o (by decide)) (by omega)
  ·exact ((B0.o.trans (BF.o.mono (by omega))).setCell (p:=⟨w.heap.size+1,0,none⟩) (by show w.heap.size<=w.heap.size+1;omega) _).setCell (p:=⟨w.heap.size+1,1,none⟩) (by show w.heap.size<=w.heap.size+1;omega) _
end
section
attribute [local irreducible] xL
theorem qj.cap {α:Type} {f:α->List Value} {e:TypeId} {sz n c B:Nat} {a:Option Addr} {w:World} {l:List α} (h:qj f e sz w B (.slice a n c) l):l.length<=c:=by
 obtain⟨-,h|⟨g,cap,cur,hv,-,-,hc,-⟩⟩:=h
 ·omega
 ·simp only[Value.slice.injEq] at hv
  omega
theorem Sl.take {α:Type} {f:α->List Value} {w:World} {B sz n c:Nat} {a:Option Addr} {l:List α} (hf:∀x,(f x).length=sz) (h:Sl w B sz (.slice a n c) n (l.flatMap f)) (hl:l.length=n) {m:Nat} (hm:m<=n):Sl w B sz (.slice a m c) m ((l.take m).flatMap f):=by
 obtain⟨a',c',hv,hn,hlen,hc⟩:=h;simp only[Value.slice.injEq,true_and] at hv;obtain⟨rfl,rfl⟩:=hv;refine⟨a,c,rfl,by omega,?_,fun h0=>?_⟩
 ·have:∀l:List α,(l.flatMap f).length=l.length*sz:=by
   intro l
   induction l with
   |nil=>simp
   |cons x l ih=>simp[ih,hf,Nat.add_mul,Nat.add_comm]
  rw[this,List.length_take];congr 1;omega
 ·obtain ⟨b,off,ha,hb,hcc⟩:=hc (by omega)
  refine⟨b,off,ha,hb,fun j u hu=>hcc j u ?_⟩;have hp:(l.take m).flatMap f <+:l.flatMap f:=by
   rw[←List.take_append_drop m l,List.flatMap_append,List.take_append_drop];exact List.prefix_append _ _
  obtain⟨r,hr⟩:=hp;rw[←hr];exact List.getElem?_append_left (List.getElem?_eq_some_iff.1 hu).1▸hu
theorem sizeE (w:World):(sizeOf (Tryz.prog.elem 23)).run Tryz.prog w=.ok 8 w:=by kernel_rfl
theorem Uo (ov:Value) (ae:Option Addr) (ce:Nat) (os:List Ob) (es:List Ev) (n:Int) (w:World) (ho:Sl w w.heap.size 2 ov os.length (os.flatMap Ob.cells)) (he:Sl w w.heap.size 8 (.slice ae es.length ce) es.length (es.flatMap Ev.cells)) (hcap:es.length<=ce) (hol:os.length<=100000) (hel:es.length<=100000):
  Calls Tryz.prog 10 #[.agg #[ov,.slice ae es.length ce],.int .i64 n] w (XJ os (es.take n.toNat) w):=by
 obtain⟨ao,co,rfl,mo⟩:=ho.ex;obtain⟨m,hm⟩:∃m,m=min n.toNat es.length:=⟨_,rfl⟩
 obtain⟨mi,hmi⟩:∃mi:Int,mi=min n es.length:=⟨_,rfl⟩
 have hmin:∀(ts:Array TypeId) (ty:TypeId) (X:World),(Builtin.min_ ts ty #[.int .i64 n,.int .i64 (es.length:Int)]).run Tryz.prog X=.ok (.int .i64 mi) X:=fun ts ty X=>by
  rw[run_min_int2,hmi];congr 2;split <;> omega
 have hmax:∀(ts:Array TypeId) (ty:TypeId) (X:World),(Builtin.max_ ts ty #[.int .i64 (0:Int),.int .i64 mi]).run Tryz.prog X=.ok (.int .i64 (m:Int)) X:=fun ts ty X=>by
  rw[run_max_int2];congr 2;split <;> omega
 have hsl:∀X:World,(Instr.slice 23 (.slice ae es.length ce) none (some (.int .i64 (m:Int))) none).run Tryz.prog X=.ok (.slice ae m ce) X:=fun X=>by
  rw[run_slice_h X _ _ _ _ Tryz.underlying23 _ _ (by omega) (by omega),sizeE];simp only[Result.andThen,sliced,Int.toNat_natCast,Nat.sub_zero];congr 2
  split
  ·rfl
  ·cases ae <;> simp[Addr.add]
 have hst:es.take n.toNat=es.take m:=by
  rw[hm];rcases Nat.le_total n.toNat es.length with h|h
  ·rw [Nat.min_eq_left h]
  ·rw [Nat.min_eq_right h,List.take_of_length_le h,List.take_length]
 rw[hst];have hml:m<=es.length:=by omega
 have hlt:(es.take m).length=m:=by rw[List.length_take];omega
 have b0:Below w.heap.size w ((w.alloc (.cells #[.slice ao os.length co,.slice ae m ce] 25)).alloc (.cells #[.slice none 0 0,.slice none 0 0] 25)):=((Below.refl _ w).alloc (Nat.le_refl _) _).alloc (by simp) _;have r0:=qy (o:=.cells #[.slice none 0 0,.slice none 0 0] 25) (qs w (.cells #[.slice ao os.length co,.slice ae m ce] 25));have r1:=qX (w:=w.alloc (.cells #[.slice ao os.length co,.slice ae m ce] 25)) (o:=.cells #[.slice none 0 0,.slice none 0 0] 25) (g:=w.heap.size+1) (by simp);have z0:((w.alloc (.cells #[.slice ao os.length co,.slice ae m ce] 25)).alloc (.cells #[.slice none 0 0,.slice none 0 0] 25)).heap.size=w.heap.size+2:=by simp
 have hcl:=qd (Ve _ _ os (es.take m) _ ((ho.below b0).more (by omega)) (show Sl _ _ 8 (.slice ae m ce) (es.take m).length _ from by rw[hlt];exact((he.take Ev.len rfl hml).below b0).more (by omega)) hol (by rw[hlt];omega));have HLT:=qd hlt;clear ho he hst hm hlt hmi;generalize es.take m=t at *;go_enter Tryz.func10,Tryz.ntmps10;go_wp2_with fail;have B0:=qd b0;have R1:=qd r1;clear b0 r1 r0;generalize (w.alloc (.cells #[.slice ao os.length co,.slice ae m ce] 25)).alloc (.cells #[.slice none 0 0,.slice none 0 0] 25)=W at *;refine(hcl.o).mono ?_;rintro e V ⟨vo,ve,rfl,oo,oe,bV⟩;obtain⟨a2,c2,rfl,-⟩:=oo.form2;obtain⟨a4,c4,rfl,-⟩:=oe.form2;have OA:=qd oo;have OB:=qd oe;have BF:=qd bV;have zF:=bV.size;have RF:=qd (qh R1.o bV (by omega));have y0:=qa RF.o 0;have y1:=qa RF.o 1;have yf:∀j,V.frozen? ⟨w.heap.size+1,j,none⟩=false:=fun j=>qt RF.o j;have ly:=qe RF.o;clear oo oe bV hcl;go_wp2;have r4:=Nq (u1:=.slice a2 os.length c2) (u2:=.slice a4 t.length c4) RF.o;have c0:=qa r4 0;have c1:=qa r4 1;simp only[List.getElem?_toArray,List.getElem?_cons_zero,List.getElem?_cons_succ] at c0 c1;refine bodyPost_ret (v:=.agg #[.slice a2 os.length c2,.slice a4 t.length c4]) (by simp[results,Tryz.results10,go_sem,c0,c1]) rfl ⟨_,_,rfl,?_,?_,?_⟩
 ·exact qj.base (qj.box2 OA.o RF.o (by decide)) (by omega)
 ·exact qj.base (qj.box2 OB.o RF.o (by decide)) (by omega)
 ·exact ((B0.o.trans (BF.o.mono (by omega))).setCell (p:=⟨w.heap.size+1,0,none⟩) (by show w.heap.size<=w.heap.size+1;omega) _).setCell (p:=⟨w.heap.size+1,1,none⟩) (by show w.heap.size<=w.heap.size+1;omega) _
theorem h_Prefix (ov:Value) (ae:Option Addr) (ce:Nat) (os:List Ob) (es:List Ev) (n:Nat) (w:World) (ho:Sl w w.heap.size 2 ov os.length (os.flatMap Ob.cells)) (he:Sl w w.heap.size 8 (.slice ae es.length ce) es.length (es.flatMap Ev.cells)) (hcap:es.length<=ce) (hol:os.length<=100000) (hel:es.length<=100000):
  Calls Tryz.prog 10 #[.agg #[ov,.slice ae es.length ce],.int .i64 n] w (XJ os (es.take n) w):=Uo ov ae ce os es n w ho he hcap hol hel
end
def mark (D:Nat):Deferred:={target:=.collected D,args:=#[]}
theorem uQ {B:Nat} (W:World) (l:Nat) (o:Obj) (hl:B<=l) (h:l < W.heap.size):Below B W (W.putObj l o):=
 (Below.refl B W).grown (grownBy_putObj' W l o) (by omega) (fun k e=>by cases e;omega)
structure xi (M:Obj->Prop) (L:Nat->Prop) (lo hb:Nat) (A B:World):Prop where
 base:Below 0 A B
 block:∀k O,L k\/lo<=k->k < hb->A.heap[k]?=some O->¬M O->B.heap[k]?=some O
theorem xi.size {M:Obj->Prop} {L:Nat->Prop} {lo hb:Nat} {A B:World} (h:xi M L lo hb A B):A.heap.size<=B.heap.size:=h.base.size
theorem xi.below {M:Obj->Prop} {L:Nat->Prop} {lo hb N:Nat} {A B:World} (h:Below N A B) (hN:hb<=N):xi M L lo hb A B:=⟨h.mono (Nat.zero_le _),fun k O _ hk hO _=>(h.block k (by omega)).trans hO⟩
theorem xi.set {M:Obj->Prop} {L:Nat->Prop} {lo hb g j:Nat} {A:World} (v:Value) (hg:g < lo/\¬L g\/hb<=g):xi M L lo hb A (A.setCell ⟨g,j,none⟩ v):=⟨(Below.refl 0 A).setCell (p:=⟨g,j,none⟩) (Nat.zero_le _) v,fun k O h1 h2 hO _=>(Below.heap_setCell _ _ _ _ (by
 show k≠g;rintro rfl;rcases hg with⟨h3,h4⟩|h3
 ·exact h1.elim h4 (by omega)
 ·omega)).trans hO⟩
theorem LeavesIn.fin {F:Fence} {n:Nat} {P:Program} {fn:Func} {tmps:Array Value} {R:Ending->World->Prop} {w:World} {v:Value} (h:(results fn tmps).run P w=.ok v w) (hR:R (.returned v) w):LeavesIn F n P fn tmps R [] .returning w:=⟨v,h,hR⟩
theorem vi {F:Fence} {n:Nat} {P:Program} {fn:Func} {tmps:Array Value} {R:Ending->World->Prop} {D:Nat} {w:World} (hd:w.heap[D]?=some (.deferred (some [])))
  (h:∀w',Below D w w'->(∀k,k≠D->w'.heap[k]?=w.heap[k]?)->LeavesIn F n P fn tmps R [] .returning w'):LeavesInM F n P fn tmps R [mark D] .returning w:=
 ⟨by simp,.inl ⟨D,_,rfl,run_takeDeferred hd,h _ (uQ w D _ (Nat.le_refl _) (Array.getElem?_eq_some_iff.1 hd).1) fun k hk=>World.putObj_heap_other hk⟩⟩
def IterC (P:Program) (M:Obj->Prop) (L:Nat->Prop) (Qs:(Nat->Prop)->Prop) (G:Array Value->Prop) (gf:Nat) (cs:Array Value) (m:Nat) (Pre Gd:World->Prop) (H:(Nat->Prop)->Nat->World->Nat->Array Value->Prop) (N:Nat):Prop:=
 ∀(l:Nat) (J Jx:(Nat->Prop)->Nat->World->Prop) (W:World),Pre W->(∀q i A,Qs q->J q i A->Gd A)->(∀q i A B,Qs q->J q i A->W.heap.size<=A.heap.size->Below W.heap.size A B->(∀k,k < A.heap.size->¬q k->B.heap[k]?=A.heap[k]?)->J q i B)->
  (∀q i A B,Qs q->Jx q i A->W.heap.size<=A.heap.size->Below W.heap.size A B->(∀k,k < A.heap.size->¬q k->B.heap[k]?=A.heap[k]?)->Jx q i B)->
  (∀(q:Nat->Prop) (i:Nat) (W1:World) (hb:Nat) (args:Array Value),i < N->Qs q->J q i W1->(∀k,q k->W.heap.size<=k/\k < hb)->W.heap.size<=hb->hb<=W1.heap.size->H q i W1 hb args->
   YieldAt Fence.wide m P l args W1 fun e W'=>(e=.returned (.bool true)/\(J q (i+1) W'/\xi M L W.heap.size hb W1 W')/\G args)\/(e=.returned (.bool false)/\Jx q (i+1) W'/\xi M L W.heap.size hb W1 W'))->
  (∀q,Qs q->(∀k,q k->W.heap.size<=k)->J q 0 W)->
  CallsIn Fence.wide (m+1) P gf (#[.func (.yield l) #[] #[]]++cs) W fun e W'=>(∃v,e=.returned v)/\∃q,Qs q/\(J q N W'\/∃i,0 < i/\i<=N/\Jx q i W')
def Lb (n0:Nat) (E:Nat->Prop):Nat->Prop:=fun k=>k < n0/\¬E k
def Mo (_:Obj):Prop:=False
theorem xi.more {n lo hb:Nat} {E:Nat->Prop} {w A B:World} (h:xi Mo (Lb n E) n n w A) (k:xi Mo (Lb n E) lo hb A B) (hn:n<=hb):xi Mo (Lb n E) n n w B:=
 ⟨h.base.trans k.base,fun j O h1 h2 h3 h4=>k.block j O (.inl (h1.resolve_right (by omega))) (by omega) (h.block j O h1 h2 h3 h4) h4⟩
theorem xi.row0 {E:Nat->Prop} {p n:Nat} {w w':World} {O:Obj} (hk:xi Mo (Lb n E) n n w w') (hn:n=w.heap.size) (h:w.heap[p]?=some O) (hp:¬E p):w'.heap[p]?=some O:=
 hk.block p O (.inl ⟨hn▸(Array.getElem?_eq_some_iff.1 h).1,hp⟩) (hn▸(Array.getElem?_eq_some_iff.1 h).1) h id
def roundM (g:Prop) (M:Obj->Prop) (L:Nat->Prop) (lo hb:Nat) (I:Nat->World->Prop) (Ix:Code->Nat->World->Prop) (i:Nat) (W:World):Exit->Act->World->Prop
 |.normal,_,W'=>(I i W'/\xi M L lo hb W W')/\g
 |.ret,_,W'=>Ix .ret i W'/\xi M L lo hb W W'
 |.exit id,_,W'=>Ix (.exit id) i W'/\xi M L lo hb W W'
 |.goto t,_,W'=>Ix (.goto t) i W'/\xi M L lo hb W W'
 |.panic _,_,_=>False
 |.outgrown,_,_=>False
theorem vw {P:Program} {M:Obj->Prop} {L:Nat->Prop} {Qs:(Nat->Prop)->Prop} {G:Array Value->Prop} {m gf N:Nat} {cs:Array Value} {Pre Gd:World->Prop} {H:(Nat->Prop)->Nat->World->Nat->Array Value->Prop} {g:Operand} {ps:Array Tmp} {assign body:Code} {Q:Exit->Act->World->Prop} {a:Act} {w:World}
  (hg:a.eval g=.func (.func gf) #[] cs) (eg:∀args w,(callFunc gf args).run P w=.ok (.enter gf args) w) (hL:∀k,L k->k < w.heap.size) (hit:IterC P M L Qs G gf cs m Pre Gd H N) (hps:∀q i W hb args,H q i W hb args->args.size=ps.size)
  (I:(Nat->Prop)->Nat->World->Prop) (Ix:(Nat->Prop)->Code->Nat->World->Prop) (hI:∀q i A B,Qs q->I q i A->w.heap.size<=A.heap.size->Below w.heap.size A B->(∀k,k < A.heap.size->k≠w.heap.size+1->¬q k->B.heap[k]?=A.heap[k]?)->I q i B) (hIx:∀q c i A B,Qs q->Ix q c i A->w.heap.size<=A.heap.size->Below w.heap.size A B->(∀k,k < A.heap.size->k≠w.heap.size+1->¬q k->B.heap[k]?=A.heap[k]?)->Ix q c i B)
  (hGd:∀q i A,Qs q->I q i A->Gd A) (h0:∀q,Qs q->(∀k,q k->w.heap.size+2<=k)->I q 0 w) (hpre:∀W,Below w.heap.size w W->Pre W) (hM1:∀r,¬M (.loop r)) (hM2:∀d,¬M (.deferred d))
  (hround:∀(q:Nat->Prop) (i:Nat) (W1:World) (hb:Nat) (args:Array Value),i < N->Qs q->I q i W1->(∀k,q k->w.heap.size+2<=k/\k < hb)->w.heap.size+2<=hb->hb<=W1.heap.size->H q i W1 hb args->
   assign.wpIn (Fence.wide.inRound (w.heap.size+1)) m P (Exit.then (fun a₁ w₁=>Below W1.heap.size W1 w₁/\∀w₂,w₂.heap.size=w₁.heap.size->(∀k,k≠w.heap.size+1->w₂.heap[k]?=w₁.heap[k]?)->Below w.heap.size w₁ w₂->
    body.wpIn (Fence.wide.inRound (w.heap.size+1)) m P (roundM (G args) M L w.heap.size hb (I q) (Ix q) (i+1) w₂) a₁ w₂) (fun _ _ _=>False))
    {tmps:=(ps.zip args).foldl (fun t (p,v)=>t.setIfInBounds p v) a.tmps,defers:=[]} W1)
  (hdone:∀(q:Nat->Prop) (W:World),Qs q->I q N W->w.heap.size+2<=W.heap.size->W.heap[w.heap.size]?=some (.deferred (some []))->Q .normal {a with defers:=mark w.heap.size::a.defers} W)
  (hstop:∀(q:Nat->Prop) (c:Code) (i:Nat) (W:World),0 < i->i<=N->Qs q->Ix q c i W->w.heap.size+2<=W.heap.size->W.heap[w.heap.size]?=some (.deferred (some []))->c.wpIn Fence.wide (m+2) P Q {a with defers:=mark w.heap.size::a.defers} W):
  (Code.rangeFunc g ps assign body).wpIn Fence.wide (m+2) P Q a w:=by
 refine wpIn_rangeFunc ?_;intro fn hfn;obtain⟨rc,hrc⟩:∃rc:LoopState->Option Code->Loop,rc=fun st pe=>{state:=st,pending:=pe,fn,tmps:=a.tmps,params:=ps,assign,body,defers:=w.heap.size}:=⟨_,rfl⟩
 obtain⟨W0,hW0⟩:∃W0,(w.alloc (.deferred (some []))).alloc (.loop (rc .ready none))=W0:=⟨_,rfl⟩
 have s0:W0.heap.size=w.heap.size+2:=by rw[←hW0];simp
 have l0:W0.heap[w.heap.size+1]?=some (.loop (rc .ready none)):=by
  rw[←hW0];have:=World.alloc_heap_new (w.alloc (.deferred (some []))) (.loop (rc .ready none));rwa [World.size_alloc] at this
 have d0:W0.heap[w.heap.size]?=some (.deferred (some [])):=by
  rw[←hW0];exact(Below.heap_alloc _ _ _ (by simp)).trans (World.alloc_heap_new w _)
 have b0:Below w.heap.size w W0:=by rw[←hW0];exact((Below.refl _ w).alloc (Nat.le_refl _) _).alloc (by simp) _
 refine⟨w.heap.size+1,[mark w.heap.size],W0,{target:=.fn (.func gf) cs,args:=#[.func (.yield (w.heap.size+1)) #[] #[]]},W0,gf,#[.func (.yield (w.heap.size+1)) #[] #[]]++cs,W0,?_,?_,?_,?_,fun _=>by omega,?_⟩
 ·rw [←hW0,hrc];exact run_enterLoop_outer _ _ _ _ _
 ·simp only[resolve,hg]
  simp[go_sem]
 ·exact fun _ _=>trivial
 ·simp [invoke,go_sem,eg]
 ·have hK:∀{A B:World},Below A.heap.size A B->w.heap.size+2<=A.heap.size->∀{k:Nat} {o:Obj},k < w.heap.size+2->A.heap[k]?=some o->B.heap[k]?=some o:=
   fun hb hs k o hk h=>(hb.block k (by omega)).trans h
  refine CallsIn.mono (hit (w.heap.size+1)
   (fun q i W=>I q i W/\w.heap.size+2<=W.heap.size/\W.heap[w.heap.size+1]?=some (.loop (rc .ready none))/\W.heap[w.heap.size]?=some (.deferred (some [])))
   (fun q i W=>∃c,Ix q c i W/\w.heap.size+2<=W.heap.size/\W.heap[w.heap.size+1]?=some (.loop (rc .done (some c)))/\W.heap[w.heap.size]?=some (.deferred (some [])))
   W0 (hpre _ b0) (fun q i A hQ h=>hGd q i A hQ h.1) ?_ ?_ ?_ (fun q hQ hq=>⟨hI _ _ _ _ hQ (h0 q hQ fun k hk=>s0▸hq k hk) (Nat.le_refl _) b0 (fun k hk _ _=>b0.block k hk),by omega,l0,d0⟩)) ?_
  ·rintro q i A B hQ ⟨h1,h2,h3,h4⟩ hs hb he
   exact⟨hI _ _ _ _ hQ h1 (by omega) (hb.mono (by omega)) (fun k hk _ hT=>he k hk hT),by have:=hb.size;omega,(hb.block _ (by omega)).trans h3,(hb.block _ (by omega)).trans h4⟩
  ·rintro q i A B hQ ⟨c,h1,h2,h3,h4⟩ hs hb he
   exact⟨c,hIx _ _ _ _ _ hQ h1 (by omega) (hb.mono (by omega)) (fun k hk _ hT=>he k hk hT),by have:=hb.size;omega,(hb.block _ (by omega)).trans h3,(hb.block _ (by omega)).trans h4⟩
  ·rintro q i W1 hb args hi hQ ⟨h1,h2,h3,h4⟩ hq hlo hhi hH
   have hlt:w.heap.size+1 < W1.heap.size:=by omega
   have hy:=run_yield (P:=P) (args:=args) h3 (by rw[hrc];exact hps _ _ _ _ _ hH);rw[hrc] at hy;refine⟨fn,_,assign,body,hy,roundIn_of_wpIn hfn ?_⟩;refine wpIn_mono (hround q i W1 hb args hi hQ h1 (fun k hk=>s0▸hq k hk) (by omega) hhi hH) ?_;intro e a1 w1 he;cases e with
   |normal=>
    obtain⟨hb1,hbody⟩:=he;have sz1:=hb1.size;have r1:w1.heap[w.heap.size+1]?=some (.loop (rc .ready none)):=hK hb1 h2 (by omega) h3;have r2:w1.heap[w.heap.size]?=some (.deferred (some [])):=hK hb1 h2 (by omega) h4;refine⟨_,run_beginRound r1 (by rw[hrc]),?_⟩;obtain⟨w2,hw2⟩:∃w2,w1.putObj (w.heap.size+1) (.loop {rc .ready none with state:=.busy})=w2:=⟨_,rfl⟩
    have q1:w2.heap[w.heap.size+1]?=some (.loop {rc .ready none with state:=.busy}):=by rw[←hw2];exact World.putObj_heap_same (by omega)
    have q2:∀k,k≠w.heap.size+1->w2.heap[k]?=w1.heap[k]?:=fun k hk=>by rw[←hw2];exact World.putObj_heap_other hk
    have q3:w2.heap.size=w1.heap.size:=by rw[←hw2];simp[World.putObj]
    have q4:Below w.heap.size w1 w2:=by rw[←hw2];exact uQ w1 _ _ (by omega) (by omega)
    have q5:=(q2 w.heap.size (by omega)).trans r2;rw[hw2];refine wpIn_mono (hbody w2 q3 q2 q4) ?_;have fin:∀(jump:Option Code) (W3:World),xi M L w.heap.size hb w2 W3->
      (Instr.endRound (w.heap.size+1) jump).run P W3=.ok (.bool jump.isNone) (W3.putObj (w.heap.size+1) (.loop (rc (if jump.isNone then .ready else .done) jump)))/\
      w.heap.size+2<=W3.heap.size/\Below w.heap.size W3 (W3.putObj (w.heap.size+1) (.loop (rc (if jump.isNone then .ready else .done) jump)))/\
      (W3.putObj (w.heap.size+1) (.loop (rc (if jump.isNone then .ready else .done) jump))).heap[w.heap.size+1]?=some (.loop (rc (if jump.isNone then .ready else .done) jump))/\
      (W3.putObj (w.heap.size+1) (.loop (rc (if jump.isNone then .ready else .done) jump))).heap[w.heap.size]?=some (.deferred (some [])):=fun jump W3 hk3=>by
     have t1:W3.heap[w.heap.size+1]?=some (.loop {rc .ready none with state:=.busy}):=hk3.block _ _ (.inr (by omega)) (by omega) q1 (hM1 _);have t2:W3.heap[w.heap.size]?=some (.deferred (some [])):=hk3.block _ _ (.inr (by omega)) (by omega) q5 (hM2 _);have t3:=hk3.size;have t4:=run_endRound (P:=P) jump t1;rw[hrc] at t4 ⊢;exact⟨t4,by omega,uQ W3 _ _ (by omega) (by omega),World.putObj_heap_same (by omega),(World.putObj_heap_other (by omega)).trans t2⟩
    have keep:∀(W3:World) (o:Obj),xi M L w.heap.size hb w2 W3->Below w.heap.size W3 (W3.putObj (w.heap.size+1) o)->
      xi M L W0.heap.size hb W1 (W3.putObj (w.heap.size+1) o):=fun W3 o hk hs=>by
     refine⟨(((hb1.mono (Nat.zero_le _)).trans (q4.mono (Nat.zero_le _))).trans hk.base).trans (hs.mono (Nat.zero_le _)),fun k O hk1 hk2 hO hMO=>?_⟩;rw[s0] at hk1;have hk0:k≠w.heap.size+1:=hk1.elim (fun h=>by have:=hL k h;omega) (fun h=>by omega);exact(World.putObj_heap_other hk0).trans (hk.block k O (hk1.imp id fun h=>by omega) hk2 ((q2 k hk0).trans ((hb1.block k (by omega)).trans hO)) hMO)
    rintro e a3 W3 hp;cases e with
    |normal=>
     obtain⟨⟨hi3,hk3⟩,hg3⟩:=hp;obtain⟨hr,f1,f2,f3,f4⟩:=fin none W3 hk3;exact⟨_,_,hr,.inl ⟨rfl,⟨⟨hI _ _ _ _ hQ hi3 (by omega) f2 (fun k _ hk _=>World.putObj_heap_other hk),by simp[World.putObj];omega,f3,f4⟩,keep W3 _ hk3 f2⟩,hg3⟩⟩
    |ret=>
     obtain⟨hi3,hk3⟩:=hp;obtain⟨hr,f1,f2,f3,f4⟩:=fin (some .ret) W3 hk3;exact⟨_,_,hr,.inr ⟨rfl,⟨_,hIx _ _ _ _ _ hQ hi3 (by omega) f2 (fun k _ hk _=>World.putObj_heap_other hk),by simp[World.putObj];omega,f3,f4⟩,keep W3 _ hk3 f2⟩⟩
    |exit id=>
     obtain⟨hi3,hk3⟩:=hp;obtain⟨hr,f1,f2,f3,f4⟩:=fin (some (.exit id)) W3 hk3;exact⟨_,_,hr,.inr ⟨rfl,⟨_,hIx _ _ _ _ _ hQ hi3 (by omega) f2 (fun k _ hk _=>World.putObj_heap_other hk),by simp[World.putObj];omega,f3,f4⟩,keep W3 _ hk3 f2⟩⟩
    |goto t=>
     obtain⟨hi3,hk3⟩:=hp;obtain⟨hr,f1,f2,f3,f4⟩:=fin (some (.goto t)) W3 hk3;exact⟨_,_,hr,.inr ⟨rfl,⟨_,hIx _ _ _ _ _ hQ hi3 (by omega) f2 (fun k _ hk _=>World.putObj_heap_other hk),by simp[World.putObj];omega,f3,f4⟩,keep W3 _ hk3 f2⟩⟩
    |panic ch=>exact hp.elim
    |outgrown=>exact hp.elim
   |ret=>exact he.elim
   |exit id=>exact he.elim
   |goto t=>exact he.elim
   |panic ch=>exact he.elim
   |outgrown=>exact he.elim
  ·rintro e W2 ⟨⟨v,rfl⟩,q,hQ,(⟨h1,h2,h3,h4⟩|⟨i,hi0,hi1,c,h1,h2,h3,h4⟩)⟩
   ·exact ⟨none,_,by have:=run_endLoop (P:=P) h3 (by rw[hrc];simp);rw[hrc] at this;exact this,
     hdone q _ hQ (hI _ _ _ _ hQ h1 (by omega) (uQ W2 _ _ (by omega) (by omega)) (fun k _ hk _=>World.putObj_heap_other hk)) (by simp[World.putObj];omega) ((World.putObj_heap_other (by omega)).trans h4)⟩
   ·exact ⟨some c,_,by have:=run_endLoop (P:=P) h3 (by rw[hrc];simp);rw[hrc] at this;exact this,
     hstop q c i _ hi0 hi1 hQ (hIx _ _ _ _ _ hQ h1 (by omega) (uQ W2 _ _ (by omega) (by omega)) (fun k _ hk _=>World.putObj_heap_other hk)) (by simp[World.putObj];omega) ((World.putObj_heap_other (by omega)).trans h4)⟩
section
attribute [local irreducible] xL
def HistAt (w:World) (p B:Nat) (os:List Ob) (es:List Ev):Prop:=∃ov vv,w.heap[p]?=some (.cells #[ov,vv] 25 (0,0))/\qj Ob.cells 62 2 w B ov os/\qj Ev.cells 69 8 w B vv es
theorem KW (ov vv:Value) (os:List Ob) (es:List Ev) (w:World) (ho:Sl w w.heap.size 2 ov os.length (os.flatMap Ob.cells)) (he:Sl w w.heap.size 8 vv es.length (es.flatMap Ev.cells)) (hol:os.length<=100000) (hel:es.length<=100000):
  Calls Tryz.prog 33 #[.agg #[ov,vv]] w fun e w'=>e=.returned (.func (.func 69) #[] #[.pointer (some ⟨w.heap.size,0,none⟩)])/\HistAt w' w.heap.size w.heap.size os es/\Below w.heap.size w w':=by
 obtain⟨ao,co,rfl,mo⟩:=ho.ex;obtain⟨ae,ce,rfl,me⟩:=he.ex;have b0:Below w.heap.size w (w.alloc (.cells #[.slice ao os.length co,.slice ae es.length ce] 25)):=(Below.refl _ w).alloc (Nat.le_refl _) _;have r0:=qs w (.cells #[.slice ao os.length co,.slice ae es.length ce] 25);have CL:=qd (Ve (.slice ao os.length co) (.slice ae es.length ce) os es _ ((ho.below b0).more b0.size) ((he.below b0).more b0.size) hol hel);have B0:=qd b0;have R0:=qd r0;clear ho he b0 r0;go_enter Tryz.func33,Tryz.ntmps33;go_wp2_with fail;generalize w.alloc (.cells #[.slice ao os.length co,.slice ae es.length ce] 25)=W at *;refine CL.o.mono ?_;rintro e W1 ⟨ov',vv',rfl,o1,v1,b1⟩;have r1:=qh R0.o b1 (qe R0.o);have l1:=qe r1;have yf:=qt r1;have yf0:=yf 0;have yf1:=yf 1;have y:=qa r1;have y0:=y 0;have y1:=y 1;simp at y0 y1;obtain⟨a1,c1,rfl⟩:=qj.slv o1;obtain⟨a2,c2,rfl⟩:=qj.slv v1;have R2:=qd (qn (qn r1 0 (.slice a1 os.length c1)) 1 (.slice a2 es.length c2));have B2:=qd (((B0.o.trans (b1.mono B0.o.size)).setCell (p:=⟨w.heap.size,0,none⟩) (Nat.le_refl _) (.slice a1 os.length c1)).setCell (p:=⟨w.heap.size,1,none⟩) (Nat.le_refl _) (.slice a2 es.length c2));have O2:=qd (qj.other (j:=1) (qj.other (j:=0) o1 (qj.neT o1 r1 (by decide)) (.slice a1 os.length c1)) (qj.neT o1 r1 (by decide)) (.slice a2 es.length c2));have V2:=qd (qj.other (j:=1) (qj.other (j:=0) v1 (qj.neT v1 r1 (by decide)) (.slice a1 os.length c1)) (qj.neT v1 r1 (by decide)) (.slice a2 es.length c2));have hz:=B0.o.size;clear r1 o1 v1 b1 y yf;go_wp2;go_ret;refine⟨rfl,⟨_,_,by simpa using R2.o,O2.o.base (by omega),V2.o.base (by omega)⟩,B2.o⟩
def HandX (os:List Ob) (es:List Ev) (_:Nat->Prop) (i:Nat) (w:World) (hb:Nat) (args:Array Value):Prop:=∃ov vv,args=#[.int .i64 i,.agg #[ov,vv]]/\qj Ob.cells 62 2 w hb ov os/\qj Ev.cells 69 8 w hb vv (es.take i)
def WS (O:Obj):Prop:=∃cs fz,O=.cells cs 28 fz
section
variable {M:Obj->Prop} {n lo hb:Nat} {E:Nat->Prop} {w A B w':World}
theorem xi.moreM (h:xi M (Lb n E) n n w A) (k:xi M (Lb n E) lo hb A B) (hn:n<=hb):xi M (Lb n E) n n w B:=
 ⟨h.base.trans k.base,fun j O h1 h2 h3 h4=>k.block j O (.inl (h1.resolve_right (by omega))) (by omega) (h.block j O h1 h2 h3 h4) h4⟩
theorem xi.rowM {p:Nat} {O:Obj} (hk:xi M (Lb n E) n n w w') (hn:n=w.heap.size) (h:w.heap[p]?=some O) (hp:¬E p) (hM:¬M O):w'.heap[p]?=some O:=
 hk.block p O (.inl ⟨hn▸(Array.getElem?_eq_some_iff.1 h).1,hp⟩) (hn▸(Array.getElem?_eq_some_iff.1 h).1) h hM
theorem qj.keepE {α:Type} {f:α->List Value} {e:TypeId} {sz B:Nat} {v:Value} {l:List α} (h:qj f e sz w B v l) (hk:xi M (Lb n E) n n w w') (hn:n=w.heap.size) (hE:∀k,E k->k < B) (hM:∀cs fz,¬M (.cells cs e fz)):qj f e sz w' B v l:=by
 subst hn;obtain⟨h1,h2⟩:=h;refine⟨h1,?_⟩;rcases h2 with h2|⟨g,cap,cur,rfl,hg,hh,r⟩
 ·exact .inl h2
 ·have hl:=(Array.getElem?_eq_some_iff.1 hh).1
  exact .inr ⟨g,cap,cur,rfl,hg,hk.block g _ (.inl ⟨hl,fun e=>by have:=hE g e;omega⟩) hl hh (hM _ _),r⟩
end
theorem XV {cs:Array Value} {t:TypeId} {fz:Nat×Nat} (h:t≠28):¬WS (.cells cs t fz):=fun⟨_,_,e⟩=>h (by cases e;rfl)
theorem c_iter (m:Nat) (w0:World) (E:Nat->Prop) (pH B:Nat) (os:List Ob) (es:List Ev) (hol:os.length<=100000) (hel:es.length<=100000) (hH:HistAt w0 pH B os es) (hB:B<=pH) (hE:∀k,E k->k < B):
  IterC Tryz.prog WS (Lb w0.heap.size E) (fun q=>q=fun _=>False) (fun _=>True) 69 #[.pointer (some ⟨pH,0,none⟩)] m (fun W=>Below w0.heap.size w0 W) (fun _=>True) (HandX os es) (es.length+1):=by
 intro l J Jx W hP _ hJ _ hY h0;obtain⟨ov,vv,hr,ho,hv⟩:=hH;obtain⟨a1,c1,rfl⟩:=qj.slv ho;obtain⟨a2,c2,rfl⟩:=qj.slv hv;have nE:¬E pH:=fun h=>by have:=hE pH h;omega
 have F0:xi WS (Lb w0.heap.size E) w0.heap.size w0.heap.size w0 W:=xi.below hP (Nat.le_refl _);have hcap:=qj.cap hv;have hm:m+1 - 1=m:=rfl;refine callsIn_of_wp Tryz.func69 rfl trivial ?_ rfl;simp only[Tryz.ntmps69,List.size_toArray,List.length_cons,List.length_nil,Nat.reduceAdd,Nat.reduceSub,Array.replicate_succ,Array.replicate_zero,List.push_toArray,List.append_toArray,List.nil_append,List.cons_append];have HY:=qd hY;have HJ:=qd hJ;have HF:=qd F0;have HJ0:=qd (h0 (fun _=>False) rfl fun k e=>by cases e);have HR:=qd hr;have HO:=qd ho;have HV:=qd hv;clear hY hJ h0 F0 hr ho hv hP;gi_wp2_with fail
 gi_loopw [3] (fun p wr=>∃(i:Nat),i<=es.length+1/\p=.int .i64 i/\J (fun _=>False) i wr/\xi WS (Lb w0.heap.size E) w0.heap.size w0.heap.size w0 wr/\W.heap.size<=wr.heap.size)
  (fun p _=>es.length+1 - (intOf p).toNat)
 case atStart=>exact⟨0,by omega,by go_num,HJ0.o,HF.o,Nat.le_refl _⟩
 case round=>
  obtain⟨i,hi,rfl,hJi,hF,hs⟩:=hrel;have r:=hF.rowM rfl HR.o nE (XV (by decide));have y:=qa r;have y0:=y 0;have y1:=y 1;simp at y0 y1;have yl:=qe r;have HF1:=qd hF;have HJi:=qd hJi;clear y r hF hJi HJ0;by_cases hlt:i<=es.length
  ·have PC:=qd (h_Prefix (.slice a1 os.length c1) a2 c2 os es i wr (qj.sl (qj.keepE HO.o HF1.o rfl hE fun _ _=>XV (by decide))) (qj.sl (qj.keepE HV.o HF1.o rfl hE fun _ _=>XV (by decide))) hcap hol hel)
   gi_wp2_with fail;refine⟨trivial,(callsIn_wide.2 PC.o).mono ?_⟩;rintro e w1 ⟨ov,vv,rfl,o1,v1,b1⟩;obtain⟨a3,c3,rfl⟩:=qj.slv o1;obtain⟨a4,c4,rfl⟩:=qj.slv v1;have hti:(es.take i).length=i:=by rw[List.length_take];omega
   rw[hti] at v1 ⊢;clear hti;obtain⟨fn,tmps,assign,body,hy,hR⟩:=HY.o (fun _=>False) i w1 wr.heap.size #[.int .i64 i,.agg #[.slice a3 os.length c3,.slice a4 i c4]] (by omega) rfl (HJ.o (fun _=>False) i _ _ rfl HJi.o hs (b1.mono hs) fun k hk _=>b1.block k hk) (fun k e=>by cases e) hs b1.size ⟨_,_,rfl,o1,v1⟩;have HB:=qd b1;have hz1:=b1.size;clear o1 v1 b1 PC;gi_wp2_with fail;refine hR.mono ?_;rintro e W3 (⟨rfl,⟨hJ3,hk3⟩,-⟩|⟨rfl,hJx3,-⟩)
   ·have hs3:=hk3.size
    have hw0:=HF.o.size;have F3:=qd ((HF1.o.moreM (xi.below (lo:=w0.heap.size) HB.o (Nat.le_trans hw0 hs)) (Nat.le_refl _)).moreM hk3 (Nat.le_trans hw0 hs));have J3:=qd hJ3;clear hJ3 hk3;gi_wp2_with fail;go_roundw
    case rel=>exact⟨i+1,by omega,by go_num,J3.o,F3.o,by omega⟩
    case measure=>simp[intOf];omega
   ·gi_wp2_with fail
    refine bodyPost_ret (results_none rfl _ _ _) rfl ?_;exact⟨⟨_,rfl⟩,(fun _=>False),rfl,.inr ⟨i+1,by omega,by omega,hJx3⟩⟩
  ·obtain rfl:i=es.length+1:=by omega
   have hq:decide (((es.length+1:Nat):Int)<=(es.length:Int))=false:=by simp;omega
   gi_wp2_with fail;go_end0;exact⟨⟨_,rfl⟩,(fun _=>False),rfl,.inl HJi.o⟩
end
