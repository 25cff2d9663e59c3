/- Parts of the proof; the first: Histories of all kinds of objects: which may be, in memory. Conditions: those of each theorem, as typed. -/
import Derived.Test.YtcpfbphcldocpaaGreatDoorQC08
import Derived.Test.YtcpfbphcldocpaaGreatDoorQC01
import Derived.Test.YtcpfbphcldocpaaGreatDoorQC04
set_option linter.unusedVariables false
set_option linter.unusedSimpArgs false
set_option linter.unusedSectionVars false
set_option maxRecDepth 100000
set_option maxHeartbeats 4000000
namespace Go.Proofs.YtcpfbphcldocpaaGreatDoor
open Go.Maps Go.RowKit
section
attribute [local irreducible] xL
theorem JH {x:Ev} (h:xM x=true) (hk:x.kind=2):0<=x.obj/\x.obj<=7:=by
 unfold xM ub at h;rw[if_pos hk] at h
 split at h
 ·cases h
 ·rename_i L hL
  split at hL
  ·cases hL
  ·cases hL
   simp only[Bool.and_eq_true,List.all_eq_true] at h;have:=h.1 xW (by unfold jd;simp);unfold jt at this;simp only[Bool.and_eq_true,decide_eq_true_eq] at this;exact this
theorem Jd {α:Type} {p:α->Bool} {l:List α} {i:Nat} {x:α} (h:∀y ∈ l.take i,p y=true) (hx:l[i]?=some x) (hp:p x=true):∀y ∈ l.take (i+1),p y=true:=fun y hy=>by
 rw[List.take_add_one,hx] at hy;rcases List.mem_append.1 hy with hy|hy
 ·exact h y hy
 ·simp at hy;rw[hy];exact hp
theorem YP {α:Type} {p:α->Bool} {l:List α} {i:Nat} {x:α} (hx:l[i]?=some x) (hp:p x=false):l.all p=false:=by
 rw[List.all_eq_false];exact⟨x,List.mem_of_getElem? hx,by rw[hp];decide⟩
theorem WL {α:Type} {p:α->Bool} {l:List α} (h:∀y ∈ l.take l.length,p y=true):l.all p=true:=by
 rw[List.take_length] at h;rw[List.all_eq_true];exact h
theorem Jg.err {b:Bool} {w w':World} {t:TypeId} {x:Value} (hb:b=false) (h:Below w.heap.size w w'):Jg b w (.returned (.iface t x)) w':=⟨⟨_,rfl,fun h=>absurd (hb.symm.trans h) (by decide),fun _=>⟨_,_,rfl⟩⟩,h⟩
theorem Jg.nil {b:Bool} {w w':World} (hb:b=true) (h:Below w.heap.size w w'):Jg b w (.returned .nilIface) w':=⟨⟨_,rfl,fun _=>rfl,fun h=>absurd (hb.symm.trans h) (by decide)⟩,h⟩
theorem ZC (ov vv:Value) (os:List Ob) (es:List Ev) (w:World) (ho:Sl w w.heap.size 2 ov os.length (os.flatMap Ob.cells)) (he:Sl w w.heap.size 8 vv es.length (es.flatMap Ev.cells)) (hod:∀o ∈ os,dI o.kind) (hed:∀e ∈ es,dI e.ret) (hW:xg w) (hG:Jl w):
  Calls Tryz.prog 46 #[.agg #[ov,vv]] w (Jg (xJ os es) w):=by
 obtain⟨ao,co,rfl,mo⟩:=ho.ex;obtain⟨ae,ce,rfl,me⟩:=he.ex;have HO:=qd ho;have HE:=qd he;have HOD:=qd hod;have HED:=qd hed;have HW:=qd hW;have HG:=qd hG;have b0:Below w.heap.size w (w.alloc (.cells #[.slice ao os.length co,.slice ae es.length ce] 25)):=(Below.refl _ w).alloc (Nat.le_refl _) _;have r0:=qs w (.cells #[.slice ao os.length co,.slice ae es.length ce] 25);clear ho he hod hed hW hG;by_cases hr8:os.length<=8/\es.length<=400
 case neg=>
  have hf:xJ os es=false:=by
   unfold xJ;rcases Decidable.not_and_iff_or_not.1 hr8 with h|h <;> simp[h]
  obtain⟨hgm,t,x,hm⟩:=(HG.o.below b0).many;have hgm0:=HG.o.many.1;by_cases h8:os.length<=8
  ·have q1:decide (8 < os.length)=false:=by simp;omega
   have q2:decide (400 < es.length)=true:=by simp;omega
   go_enter Tryz.func46,Tryz.ntmps46;go_wp2_with fail;refine bodyPost_ret (v:=.iface t x) (by simp[results,Tryz.results46,go_sem]) rfl (.err (by first|exact hf|rfl) b0)
  ·have q1:decide (8 < os.length)=true:=by simp;omega
   go_enter Tryz.func46,Tryz.ntmps46;go_wp2_with fail;refine bodyPost_ret (v:=.iface t x) (by simp[results,Tryz.results46,go_sem]) rfl (.err (by first|exact hf|rfl) b0)
 obtain⟨hr8,hr4⟩:=hr8;have q1:decide (8 < os.length)=false:=by simp;omega
 have q2:decide (400 < es.length)=false:=by simp;omega
 go_enter Tryz.func46,Tryz.ntmps46;go_wp2_with fail;have hz0:w.heap.size < (w.alloc (.cells #[.slice ao os.length co,.slice ae es.length ce] 25)).heap.size:=by simp
 generalize w.alloc (.cells #[.slice ao os.length co,.slice ae es.length ce] 25)=W at *;have R0:=qd r0;have B0:=qd b0;clear r0 b0
 go_loopw [23] (fun p wr=>∃i:Nat,i<=os.length/\p=.int .i64 i/\(∀o ∈ os.take i,jo o=true)/\Below W.heap.size W wr) (fun p _=>os.length - (intOf p).toNat)
 case atStart=>exact⟨0,by omega,by go_num,by simp,Below.refl _ _⟩
 case round=>
  obtain⟨i,hi,rfl,hpre,hB⟩:=hrel;have HPRE:=qd hpre;have hz:=hB.size;have HB:=qd hB;clear hB hpre;by_cases hlt:i < os.length
  ·obtain ⟨b,off,x,hat,hb,hx,hc⟩:=HO.o.atF Ob.len rfl hlt
   have c0:=qp ((B0.o.trans (HB.o.mono (by omega)))) hb (hc 0 (by decide));have c1:=qp ((B0.o.trans (HB.o.mono (by omega)))) hb (hc 1 (by decide));have hdx:=HOD.o x (List.mem_of_getElem? hx);obtain⟨xk,xn⟩:=x;simp only at hdx;simp at c0 c1;have hbw:b < wr.heap.size:=by omega
   subst hat;have HX:=qd hx;clear hx hc;have bz:Below wr.heap.size wr (wr.alloc (.cells #[.int .i64 xk,.int .i64 xn] 62)):=(Below.refl _ wr).alloc (Nat.le_refl _) _;obtain⟨hgo,te,xe,heo⟩:=(((HG.o.below B0.o).below (HB.o.trans (bz.mono hz)))).object;have hv:=qd (Qy xk xn hdx (wr.alloc (.cells #[.int .i64 xk,.int .i64 xn] 62)) ((HW.o.below B0.o).below (HB.o.trans (bz.mono hz))) _ hgo heo);have BZ:=qd bz;clear bz hgo heo;cases hval:jo ⟨xk,xn⟩ with
   |true=>
    rw[hval] at hv;go_wp2_with fail;generalize wr.alloc (.cells #[.int .i64 xk,.int .i64 xn] 62)=W1 at *;refine(hv.o).mono ?_;rintro e W2 ⟨he,b2⟩;subst he;have B2:=qd ((HB.o.trans (BZ.o.mono hz)).trans (b2.mono (by have:=BZ.o.size;omega)));clear b2 hv;go_wp2_with fail;go_roundw
    case rel=>exact⟨i+1,by omega,by go_num,Jd HPRE.o HX.o hval,B2.o⟩
    case measure=>simp[intOf];omega
   |false=>
    rw[hval] at hv;have hf:xJ os es=false:=by unfold xJ;rw[YP HX.o hval];simp
    go_wp2_with fail;generalize wr.alloc (.cells #[.int .i64 xk,.int .i64 xn] 62)=W1 at *;refine(hv.o).mono ?_;rintro e W2 ⟨he,b2⟩;subst he;have B2:=qd ((HB.o.trans (BZ.o.mono hz)).trans (b2.mono (by have:=BZ.o.size;omega)));clear b2 hv;simp only[Bool.false_eq_true,if_false];go_wp2_with fail;refine(YO i te xe W2).mono ?_;rintro e W5 ⟨⟨t5,x5,rfl⟩,b5⟩;go_wp2_with fail;refine bodyPost_ret (v:=.iface t5 x5) (by simp[results,Tryz.results46,go_sem]) rfl (.err hf ?_);exact B0.o.trans (((B2.o.trans (b5.mono B2.o.size))).mono B0.o.size)
  ·obtain rfl:i=os.length:=by omega
   have hallo:=WL HPRE.o;have r0:=qh R0.o HB.o hz0;have y0:=qa r0 0;have y1:=qa r0 1;simp at y0 y1;have l0:=qe r0;clear r0;go_wp2_with fail;have B1:=qd (B0.o.trans (HB.o.mono (by omega)));have hz1:W.heap.size<=wr.heap.size:=hz;obtain⟨W2,rfl⟩:∃W2,W2=wr:=⟨_,rfl⟩
   have R1:=qd (qh R0.o HB.o hz0);clear y0 y1 l0 R0 HB hz hi B0 HPRE
   go_loopw [39] (fun p wr=>∃i:Nat,i<=es.length/\p=.int .i64 i/\(∀e ∈ es.take i,YF os e=true)/\Below W2.heap.size W2 wr) (fun p _=>es.length - (intOf p).toNat)
   case atStart=>exact⟨0,by omega,by go_num,by simp,Below.refl _ _⟩
   case round=>
    obtain⟨i,hi,rfl,hpre,hB⟩:=hrel;have HPRE:=qd hpre;have hz:=hB.size;have HB:=qd hB;clear hB hpre;by_cases hlt:i < es.length
    ·obtain ⟨b,off,x,hat,hb,hx,hc⟩:=HE.o.atF Ev.len rfl hlt
     have BW:=qd (B1.o.trans (HB.o.mono (by omega)));have c0:=qp BW.o hb (hc 0 (by decide));have c1:=qp BW.o hb (hc 1 (by decide));have c2:=qp BW.o hb (hc 2 (by decide));have c3:=qp BW.o hb (hc 3 (by decide));have c4:=qp BW.o hb (hc 4 (by decide));have c5:=qp BW.o hb (hc 5 (by decide));have c6:=qp BW.o hb (hc 6 (by decide));have c7:=qp BW.o hb (hc 7 (by decide));have hdx:=HED.o x (List.mem_of_getElem? hx);have HX:=qd hx;obtain⟨xk,xx,xh,xj,xo,xy,xv,xr⟩:=x;simp only at hdx;simp at c0 c1 c2 c3 c4 c5 c6 c7;have hbw:b < wr.heap.size:=by omega
     subst hat;clear hx hc;have bz:Below wr.heap.size wr (wr.alloc (.cells #[.int .i64 xk,.int .i64 xx,.int .i64 xh,.int .i64 xj,.int .i64 xo,.int .i64 xy,.int .i64 xv,.int .i64 xr] 69)):=(Below.refl _ wr).alloc (Nat.le_refl _) _;have rz:=qs wr (.cells #[.int .i64 xk,.int .i64 xx,.int .i64 xh,.int .i64 xj,.int .i64 xo,.int .i64 xy,.int .i64 xv,.int .i64 xr] 69);have hgz:=(HG.o.below B1.o).below (HB.o.trans (bz.mono hz));obtain⟨hgc,tc,xc,hec⟩:=hgz.code;obtain⟨hge,te,xe,hee⟩:=hgz.event;have hv:=qd (zW ⟨xk,xx,xh,xj,xo,xy,xv,xr⟩ hdx (wr.alloc (.cells #[.int .i64 xk,.int .i64 xx,.int .i64 xh,.int .i64 xj,.int .i64 xo,.int .i64 xy,.int .i64 xv,.int .i64 xr] 69)) ((HW.o.below B1.o).below (HB.o.trans (bz.mono hz))) _ _ hgc hec hge hee);have BZ:=qd bz;have RZ:=qd rz;clear bz rz hgc hec hge hee hgz;cases hval:xM ⟨xk,xx,xh,xj,xo,xy,xv,xr⟩ with
     |false=>
      rw[hval] at hv;have hf:xJ os es=false:=by unfold xJ;rw[YP (p:=YF os) HX.o (by unfold YF;rw[hval];rfl)];simp
      obtain⟨tv,xv',hvv⟩:∃t x,(if false=true then Value.nilIface else if (ub ⟨xk,xx,xh,xj,xo,xy,xv,xr⟩).isSome=true then .iface te xe else .iface tc xc)=.iface t x:=by
       cases (ub ⟨xk,xx,xh,xj,xo,xy,xv,xr⟩).isSome
       ·exact ⟨_,_,rfl⟩
       ·exact ⟨_,_,rfl⟩
      rw[hvv] at hv;go_wp2_with fail;generalize wr.alloc (.cells #[.int .i64 xk,.int .i64 xx,.int .i64 xh,.int .i64 xj,.int .i64 xo,.int .i64 xy,.int .i64 xv,.int .i64 xr] 69)=W3 at *;refine(hv.o).mono ?_;rintro e W4 ⟨he,b2⟩;subst he;have hz3:=BZ.o.size;have B2:=qd ((HB.o.trans (BZ.o.mono hz)).trans (b2.mono (by omega)));clear b2 hv;go_wp2_with fail;refine(YO i tv xv' W4).mono ?_;rintro e W5 ⟨⟨t5,x5,rfl⟩,b5⟩;go_wp2_with fail;refine bodyPost_ret (v:=.iface t5 x5) (by simp[results,Tryz.results46,go_sem]) rfl (.err hf ?_);exact B1.o.trans (((B2.o.trans (b5.mono B2.o.size))).mono B1.o.size)
     |true=>
      rw[hval] at hv;go_wp2_with fail;generalize wr.alloc (.cells #[.int .i64 xk,.int .i64 xx,.int .i64 xh,.int .i64 xj,.int .i64 xo,.int .i64 xy,.int .i64 xv,.int .i64 xr] 69)=W3 at *;refine(hv.o).mono ?_;rintro e W4 ⟨he,b2⟩;subst he;have hz3:=BZ.o.size;have B2:=qd ((HB.o.trans (BZ.o.mono hz)).trans (b2.mono (by omega)));have BX:=qd (BW.o.trans ((BZ.o.trans (b2.mono hz3)).mono (by omega)));have r4:=qh RZ.o b2 (qe RZ.o);have l4:=qe r4;have y:=qa r4;have y0:=y 0;have y3:=y 3;have y4:=y 4;simp at y0 y3 y4;have rh:=qh R1.o B2.o (qe R1.o);have lh:=qe rh;have h0:=qa rh 0;simp at h0;clear y r4 b2 hv c0 c1 c2 c3 c4 c5 c6 c7 rh;by_cases hk:xk=2
      ·subst hk
       obtain⟨hj0,hj7⟩:=JH hval rfl;simp only at hj0 hj7;obtain⟨c,rfl⟩:∃c:Nat,xj=c:=⟨xj.toNat,by omega⟩
       obtain⟨hgo,tq,xq,heq⟩:=(HG.o.below B1.o).below B2.o |>.object;obtain⟨hgp,tp,xp,hep⟩:=(HG.o.below B1.o).below B2.o |>.op;by_cases hcl:c < os.length
       case neg=>
        have hf:xJ os es=false:=by
         unfold xJ;rw[YP (p:=YF os) HX.o (by unfold YF;simp only[Int.toNat_natCast];rw[List.getElem?_eq_none (by omega)];simp)];simp
        have q5:decide (os.length<=c)=true:=by simp;omega
        go_wp2_with fail;refine(YO i tq xq W4).mono ?_;rintro e W5 ⟨⟨t5,x5,rfl⟩,b5⟩;go_wp2_with fail;refine bodyPost_ret (v:=.iface t5 x5) (by simp[results,Tryz.results46,go_sem]) rfl (.err hf ?_);exact B1.o.trans (((B2.o.trans (b5.mono B2.o.size))).mono B1.o.size)
       obtain⟨b',off',o,hat',hb',hx',hc'⟩:=HO.o.atF Ob.len rfl hcl;have k0:=qp BX.o hb' (hc' 0 (by decide));obtain⟨ok,on⟩:=o;simp at k0;have hzB:=BX.o.size;have hbw':b' < W4.heap.size:=by omega
       have q5:decide (os.length<=c)=false:=by simp;omega
       subst hat';have HX':=qd hx';clear hx' hc';go_wp2_with fail;have Z4:=qd (Below.refl W4.heap.size W4);have HDR:=qd B2.o.drew;refine qD (W4.heap.size) [0,1,3,0,1,0,1,0,0,1,0] (.fin [0,1,3,4,5,6,7,8,9,2,10]) (by kernel_rfl) ?_;simp only[xC,qJ,qu,sD,sE,sF,sG]
       repeat first|(refine qq fun K hK=>?_;go_simp;refine hK _ _ ?_;clear hK K)|(apply qx;(intro w2 hw2;have hk1:=hw2.cell;have hk3:=hw2.1;clear hw2;go_simp;with_reducible rfl);simp only[Act.put,sA,sB,sC])
       refine qC (fun K hK=>?_);go_simp;refine(NR xo _).mono ?_;rintro e W5 ⟨he,hw5⟩;subst he;refine hK _ _ (by rw[hw5];exact RN.KeepsN.of_below (Below.refl _ _)) ?_;clear hK K;rw[hw5];clear hw5 W5
       repeat first|(refine qq fun K hK=>?_;go_simp;refine hK _ _ ?_;clear hK K)|refine qm ?_
       cases hop:(jL xo==ok) with
       |true=>
        have q7:(jL xo !=ok)=false:=by show(!(jL xo==ok))=false;rw[hop];rfl
        go_wp2_with fail;go_roundw
        case rel=>exact⟨i+1,by omega,by go_num,Jd HPRE.o HX.o (by unfold YF;simp only[Int.toNat_natCast];rw[hval,HX'.o];simp[hop]),HDR.o⟩
        case measure=>simp[intOf];omega
       |false=>
        have q7:(jL xo !=ok)=true:=by show(!(jL xo==ok))=true;rw[hop];rfl
        have hf:xJ os es=false:=by
         unfold xJ;rw[YP (p:=YF os) HX.o (by unfold YF;simp only[Int.toNat_natCast];rw[hval,HX'.o];simp[hop])];simp
        go_wp2_with fail;refine(YO i tp xp _).mono ?_;rintro e W5 ⟨⟨t5,x5,rfl⟩,b5⟩;go_wp2_with fail;refine bodyPost_ret (v:=.iface t5 x5) (by simp[results,Tryz.results46,go_sem]) rfl (.err hf ?_);exact B1.o.trans (((HDR.o.trans (b5.mono HDR.o.size))).mono B1.o.size)
      ·have q5:(xk==2)=false:=by simpa using hk
       have q6:(xk !=2)=true:=by simpa using hk
       go_wp2_with fail;go_roundw
       case rel=>exact⟨i+1,by omega,by go_num,Jd HPRE.o HX.o (by unfold YF;rw[hval];simp[hk]),B2.o⟩
       case measure=>simp[intOf];omega
    ·obtain rfl:i=es.length:=by omega
     have halle:=WL HPRE.o;go_wp2;go_ret;refine .nil (by unfold xJ;rw[hallo,halle];simp[hr8,hr4]) ?_;exact B1.o.trans (HB.o.mono B1.o.size)
end
section
attribute [local irreducible] xL
structure zj (S:Nat->Prop) (w w':World):Prop where
 os:w'.os=w.os
 tape:w'.tape=w.tape
 output:w'.output=w.output
 size:w.heap.size<=w'.heap.size
 keep:∀k,k < w.heap.size->¬S k->w'.heap[k]?=w.heap[k]?
section
variable {S T:Nat->Prop} {w w' w1:World}
theorem zj.refl (w:World):zj S w w:=⟨rfl,rfl,rfl,Nat.le_refl _,fun _ _ _=>rfl⟩
theorem zj.trans (h:zj S w w1) (k:zj T w1 w') (hT:∀j,j < w.heap.size->T j->S j):zj S w w':=
 ⟨k.os.trans h.os,k.tape.trans h.tape,k.output.trans h.output,Nat.le_trans h.size k.size,fun j hj hs=>(k.keep j (Nat.lt_of_lt_of_le hj h.size) fun ht=>hs (hT j hj ht)).trans (h.keep j hj hs)⟩
theorem zj.mono (h:zj S w w') (hS:∀j,S j->T j):zj T w w':=⟨h.os,h.tape,h.output,h.size,fun j hj ht=>h.keep j hj fun hs=>ht (hS j hs)⟩
theorem zj.of_below (h:Below w.heap.size w w'):zj S w w':=⟨h.os,h.tape,h.output,h.size,fun j hj _=>h.block j hj⟩
theorem zj.below {B:Nat} (h:zj S w w') (hS:∀j,S j->B<=j) (hB:B<=w.heap.size):Below B w w':=⟨h.os,h.tape,h.output,h.size,fun j hj=>h.keep j (by omega) fun hs=>by have:=hS j hs;omega⟩
theorem zj.set (h:zj S w w') {g j:Nat} {v:Value} (hg:S g):zj S w (w'.setCell ⟨g,j,none⟩ v):=
 ⟨h.os,h.tape,h.output,by have:=h.size;rw[show (w'.setCell ⟨g,j,none⟩ v).heap.size=w'.heap.size from by simp];exact this,fun k hk hs=>(Go.RowKit.Below.heap_setCell _ _ _ _ (by rintro rfl;exact hs hg)).trans (h.keep k hk hs)⟩
theorem zj.alloc (h:zj S w w') (o:Obj):zj S w (w'.alloc o):=⟨h.os,h.tape,h.output,by have:=h.size;simp;omega,fun k hk hs=>(heap_alloc_old w' o (by have:=h.size;omega)).trans (h.keep k hk hs)⟩
theorem zj.drew (h:zj S w w'):zj S w w'.drew:=⟨h.os,h.tape,h.output,h.size,h.keep⟩
theorem zj.turned {b:Nat} (h:w.mapTurned w' b) (hb:S b):zj S w w':=by
 obtain⟨es,c,es',c',hh,rfl⟩:=h;exact⟨rfl,rfl,rfl,by simp[ChangeMaps.setBlock],fun k hk hs=>Go.ChangeMaps.heap_setBlock_other hh _ (by rintro rfl;exact hs hb)⟩
theorem zj.grw {v v':Value} (h:Yz w w' v v') (hv:∀k,v.ownBlock=some k->S k):zj S w w':=
 ⟨h.grown.os,h.grown.tape,h.grown.output,h.grown.size,fun k hk hs=>h.grown.block k hk fun e=>hs (hv k e.symm)⟩
theorem zj.row {g:Nat} {x:Obj} (h:zj S w w') (hg:w.heap[g]?=some x) (hs:¬S g):w'.heap[g]?=some x:=(h.keep g (qe hg) hs).trans hg
theorem qj.typ {α:Type} {f:α->List Value} {e:TypeId} {sz B:Nat} {v:Value} {l:List α} (h:qj f e sz w B v l) {g:Nat} (hg:v.ownBlock=some g):∃cs fz,w.heap[g]?=some (.cells cs e fz):=by
 obtain⟨-,h2⟩:=h;rcases h2 with⟨rfl,-⟩|⟨g',cap,cur,rfl,-,hh,-⟩
 ·cases hg
 ·simp only[Value.ownBlock,Option.some.injEq] at hg
  subst hg;exact⟨_,_,hh⟩
theorem qj.chg {α:Type} {f:α->List Value} {e:TypeId} {sz B:Nat} {v:Value} {l:List α} (h:qj f e sz w B v l) (hc:zj S w w') (hs:∀g,v.ownBlock=some g->¬S g):qj f e sz w' B v l:=by
 obtain⟨h1,h2⟩:=h;refine⟨h1,?_⟩;rcases h2 with h2|⟨g,cap,cur,rfl,hg,hh,r⟩
 ·exact .inl h2
 ·exact .inr ⟨g,cap,cur,rfl,hg,hc.row hh (hs g rfl),r⟩
theorem qL.chg {b:Nat} {M:Int->Option Value} (h:qL w b M) (hc:zj S w w') (hs:¬S b):qL w' b M:=h.obj (hc.keep b h.lt hs)
end
def uH (s:St) (dv:Value):List Value:=[.int .i64 s.id,.int .i64 s.thread,.int .i64 s.status,.int .i64 s.beg,.int .i64 s.fin,.int .i64 s.tri,dv,.int .i64 s.stand]
abbrev XH (w:World) (B:Nat) (v:Value) (l:List Dd):Prop:=qj Dd.cells 112 8 w B v l
structure jf (w:World) (B:Nat) (p:Nat×Value) (s:St):Prop where
 row:w.heap[p.1]?=some (.cells (uH s p.2).toArray 179 (0,0))
 hB:B<=p.1
 dds:XH w B p.2 s.deeds
def Kc (p:Nat×Value):Nat->Prop:=fun k=>k=p.1\/p.2.ownBlock=some k
def xE (g:Nat):Value:=.pointer (some ⟨g,0,none⟩)
def BzIs (M:Int->Option Value) (Z:Int->Prop):Prop:=(∀x,¬Z x->M x=none)/\∀x,Z x->∃g,M x=some (xE g)
structure uk (w:World) (B bA bY bZ:Nat) (ov tv:Value) (os:List Ob) (n:Nat) (A:Au) (Z:Int->Prop) (bs:List (Nat×Value)):Prop where
 row:w.heap[bA]?=some (.cells #[ov,.int .i64 n,tv,.map (some bY),.map (some bZ)] 176 (0,0))
 hB:B<=bA
 obs:qj Ob.cells 62 2 w B ov os
 txs:qj XL 177 1 w B tv (bs.map fun p=>xE p.1)
 len:bs.length=A.length
 sts:∀(k:Nat) (p:Nat×Value) (s:St),bs[k]?=some p->A[k]?=some s->jf w B p s
 nod:(bs.map (·.1)).Nodup
 dis:∀(j k:Nat) (p q:Nat×Value),bs[j]?=some p->bs[k]?=some q->j≠k->∀g,p.2.ownBlock=some g->q.2.ownBlock≠some g
 by_:B<=bY/\∃M,qL w bY M/\(∀(k:Nat) (p:Nat×Value) (s:St),bs[k]?=some p->A[k]?=some s->M s.id=some (xE p.1))/\∀x,¬ut x A->M x=none
 bz:B<=bZ/\∃M,qL w bZ M/\BzIs M Z
 ne:bY≠bZ
def un (w:World) (B bA:Nat) (os:List Ob) (n:Nat) (A:Au):Prop:=∃bY bZ ov tv bs,uk w B bA bY bZ ov tv os n A (fun x=>yJ x A) bs
section
variable {w w':World} {B bA bY bZ n:Nat} {ov tv:Value} {os:List Ob} {A:Au} {Z:Int->Prop} {bs:List (Nat×Value)}
theorem jf.typ {p:Nat×Value} {s:St} (h:jf w B p s) {k:Nat} (hk:Kc p k):∃cs t fz,w.heap[k]?=some (.cells cs t fz)/\(t=179\/t=112):=by
 rcases hk with rfl|hk
 ·exact ⟨_,_,_,h.row,.inl rfl⟩
 ·obtain ⟨cs,fz,hh⟩:=qj.typ h.dds hk
  exact⟨_,_,_,hh,.inr rfl⟩
theorem jf.ge {p:Nat×Value} {s:St} (h:jf w B p s) {k:Nat} (hk:Kc p k):B<=k:=by
 rcases hk with rfl|hk
 ·exact h.hB
 ·exact (qj.lt h.dds k hk).1
theorem jf.notCells {p:Nat×Value} {s:St} (h:jf w B p s) {g:Nat} {cs:Array Value} {t:TypeId} {fz:Nat×Nat} (hg:w.heap[g]?=some (.cells cs t fz)) (h1:t≠179) (h2:t≠112):¬Kc p g:=fun hk=>by
 obtain⟨cs',t',fz',hh,ht⟩:=h.typ hk;rw[hg] at hh;simp only[Option.some.injEq,Obj.cells.injEq] at hh;rcases ht with ht|ht
 ·exact h1 (hh.2.1.trans ht)
 ·exact h2 (hh.2.1.trans ht)
theorem jf.notMap {p:Nat×Value} {s:St} (h:jf w B p s) {g:Nat} (hg:∃es c,w.heap[g]?=some (.map es c)):¬Kc p g:=fun hk=>by
 obtain⟨cs',t',fz',hh,-⟩:=h.typ hk;obtain⟨es,c,hg⟩:=hg;rw[hg] at hh;cases hh
theorem uk.get (h:uk w B bA bY bZ ov tv os n A Z bs) {k:Nat} {s:St} (hs:A[k]?=some s):∃p,bs[k]?=some p/\jf w B p s:=by
 have hk:=(List.getElem?_eq_some_iff.1 hs).1;obtain⟨p,hp⟩:∃p,bs[k]?=some p:=⟨_,List.getElem?_eq_getElem (by rw[h.len];exact hk)⟩
 exact⟨p,hp,h.sts k p s hp hs⟩
theorem uk.apart (h:uk w B bA bY bZ ov tv os n A Z bs) {j k:Nat} {p q:Nat×Value} {s t:St} (hp:bs[j]?=some p) (hq:bs[k]?=some q) (hs:A[j]?=some s) (ht:A[k]?=some t) (hne:j≠k) {g:Nat} (hg:Kc p g):¬Kc q g:=by
 have hj:=(List.getElem?_eq_some_iff.1 hp).1;rcases hg with rfl|hg
 ·rintro (hk|hk)
  ·have:=(List.getElem?_inj (i:=j) (j:=k) (by simpa using hj) h.nod).1 (by simp[hp,hq,hk])
   exact hne this
  ·obtain ⟨cs,fz,hh⟩:=qj.typ (h.sts k q t hq ht).dds hk
   rw[(h.sts j p s hp hs).row] at hh;simp at hh
 ·rintro (hk|hk)
  ·obtain ⟨cs,fz,hh⟩:=qj.typ (h.sts j p s hp hs).dds hg
   rw[hk,(h.sts k q t hq ht).row] at hh;simp at hh
  ·exact h.dis j k p q hp hq hne g hg hk
theorem jf.chg {S:Nat->Prop} {p:Nat×Value} {s:St} (h:jf w B p s) (hc:zj S w w') (hs:∀g,Kc p g->¬S g):jf w' B p s:=⟨hc.row h.row (hs _ (.inl rfl)),h.hB,qj.chg h.dds hc fun g hg=>hs g (.inr hg)⟩
theorem uk.chg {S:Nat->Prop} (h:uk w B bA bY bZ ov tv os n A Z bs) (hc:zj S w w') (hS:∀k,k < w.heap.size->¬S k):uk w' B bA bY bZ ov tv os n A Z bs:=by
 have hw:∀k x,w.heap[k]?=some x->¬S k:=fun k x hx=>hS k (qe hx);refine⟨hc.row h.row (hw _ _ h.row),h.hB,qj.chg h.obs hc fun g hg=>hS g (qj.lt h.obs g hg).2,qj.chg h.txs hc fun g hg=>hS g (qj.lt h.txs g hg).2,h.len,fun k p s hp hs=>(h.sts k p s hp hs).chg hc fun g hg=>?_,h.nod,h.dis,⟨h.by_.1,?_⟩,⟨h.bz.1,?_⟩,h.ne⟩
 ·obtain ⟨cs,t,fz,hh,-⟩:=(h.sts k p s hp hs).typ hg
  exact hw _ _ hh
 ·obtain ⟨M,h1,h2⟩:=h.by_.2
  exact⟨M,h1.chg hc (hS _ h1.lt),h2⟩
 ·obtain ⟨M,h1,h2⟩:=h.bz.2
  exact⟨M,h1.chg hc (hS _ h1.lt),h2⟩
theorem uk.below (h:uk w B bA bY bZ ov tv os n A Z bs) (hb:Below w.heap.size w w'):uk w' B bA bY bZ ov tv os n A Z bs:=h.chg (S:=fun _=>False) (zj.of_below hb) (fun _ _ h=>h)
theorem uk.moved (h:uk w B bA bY bZ ov tv os n A Z bs) {k:Nat} {p:Nat×Value} {s s':St} (hp:bs[k]?=some p) (hs:A[k]?=some s) (hc:zj (Kc p) w w') {dv:Value} (hst:jf w' B (p.1,dv) s') (qd:s'.id=s.id) (hth:s'.thread=s.thread)
  (hdv:∀g,dv.ownBlock=some g->p.2.ownBlock=some g\/w.heap.size<=g):uk w' B bA bY bZ ov tv os n (A.set k s') Z (bs.set k (p.1,dv)):=by
 have hsp:=h.sts k p s hp hs;have hmap:(bs.set k (p.1,dv)).map (fun p=>xE p.1)=bs.map fun p=>xE p.1:=by
  apply List.ext_getElem?;intro j;by_cases e:k=j
  ·subst e
   rw[List.getElem?_map,List.getElem?_map,List.getElem?_set_self (List.getElem?_eq_some_iff.1 hp).1,hp];rfl
  ·rw [List.getElem?_map,List.getElem?_map,List.getElem?_set_ne e]
 have hmap1:(bs.set k (p.1,dv)).map (·.1)=bs.map (·.1):=by
  apply List.ext_getElem?;intro j;by_cases e:k=j
  ·subst e
   rw[List.getElem?_map,List.getElem?_map,List.getElem?_set_self (List.getElem?_eq_some_iff.1 hp).1,hp];rfl
  ·rw [List.getElem?_map,List.getElem?_map,List.getElem?_set_ne e]
 have fresh:∀(j:Nat) (q:Nat×Value) (t:St),bs[j]?=some q->A[j]?=some t->∀g,q.2.ownBlock=some g->g < w.heap.size:=fun j q t hq ht g hg=>(qj.lt (h.sts j q t hq ht).dds g hg).2;have getA:∀(j:Nat) (q:Nat×Value),bs[j]?=some q->∃t,A[j]?=some t:=fun j q hq=>⟨_,List.getElem?_eq_getElem (by rw[←h.len];exact(List.getElem?_eq_some_iff.1 hq).1)⟩
 refine⟨hc.row h.row (hsp.notCells h.row (by decide) (by decide)),h.hB,qj.chg h.obs hc fun g hg=>?_,?_,by simpa using h.len,fun j q t hq ht=>?_,by rw[hmap1];exact h.nod,fun i j q r hq hr hne g hg=>?_,⟨h.by_.1,?_⟩,⟨h.bz.1,?_⟩,h.ne⟩
 ·obtain ⟨cs,fz,hh⟩:=qj.typ h.obs hg
  exact hsp.notCells hh (by decide) (by decide)
 ·rw [hmap]
  refine qj.chg h.txs hc fun g hg=>?_;obtain⟨cs,fz,hh⟩:=qj.typ h.txs hg;exact hsp.notCells hh (by decide) (by decide)
 ·rcases yQ hq with⟨rfl,rfl⟩|⟨hne,hq⟩
  ·rcases yQ ht with⟨-,rfl⟩|⟨hne,-⟩
   ·exact hst
   ·exact absurd rfl hne
  ·rw [List.getElem?_set_ne hne] at ht
   exact(h.sts j q t hq ht).chg hc fun g hg=>h.apart hq hp ht hs (Ne.symm hne) hg
 ·rcases yQ hq with⟨rfl,rfl⟩|⟨hne1,hq⟩
  ·rw [List.getElem?_set_ne hne] at hr
   obtain⟨t,ht⟩:=getA j r hr;rcases hdv g hg with h1|h1
   ·exact h.dis k j p r hp hr hne g h1
   ·intro h2
    have:=fresh j r t hr ht g h2;omega
  ·rcases yQ hr with⟨rfl,rfl⟩|⟨hne2,hr⟩
   ·intro h2
    obtain⟨t,ht⟩:=getA i q hq;rcases hdv g h2 with h1|h1
    ·exact h.dis i k q p hq hp hne g hg h1
    ·have:=fresh i q t hq ht g hg
     omega
   ·exact h.dis i j q r hq hr hne g hg
 ·obtain ⟨M,h1,h2,h3⟩:=h.by_.2
  refine⟨M,h1.chg hc (hsp.notMap h1.isMap),fun j q t hq ht=>?_,fun x hx=>h3 x fun hh=>hx ?_⟩
  ·rcases yQ hq with⟨rfl,rfl⟩|⟨hne,hq⟩
   ·rcases yQ ht with⟨-,rfl⟩|⟨hne,-⟩
    ·rw [qd];exact h2 k p s hp hs
    ·exact absurd rfl hne
   ·rw [List.getElem?_set_ne hne] at ht
    exact h2 j q t hq ht
  ·obtain ⟨t,ht,hti⟩:=hh
   obtain⟨j,hj⟩:=List.mem_iff_getElem?.1 ht;by_cases e:k=j
   ·subst e
    rw[hs] at hj;obtain rfl:=Option.some.inj hj;exact⟨s',vd hs,qd.trans hti⟩
   ·exact ⟨t,List.mem_iff_getElem?.2 ⟨j,by rw[List.getElem?_set_ne e];exact hj⟩,hti⟩
 ·obtain ⟨M,h1,h2⟩:=h.bz.2
  exact⟨M,h1.chg hc (hsp.notMap h1.isMap),h2⟩
theorem uk.zmono {Z':Int->Prop} (h:uk w B bA bY bZ ov tv os n A Z bs) (hz:∀x,Z x↔Z' x):uk w B bA bY bZ ov tv os n A Z' bs:=
 ⟨h.row,h.hB,h.obs,h.txs,h.len,h.sts,h.nod,h.dis,h.by_,⟨h.bz.1,let ⟨M,h1,h2⟩:=h.bz.2;⟨M,h1,fun x hx=>h2.1 x fun e=>hx ((hz x).1 e),fun x hx=>h2.2 x ((hz x).2 hx)⟩⟩,h.ne⟩
end
end
section
attribute [local irreducible] xL
def Yy (w:World) (B:Nat) (p:Nat×Value) (s':St) (e:Ending) (w':World):Prop:=e=.returned .nilIface/\∃dv,jf w' B (p.1,dv) s'/\zj (Kc p) w w'/\∀g,dv.ownBlock=some g->p.2.ownBlock=some g\/w.heap.size<=g
theorem jf.own {w w':World} {B p:Nat} {dv:Value} {s s':St} (h:jf w B (p,dv) s) (hc:zj (fun k=>k=p) w w') (hr:w'.heap[p]?=some (.cells (uH s' dv).toArray 179 (0,0))) (hd:s'.deeds=s.deeds):∃dv',jf w' B (p,dv') s'/\zj (Kc (p,dv)) w w'/\∀g,dv'.ownBlock=some g->dv.ownBlock=some g\/w.heap.size<=g:=by
 refine⟨dv,⟨hr,h.hB,?_⟩,hc.mono fun j hj=>.inl hj,fun g hg=>.inl hg⟩;rw[hd];refine qj.chg h.dds hc fun g hg hk=>?_;obtain⟨cs,fz,hh⟩:=qj.typ h.dds hg;rw[hk,h.row] at hh;simp at hh
section
variable {w:World} {B p:Nat} {dv:Value} {s:St}
theorem mv_can (xk xx xh xj xo xy xv xr:Int) (n:Nat) (h:jf w B (p,dv) s):
  Calls Tryz.prog 176 #[.pointer (some ⟨p,0,none⟩),Ql ⟨xk,xx,xh,xj,xo,xy,xv,xr⟩,.int .i64 n] w (Yy w B (p,dv) (Vr s)):=by
 have l0:=qe h.row;have H:=qd h;have r0:=h.row;have y:=qa r0;have y0:=y 0;have y1:=y 1;have y2:=y 2;have y3:=y 3;have y4:=y 4;have y5:=y 5;have y6:=y 6;have y7:=y 7;simp[uH] at y0 y1 y2 y3 y4 y5 y6 y7;have yf:∀j,w.frozen? ⟨p,j,none⟩=false:=fun j=>qt r0 j;have R0:=qd r0;clear y h r0;go_enter Tryz.func176,Tryz.ntmps176;go_wp2;go_ret;have r1:=qn R0.o 7 (.int .i64 4);have rz:=qy (o:=.cells #[.int .i64 xk,.int .i64 xx,.int .i64 xh,.int .i64 xj,.int .i64 xo,.int .i64 xy,.int .i64 xv,.int .i64 xr] 69) r1;exact⟨rfl,H.o.own (s':=(Vr s)) (((zj.refl (S:=fun k=>k=p) w).set (g:=p) (j:=7) rfl (v:=.int .i64 4)).alloc _) rz rfl⟩
theorem mv_try (xk xx xh xj xo xy xv xr:Int) (n:Nat) (h:jf w B (p,dv) s):
  Calls Tryz.prog 175 #[.pointer (some ⟨p,0,none⟩),Ql ⟨xk,xx,xh,xj,xo,xy,xv,xr⟩,.int .i64 n] w (Yy w B (p,dv) (UH n s)):=by
 have l0:=qe h.row;have H:=qd h;have r0:=h.row;have y:=qa r0;have y0:=y 0;have y1:=y 1;have y2:=y 2;have y3:=y 3;have y4:=y 4;have y5:=y 5;have y6:=y 6;have y7:=y 7;simp[uH] at y0 y1 y2 y3 y4 y5 y6 y7;have yf:∀j,w.frozen? ⟨p,j,none⟩=false:=fun j=>qt r0 j;have R0:=qd r0;clear y h r0;go_enter Tryz.func175,Tryz.ntmps175;go_wp2;go_ret;have r1:=qn R0.o 7 (.int .i64 3);have r2:=qn r1 5 (.int .i64 n);have r3:=qn r2 2 (.int .i64 2);have rz:=qy (o:=.cells #[.int .i64 xk,.int .i64 xx,.int .i64 xh,.int .i64 xj,.int .i64 xo,.int .i64 xy,.int .i64 xv,.int .i64 xr] 69) r3;exact⟨rfl,H.o.own (s':=(UH n s)) (((((zj.refl (S:=fun k=>k=p) w).set (g:=p) (j:=7) rfl (v:=.int .i64 3)).set (g:=p) (j:=5) rfl (v:=.int .i64 n)).set (g:=p) (j:=2) rfl (v:=.int .i64 2)).alloc _) rz rfl⟩
theorem mv_end (xk xx xh xj xo xy xv xr:Int) (n:Nat) (c:Nat) (st:Int) (hc:w.heap[c]?=some (.cells #[.int .i64 st] 3 (0,0))) (hcp:c≠p) (h:jf w B (p,dv) s):
  Calls Tryz.prog 171 #[.pointer (some ⟨p,0,none⟩),Ql ⟨xk,xx,xh,xj,xo,xy,xv,xr⟩,.int .i64 n,.pointer (some ⟨c,0,none⟩)] w (Yy w B (p,dv) (Qr st n s)):=by
 have l0:=qe h.row;have H:=qd h;have r0:=h.row;have y:=qa r0;have y0:=y 0;have y1:=y 1;have y2:=y 2;have y3:=y 3;have y4:=y 4;have y5:=y 5;have y6:=y 6;have y7:=y 7;simp[uH] at y0 y1 y2 y3 y4 y5 y6 y7;have yf:∀j,w.frozen? ⟨p,j,none⟩=false:=fun j=>qt r0 j;have R0:=qd r0;clear y h r0;have hc0:=qa hc 0;have lc:=qe hc;simp at hc0;clear hc;go_enter Tryz.func171,Tryz.ntmps171;go_wp2_with fail;obtain⟨W,hW⟩:∃W,W=w.alloc (.cells #[.int .i64 xk,.int .i64 xx,.int .i64 xh,.int .i64 xj,.int .i64 xo,.int .i64 xy,.int .i64 xv,.int .i64 xr] 69):=⟨_,rfl⟩
 have bW:Below w.heap.size w W:=by rw[hW];exact(Below.refl _ w).alloc (Nat.le_refl _) _
 rw[←hW];have r1:=qh R0.o bW l0;clear y0 y1 y2 y3 y4 y5 y6 y7 yf;have y:=qa r1;have y0:=y 0;have y1:=y 1;have y2:=y 2;have y3:=y 3;have y4:=y 4;have y5:=y 5;have y6:=y 6;have y7:=y 7;simp[uH] at y0 y1 y2 y3 y4 y5 y6 y7;have yf:∀j,W.frozen? ⟨p,j,none⟩=false:=fun j=>qt r1 j;have l1:=qe r1;have lcW:w.heap.size<=W.heap.size:=bW.size;have hc0:=qp bW lc hc0;have lc1:c < W.heap.size:=by omega
 have R1:=qd r1;have BW:=qd bW;clear y r1 bW hW;refine My (fun k=>k=c) [0,0,0,0,1,0,0,3,0,0,0,3,0,0,0,3] (.fin [0,1,2,3,4,5,6,7,8,9,10,11,12,13,14,15]) (by kernel_rfl) ?_;simp only[xC,qJ,qu,sD,sE,sF,sG]
 repeat first|(refine qq fun K hK=>?_;go_simp;refine hK _ _ ?_;clear hK K)|(apply qx;(intro w2 hw2;have hk1:=hw2.cell;(try simp only at hk1);have hk3:=hw2.1;clear hw2;go_simp;with_reducible rfl);simp only[Act.put,sA,sB,sC])
 refine qC (fun K hK=>?_);go_simp;refine hK _ _ (RK.KeepsN.set _ _ _ (fun h=>hcp h.symm)) ?_;clear hK K
 repeat (refine qq fun K hK=>?_;go_simp;refine hK _ _ ?_;clear hK K)
 refine qC (fun K hK=>?_);go_simp;refine hK _ _ (RK.KeepsN.set _ _ _ (fun h=>hcp h.symm)) ?_;clear hK K
 repeat (refine qq fun K hK=>?_;go_simp;refine hK _ _ ?_;clear hK K)
 refine qC (fun K hK=>?_);go_simp;refine hK _ _ (RK.KeepsN.set _ _ _ (fun h=>hcp h.symm)) ?_;clear hK K
 repeat refine qm ?_
 go_wp2;go_ret;have r2:=qn (zS R1.o) 7 (.int .i64 5);have r3:=qn r2 4 (.int .i64 n);have r4:=qn r3 2 (.int .i64 st);have hcg:zj (fun k=>k=p) w W.drew:=(zj.of_below BW.o).drew;exact⟨rfl,H.o.own (s':=Qr st n s) (((hcg.set (g:=p) (j:=7) rfl (v:=.int .i64 5)).set (g:=p) (j:=4) rfl (v:=.int .i64 n)).set (g:=p) (j:=2) rfl (v:=.int .i64 st)) r4 rfl⟩
end
end
section
attribute [local irreducible] xL
theorem s_Index (v:Value) (l:List Int) (x:Int) (j:Nat) (w:World) (h:Sl w w.heap.size 1 v l.length (l.map (.int .i64))) (hj:l[j]?=some x) (hn:∀i:Nat,i < j->l[i]?≠some x):
  Calls Tryz.prog 177 #[v,.int .i64 x] w fun e w'=>e=.returned (.int .i64 j)/\w'=w:=by
 obtain⟨a,c,rfl,hm⟩:=h.ex;have hl:=(List.getElem?_eq_some_iff.1 hj).1;have H:=qd h;have HJ:=qd hj;have HN:=qd hn;clear h hj hn;go_enter Tryz.func177,Tryz.ntmps177;go_wp2_with fail;obtain⟨W,rfl⟩:∃W,W=w:=⟨_,rfl⟩
 go_loopw [8] (fun p wr=>∃i:Nat,i<=j/\p=.int .i64 i/\wr=W) (fun p _=>j - (intOf p).toNat)
 case atStart=>exact⟨0,by omega,by go_num,rfl⟩
 case round=>
  obtain⟨i,hi,rfl,rfl⟩:=hrel;have hil:i < l.length:=by omega
  obtain⟨b,off,u,hat,hb,hx,hc⟩:=H.o.at1 hil;subst hat;have hx2:∃y,l[i]?=some y/\u=.int .i64 y:=by
   rw[List.getElem?_map] at hx;cases hy:l[i]? with
   |none=>rw[hy] at hx;cases hx
   |some y=>rw[hy] at hx;exact⟨y,rfl,by simpa using hx.symm⟩
  obtain⟨y,hy,rfl⟩:=hx2;clear hx;by_cases hij:i=j
  ·subst hij
   have e1:y=x:=by rw[HJ.o] at hy;exact(Option.some.inj hy).symm
   subst e1;clear hy;go_wp2;go_ret;exact⟨rfl,rfl⟩
  ·have e1:(x==y)=false:=by
    have:=HN.o i (by omega);rw[hy] at this;simp only[ne_eq,Option.some.injEq] at this;simp;omega
   clear hy;go_wp2_with fail;go_roundw
   case rel=>exact⟨i+1,by omega,by go_num,trivial⟩
   case measure=>simp[intOf];omega
theorem first_at (l:List Int) (x:Int) (h:x ∈ l):∃j:Nat,l[j]?=some x/\∀i:Nat,i < j->l[i]?≠some x:=by
 induction l with
 |nil=>cases h
 |cons y l ih=>
  by_cases e:y=x
  ·subst e
   exact⟨0,rfl,fun i hi=>by omega⟩
  ·have:x ∈ l:=by
    rcases List.mem_cons.1 h with h|h
    ·exact absurd h.symm e
    ·exact h
   obtain⟨j,h1,h2⟩:=ih this;refine⟨j+1,by simpa using h1,fun i hi=>?_⟩;cases i with
   |zero=>simpa using e
   |succ i=>simpa using h2 i (by omega)
theorem QH (v:Value) (l:List Int) (x:Int) (w:World) (h:Sl w w.heap.size 1 v l.length (l.map (.int .i64))) (hx:x ∈ l):
  Calls Tryz.prog 129 #[v,.int .i64 x] w fun e w'=>e=.returned (.bool true)/\w'=w:=by
 obtain⟨a,c,rfl,hm⟩:=h.ex;obtain⟨j,h1,h2⟩:=first_at l x hx;have hl:=(List.getElem?_eq_some_iff.1 h1).1;have hi:=qd (s_Index _ l x j w h h1 h2);clear h h1 h2 hx;have q:decide ((j:Int)>=0)=true:=by simp
 have q2:decide (0<=(j:Int))=true:=by simp
 go_enter Tryz.func129,Tryz.ntmps129;go_wp2_with fail;refine hi.o.mono ?_;rintro e w1 ⟨rfl,rfl⟩;go_wp2;go_ret;exact⟨rfl,rfl⟩
end
section
attribute [local irreducible] xL
theorem ZA:(Tryz.prog.info? 112).map (fun i=>(i.zero,i.size,i.bytes))=some (some (.agg #[.int .i64 0,.int .i64 0,.int .i64 0,.int .i64 0,.int .i64 0,.int .i64 0,.int .i64 0,.int .i64 0]),8,64):=by kernel_rfl
theorem Vo (x:Dd):∀u ∈ x.cells,u.oneCell'=true:=by intro u hu;simp[Dd.cells] at hu;rcases hu with rfl|rfl|rfl|rfl|rfl|rfl|rfl|rfl <;> rfl
theorem Vp {l:List Dd} {d:Dd} (h:l.getLast?=some d):l=l.dropLast++[d]:=by
 obtain⟨ys,h1⟩:=List.getLast?_eq_some_iff.1 h;rw[h1];simp
theorem Wz {α:Type} {f:α->List Value} {sz:Nat} (hf:∀x,(f x).length=sz):∀(l:List α) (k j:Nat) (x x':α) (u:Value),l[k]?=some x->j < sz->f x'=(f x).set j u->(l.set k x').flatMap f=(l.flatMap f).set (k*sz+j) u
 |[],k,j,x,x',u,h,_,_=>by simp at h
 |y::l,0,j,x,x',u,h,hj,he=>by
  simp only[List.getElem?_cons_zero,Option.some.injEq] at h;subst h;simp only[List.set_cons_zero,List.flatMap_cons,Nat.zero_mul,Nat.zero_add,he];rw[List.set_append_left _ _ (by rw[hf];exact hj)]
 |y::l,k+1,j,x,x',u,h,hj,he=>by
  simp only[List.getElem?_cons_succ] at h;simp only[List.set_cons_succ,List.flatMap_cons];rw[Wz hf l k j x x' u h hj he,List.set_append_right _ _ (by rw[hf,Nat.add_mul];omega),hf];congr 2;rw[Nat.add_mul];omega
theorem qj.setAt {α:Type} {f:α->List Value} {e:TypeId} {sz B g n cap:Nat} {l:List α} {w:World} (h:qj f e sz w B (.slice (some ⟨g,0,none⟩) n cap) l) (hf:∀x,(f x).length=sz) {k j:Nat} {x x':α} {u:Value} (hk:l[k]?=some x) (hj:j < sz) (he:f x'=(f x).set j u):
  qj f e sz (w.setCell ⟨g,k*sz+j,none⟩ u) B (.slice (some ⟨g,0,none⟩) n cap) (l.set k x'):=by
 obtain⟨h1,h2⟩:=h;have hkl:=(List.getElem?_eq_some_iff.1 hk).1;have hfl:=Wz hf l k j x x' u hk hj he;refine⟨by rw[hfl,List.length_set,List.length_set];exact h1,?_⟩;rcases h2 with⟨h2,h3⟩|⟨g',cap',cur,hv,hg,hh,hnc,hcm,hs,ht⟩
 ·cases h2
 ·simp only[Value.slice.injEq,Option.some.injEq,Addr.mk.injEq] at hv
  obtain⟨⟨rfl,-,-⟩,hn,rfl⟩:=hv;refine .inr ⟨g,cap,cur.setIfInBounds (k*sz+j) u,by rw[List.length_set,hn],hg,qn hh _ _,by rw[List.length_set];exact hnc,hcm,by simpa using hs,?_⟩;rw[hfl,List.length_set,Array.toList_setIfInBounds,List.take_set,ht]
theorem qj.free {α:Type} {f:α->List Value} {e:TypeId} {sz B g n cap:Nat} {l:List α} {w:World} (h:qj f e sz w B (.slice (some ⟨g,0,none⟩) n cap) l) (j:Nat):w.frozen? ⟨g,j,none⟩=false:=by
 obtain⟨cs,hcs⟩:=qj.keepObj h g rfl;exact qt hcs j
section
variable {w:World} {B p:Nat} {dv:Value} {s:St}
theorem mv_call (xk xx xh xj xo xy xv xr:Int) (n:Nat) (h:jf w B (p,dv) s) (hl:s.deeds.length<=1000):
  Calls Tryz.prog 172 #[.pointer (some ⟨p,0,none⟩),Ql ⟨xk,xx,xh,xj,xo,xy,xv,xr⟩,.int .i64 n] w (Yy w B (p,dv) (uB ⟨xk,xx,xh,xj,xo,xy,xv,xr⟩ n s)):=by
 have l0:=qe h.row;have H:=qd h;have r0:=h.row;obtain⟨da,dn,dc,rfl⟩:∃a n c,dv=.slice a n c:=by
  rcases qj.form h.dds with⟨rfl,-⟩|⟨g,cap,rfl,-⟩
  ·exact ⟨_,_,_,rfl⟩
  ·exact ⟨_,_,_,rfl⟩
 have y:=qa r0;have y6:=y 6;have y7:=y 7;simp[uH] at y6 y7;have yf:∀j,w.frozen? ⟨p,j,none⟩=false:=fun j=>qt r0 j;have R0:=qd r0;clear y h r0;go_enter Tryz.func172,Tryz.ntmps172;go_wp2_with fail;have r1:=qy (o:=.cells #[.int .i64 xk,.int .i64 xx,.int .i64 xh,.int .i64 xj,.int .i64 xo,.int .i64 xy,.int .i64 xv,.int .i64 xr] 69) (qn R0.o 7 (.int .i64 2));have re:=qX (w:=w.setCell ⟨p,7,none⟩ (.int .i64 2)) (o:=.cells #[.int .i64 xk,.int .i64 xx,.int .i64 xh,.int .i64 xj,.int .i64 xo,.int .i64 xy,.int .i64 xv,.int .i64 xr] 69) (g:=w.heap.size) (by simp);have c1:zj (fun k=>k=p) w ((w.setCell ⟨p,7,none⟩ (.int .i64 2)).alloc (.cells #[.int .i64 xk,.int .i64 xx,.int .i64 xh,.int .i64 xj,.int .i64 xo,.int .i64 xy,.int .i64 xv,.int .i64 xr] 69)):=((zj.refl (S:=fun k=>k=p) w).set rfl).alloc _;have hz1:((w.setCell ⟨p,7,none⟩ (.int .i64 2)).alloc (.cells #[.int .i64 xk,.int .i64 xx,.int .i64 xh,.int .i64 xj,.int .i64 xo,.int .i64 xy,.int .i64 xv,.int .i64 xr] 69)).heap.size=w.heap.size+1:=by simp
 generalize (w.setCell ⟨p,7,none⟩ (.int .i64 2)).alloc (.cells #[.int .i64 xk,.int .i64 xx,.int .i64 xh,.int .i64 xj,.int .i64 xo,.int .i64 xy,.int .i64 xv,.int .i64 xr] 69)=W at *;have hd:XH W B (.slice da dn dc) s.deeds:=qj.chg H.o.dds c1 fun g hg hk=>by
  obtain⟨cs,fz,hh⟩:=qj.typ H.o.dds hg;rw[hk,R0.o] at hh;simp at hh
 clear y6 y7 yf;have y6:=qa r1 6;simp[uH] at y6;have yf:∀j,W.frozen? ⟨p,j,none⟩=false:=fun j=>qt r1 j;have e0:=qa re 3;have e1:=qa re 4;have e2:=qa re 5;have e3:=qa re 6;simp at e0 e1 e2 e3;have lp:p < W.heap.size:=by omega
 have le:w.heap.size < W.heap.size:=by omega
 have HD:=qd hd;have R1:=qd r1;have C1:=qd c1;clear re r1 c1 hd hz1;have hB:B<=p:=H.o.hB;refine qD (W.heap.size) [0,0,0,0,0,1,0,1,0,1,0,1,0,1,0,0,3,2,0,0,0,2] (.fin [0,1,2,3,4,5,6,7,8,9,10,11,12,13,14,15,16,17,18,19,20,21]) (by kernel_rfl) ?_;simp only[xC,qJ,qu,sD,sE,sF,sG]
 repeat first|(refine qq fun K hK=>?_;go_simp;refine hK _ _ ?_;clear hK K)|(apply qx;(intro w2 hw2;have hk1:=hw2.cell;have hk3:=hw2.1;clear hw2;go_simp;with_reducible rfl);simp only[Act.put,sA,sB,sC])
 refine qC (fun K hK=>?_);go_simp;refine hK _ _ (RN.KeepsN.alloc _ _ (Nat.le_refl _)) ?_;clear hK K;refine qF (fun K hK=>?_);have hBW:B<=W.drew.heap.size:=by
  show B<=W.heap.size;omega
 refine QY _ _ _ rfl _ 64 Tryz.underlying47 ZA rfl HD.o.drew (Ub ⟨xk,xx,xh,xj,xo,xy,xv,xr⟩ n) hBW (by rfl) (by rfl) (by first|rfl|simp) rfl (Vo _) (by first|omega|(simp only[List.length_append,List.length_cons,List.length_nil,List.length_replicate];omega)) (by first|omega|(simp only[List.length_append,List.length_cons,List.length_nil,List.length_replicate];omega)) ?_;intro g cap w' ho hg;refine hK _ _ ?_;clear hK K;have hne:(Value.slice da dn dc).ownBlock≠some p:=fun hk=>by
  obtain⟨cs,fz,hh⟩:=qj.typ HD.o hk;rw[R1.o] at hh;simp[uH] at hh
 have hne2:(Value.slice (some ⟨g,0,none⟩) (s.deeds.length+1) cap).ownBlock≠some p:=fun hk=>by
  rcases hg.own _ hk with h1|h1
  ·exact hne h1
  ·have h1:W.heap.size<=p:=h1
   omega
 have r2:=qS (zS R1.o) hg hne;have z2:W.heap.size<=w'.heap.size:=hg.size;have l2:p < w'.heap.size:=by omega
 clear y6 yf;have y6:=qa r2 6;simp[uH] at y6;have yf:∀j,w'.frozen? ⟨p,j,none⟩=false:=fun j=>qt r2 j;have R2:=qd r2;have HO:=qd ho;have HG:=qd hg;clear r2 ho hg
 repeat (refine qq fun K hK=>?_;go_simp;refine hK _ _ ?_;clear hK K)
 refine qF (fun K hK=>?_);go_simp;refine hK _ _ ?_;clear hK K
 repeat refine qm ?_
 go_wp2;go_ret;refine⟨rfl,_,⟨qn R2.o 6 _,hB,qj.other HO.o hne2 _⟩,?_,fun k hk=>?_⟩
 ·refine zj.set ?_ (.inl rfl)
  exact zj.trans ((C1.o.mono (T:=Kc (p,.slice da dn dc)) fun j hj=>.inl hj).drew) (zj.grw (S:=Kc (p,.slice da dn dc)) HG.o fun k hk=>.inr hk) fun j _ hj=>hj
 ·rcases HG.o.own _ hk with h1|h1
  ·exact .inl h1
  ·exact .inr (by have h1:W.heap.size<=k:=h1;omega)
end
end
section
attribute [local irreducible] xL
def qK (k:Int):List Int:=if k=3 then[2] else if k=5 then[3] else if k=6 then[1,2,3,4] else[1]
def uj (w:World) (B0:Nat) (k:Int) (F:FuncId) (caps:Array Value):Prop:=
 (k=2/\F=172/\caps=#[])\/(k=3/\F=173/\caps=#[])\/(k=4/\F=175/\caps=#[])\/(k=7/\F=176/\caps=#[])\/
 (F=171/\∃c st,(k=5/\st=3\/k=6/\st=4)/\caps=#[.pointer (some ⟨c,0,none⟩)]/\w.heap[c]?=some (.cells #[.int .i64 st] 3 (0,0))/\B0<=c)
def YJ (w:World) (B0:Nat) (k:Int) (v:Value):Prop:=∃g F caps,v=.agg #[.slice (some ⟨g,0,none⟩) (qK k).length (qK k).length,.func (.func F) #[] caps]/\w.heap[g]?=some (.cells ((qK k).map (.int .i64)).toArray 3 (0,0))/\B0<=g/\uj w B0 k F caps
def MvsRet (w:World) (e:Ending) (w':World):Prop:=∃bm M,e=.returned (.map (some bm))/\qL w' bm M/\(∀k:Int,2<=k->k < 8->∃v,M k=some v/\YJ w' w.heap.size k v)/\Below w.heap.size w w'
theorem uj.row {w w':World} {B0:Nat} {k:Int} {F:FuncId} {caps:Array Value} (h:uj w B0 k F caps) (hr:∀(g:Nat) (cs:Array Value) (t:TypeId) (fz:Nat×Nat),w.heap[g]?=some (.cells cs t fz)->w'.heap[g]?=some (.cells cs t fz)):uj w' B0 k F caps:=by
 rcases h with h|h|h|h|⟨h1,c,st,h2,h3,h4,h5⟩
 ·exact .inl h
 ·exact .inr (.inl h)
 ·exact .inr (.inr (.inl h))
 ·exact .inr (.inr (.inr (.inl h)))
 ·exact .inr (.inr (.inr (.inr ⟨h1,c,st,h2,h3,hr _ _ _ _ h4,h5⟩)))
theorem YJ.row {w w':World} {B0:Nat} {k:Int} {v:Value} (h:YJ w B0 k v) (hr:∀(g:Nat) (cs:Array Value) (t:TypeId) (fz:Nat×Nat),w.heap[g]?=some (.cells cs t fz)->w'.heap[g]?=some (.cells cs t fz)):YJ w' B0 k v:=
 let ⟨g,F,caps,h1,h2,h3,h4⟩:=h;⟨g,F,caps,h1,hr _ _ _ _ h2,h3,h4.row hr⟩
theorem Rq (st:Int) (w:World):Calls Tryz.prog 170 #[.int .i64 st] w fun e w'=>e=.returned (.func (.func 171) #[] #[.pointer (some ⟨w.heap.size,0,none⟩)])/\w'=w.alloc (.cells #[.int .i64 st] 3):=by
 go_enter Tryz.func170,Tryz.ntmps170;go_wp2;go_ret;exact⟨rfl,rfl⟩
structure Jh (w:World) (bm:Nat) (K:Int->Prop) (X:World):Prop where
 raw:∃M,qL X bm M/\∀k,K k->∃v,M k=some v/\YJ X w.heap.size k v
 below:Below w.heap.size w X
 hb:w.heap.size<=bm
theorem Jh.alloc {w X:World} {bm:Nat} {K:Int->Prop} (h:Jh w bm K X) (o:Obj):Jh w bm K (X.alloc o):=by
 obtain⟨⟨M,h1,h2⟩,h3,h4⟩:=h;have b:Below X.heap.size X (X.alloc o):=(Below.refl _ X).alloc (Nat.le_refl _) _;exact⟨⟨M,h1.below b h1.lt,fun k hk=>let ⟨v,h5,h6⟩:=h2 k hk;⟨v,h5,h6.row fun g cs t fz hg=>qy hg⟩⟩,h3.trans (b.mono h3.size),h4⟩
theorem Jh.ins {w X:World} {bm:Nat} {K:Int->Prop} {k:Int} {v:Value} (h:Jh w bm K X) (hv:YJ X w.heap.size k v):
  ∃Y,Sem.run Tryz.prog (Instr.mapUpdate 251 (.map (some bm)) (.int .i64 k) v) X=.ok () Y/\Jh w bm (fun j=>K j\/j=k) Y:=by
 obtain⟨⟨M,h1,h2⟩,h3,h4⟩:=h;obtain⟨Y,hr,hm,ht⟩:=h1.store Tryz.underlying3 Tryz.underlying251 k v;have hrow:∀(g:Nat) (cs:Array Value) (t:TypeId) (fz:Nat×Nat),X.heap[g]?=some (.cells cs t fz)->Y.heap[g]?=some (.cells cs t fz):=fun g cs t fz hg=>(xa ht hg).trans hg;refine⟨Y,hr,⟨_,hm,fun j hj=>?_⟩,h3.trans (Below.turned ht h4),h4⟩;by_cases e:j=k
 ·subst e
  exact⟨v,xD,hv.row hrow⟩
 ·obtain ⟨u,h5,h6⟩:=h2 j (hj.resolve_right e)
  exact⟨u,by rw[qV e];exact h5,h6.row hrow⟩
theorem jx (w:World):Calls Tryz.prog 128 #[] w (MvsRet w):=by
 have hmk:∀X:World,Sem.run Tryz.prog (Instr.makeMap 251 none) X=.ok (.map (some X.heap.size)) (X.alloc (.map #[] 0)):=fun X=>by kernel_rfl
 have b0:Below w.heap.size w (w.alloc (.map #[] 0)):=(Below.refl _ w).alloc (Nat.le_refl _) _;have h0:Jh w w.heap.size (fun _=>False) (w.alloc (.map #[] 0)):=⟨⟨_,qL.made (qs w _),fun k hk=>hk.elim⟩,b0,Nat.le_refl _⟩
 have z0:(w.alloc (.map #[] 0)).heap.size=w.heap.size+1:=by simp
 have a1:=h0.alloc (.cells #[.int .i64 1] 3);have o1:YJ ((w.alloc (.map #[] 0)).alloc (.cells #[.int .i64 1] 3)) w.heap.size 2 (.agg #[.slice (some ⟨w.heap.size+1,0,none⟩) 1 1,.func (.func 172) #[] #[]]):=⟨w.heap.size+1,_,_,rfl,qX z0.symm,by omega,.inl ⟨rfl,rfl,rfl⟩⟩
 obtain⟨X1,r1,h1⟩:=a1.ins o1;clear a1 o1 h0 b0;have a2:=h1.alloc (.cells #[.int .i64 2] 3);have o2:YJ (X1.alloc (.cells #[.int .i64 2] 3)) w.heap.size 3 (.agg #[.slice (some ⟨X1.heap.size,0,none⟩) 1 1,.func (.func 173) #[] #[]]):=⟨X1.heap.size,_,_,rfl,qs _ _,h1.below.size,.inr (.inl ⟨rfl,rfl,rfl⟩)⟩
 obtain⟨X2,r2,h2⟩:=a2.ins o2;clear a2 o2 h1;have a3:=h2.alloc (.cells #[.int .i64 1] 3);have o3:YJ (X2.alloc (.cells #[.int .i64 1] 3)) w.heap.size 4 (.agg #[.slice (some ⟨X2.heap.size,0,none⟩) 1 1,.func (.func 175) #[] #[]]):=⟨X2.heap.size,_,_,rfl,qs _ _,h2.below.size,.inr (.inr (.inl ⟨rfl,rfl,rfl⟩))⟩
 obtain⟨X3,r3,h3⟩:=a3.ins o3;clear a3 o3 h2;have a4:=h3.alloc (.cells #[.int .i64 1] 3);have o4:YJ (X3.alloc (.cells #[.int .i64 1] 3)) w.heap.size 7 (.agg #[.slice (some ⟨X3.heap.size,0,none⟩) 1 1,.func (.func 176) #[] #[]]):=⟨X3.heap.size,_,_,rfl,qs _ _,h3.below.size,.inr (.inr (.inr (.inl ⟨rfl,rfl,rfl⟩)))⟩
 obtain⟨X4,r4,h4⟩:=a4.ins o4;clear a4 o4 h3;have a5:=(h4.alloc (.cells #[.int .i64 3] 3)).alloc (.cells #[.int .i64 3] 3);have zz5:(X4.alloc (.cells #[.int .i64 3] 3)).heap.size=X4.heap.size+1:=by simp
 have o5:YJ ((X4.alloc (.cells #[.int .i64 3] 3)).alloc (.cells #[.int .i64 3] 3)) w.heap.size 5 (.agg #[.slice (some ⟨X4.heap.size,0,none⟩) 1 1,.func (.func 171) #[] #[.pointer (some ⟨X4.heap.size+1,0,none⟩)]]):=
  ⟨X4.heap.size,_,_,rfl,qy (qs _ _),h4.below.size,.inr (.inr (.inr (.inr ⟨rfl,X4.heap.size+1,3,.inl ⟨rfl,rfl⟩,rfl,qX zz5.symm,by have:=h4.below.size;omega⟩)))⟩
 obtain⟨X5,r5,h5⟩:=a5.ins o5;clear a5 o5 h4 zz5;have a6:=(h5.alloc (.cells #[.int .i64 1,.int .i64 2,.int .i64 3,.int .i64 4] 3)).alloc (.cells #[.int .i64 4] 3);have zz6:(X5.alloc (.cells #[.int .i64 1,.int .i64 2,.int .i64 3,.int .i64 4] 3)).heap.size=X5.heap.size+1:=by simp
 have o6:YJ ((X5.alloc (.cells #[.int .i64 1,.int .i64 2,.int .i64 3,.int .i64 4] 3)).alloc (.cells #[.int .i64 4] 3)) w.heap.size 6 (.agg #[.slice (some ⟨X5.heap.size,0,none⟩) 4 4,.func (.func 171) #[] #[.pointer (some ⟨X5.heap.size+1,0,none⟩)]]):=
  ⟨X5.heap.size,_,_,rfl,qy (qs _ _),h5.below.size,.inr (.inr (.inr (.inr ⟨rfl,X5.heap.size+1,4,.inr ⟨rfl,rfl⟩,rfl,qX zz6.symm,by have:=h5.below.size;omega⟩)))⟩
 obtain⟨X6,r6,h6⟩:=a6.ins o6;clear a6 o6 h5 zz6;go_enter Tryz.func128,Tryz.ntmps128;go_wp2_with fail;refine(Rq 3 _).mono ?_;rintro e W ⟨rfl,rfl⟩;go_wp2_with fail;refine(Rq 4 _).mono ?_;rintro e W ⟨rfl,rfl⟩;go_wp2_with fail;go_ret;obtain⟨⟨M,h1,h2⟩,h3,h4⟩:=h6;refine⟨_,M,rfl,h1,fun k hk1 hk2=>h2 k ?_,h3⟩;omega
end
theorem ptr_one (g:Nat):∀u ∈ XL (xE g),u.oneCell'=true:=by intro u hu;simp[XL] at hu;subst hu;rfl
theorem infoPs:(Tryz.prog.info? 177).map (fun i=>(i.zero,i.size,i.bytes))=some (some (.pointer none),1,8):=by kernel_rfl
theorem zP (w:World):(zeroValue 177).run Tryz.prog w=.ok (.pointer none) w:=by kernel_rfl
theorem jy {w w':World} {b:Nat} {g:Nat} {cs:Array Value} {t:TypeId} {fz:Nat×Nat} (h:w.mapTurned w' b) (hg:w.heap[g]?=some (.cells cs t fz)):w'.heap[g]?=some (.cells cs t fz):=(xa h hg).trans hg
section
variable {w w':World} {B bA bY bZ n:Nat} {ov tv:Value} {os:List Ob} {A:Au} {Z:Int->Prop} {bs:List (Nat×Value)}
theorem uk.turn (h:uk w B bA bY bZ ov tv os n A Z bs) (hc:zj (fun k=>k=bA\/k=bZ) w w') {n':Nat} {Z':Int->Prop} (hr:w'.heap[bA]?=some (.cells #[ov,.int .i64 n',tv,.map (some bY),.map (some bZ)] 176 (0,0)))
  {M:Int->Option Value} (hm:qL w' bZ M) (hz:BzIs M Z'):uk w' B bA bY bZ ov tv os n' A Z' bs:=by
 obtain⟨MZ,hmz,-⟩:=h.bz.2;have notA:∀g cs t fz,w.heap[g]?=some (.cells cs t fz)->t≠176->¬(g=bA\/g=bZ):=fun g cs t fz hg ht=>by
  rintro(rfl|rfl)
  ·rw [h.row] at hg
   simp only[Option.some.injEq,Obj.cells.injEq] at hg;exact ht hg.2.1.symm
  ·obtain ⟨es,c,hh⟩:=hmz.isMap
   rw[hg] at hh;cases hh
 refine⟨hr,h.hB,qj.chg h.obs hc fun g hg=>?_,qj.chg h.txs hc fun g hg=>?_,h.len,fun k p s hp hs=>(h.sts k p s hp hs).chg hc fun g hg=>?_,h.nod,h.dis,⟨h.by_.1,?_⟩,⟨h.bz.1,M,hm,hz⟩,h.ne⟩
 ·obtain ⟨cs,fz,hh⟩:=qj.typ h.obs hg
  exact notA g cs _ fz hh (by decide)
 ·obtain ⟨cs,fz,hh⟩:=qj.typ h.txs hg
  exact notA g cs _ fz hh (by decide)
 ·obtain ⟨cs,t,fz,hh,ht⟩:=(h.sts k p s hp hs).typ hg
  refine notA g cs _ fz hh ?_;rcases ht with rfl|rfl <;> decide
 ·obtain ⟨M1,h1,h2⟩:=h.by_.2
  refine⟨M1,h1.chg hc ?_,h2⟩;rintro(e|e)
  ·obtain ⟨es,c,hh⟩:=h1.isMap
   rw[e,h.row] at hh;cases hh
  ·exact h.ne e
theorem uk.begun (h:uk w B bA bY bZ ov tv os n A Z bs) (hc:zj (fun k=>k=bA\/tv.ownBlock=some k\/k=bY\/k=bZ) w w') {n' p:Nat} {tv':Value} {s:St}
  (hr:w'.heap[bA]?=some (.cells #[ov,.int .i64 n',tv',.map (some bY),.map (some bZ)] 176 (0,0)))
  (ht:qj XL 177 1 w' B tv' ((bs++[(p,Value.slice none 0 0)]).map fun q=>xE q.1)) (hs:jf w' B (p,.slice none 0 0) s) (hp:w.heap.size<=p)
  {MY MY' MZ MZ':Int->Option Value} (hY:qL w' bY MY') (f1:∀(k:Nat) (p:Nat×Value) (s:St),bs[k]?=some p->A[k]?=some s->MY s.id=some (xE p.1)) (f2:∀x,¬ut x A->MY x=none) (f3:∀k,k≠s.id->MY' k=MY k) (f4:MY' s.id=some (xE p)) (hno:¬ut s.id A)
  (hZ:qL w' bZ MZ') (f5:BzIs MZ Z) (f6:∀k,k≠s.thread->MZ' k=MZ k) (f7:MZ' s.thread=some (xE p)) (hsd:s.deeds=[]):
  uk w' B bA bY bZ ov tv' os n' (A++[s]) (fun x=>Z x\/x=s.thread) (bs++[(p,.slice none 0 0)]):=by
 obtain⟨M0,hm0,-⟩:=h.bz.2;obtain⟨M1,hm1,-⟩:=h.by_.2;have notA:∀g cs t fz,w.heap[g]?=some (.cells cs t fz)->t≠176->t≠177->¬(g=bA\/tv.ownBlock=some g\/g=bY\/g=bZ):=fun g cs t fz hg ht ht2=>by
  rintro(rfl|hk|rfl|rfl)
  ·rw [h.row] at hg
   simp only[Option.some.injEq,Obj.cells.injEq] at hg;exact ht hg.2.1.symm
  ·obtain ⟨cs',fz',hh⟩:=qj.typ h.txs hk
   rw[hg] at hh;simp only[Option.some.injEq,Obj.cells.injEq] at hh;exact ht2 hh.2.1
  ·obtain ⟨es,c,hh⟩:=hm1.isMap
   rw[hg] at hh;cases hh
  ·obtain ⟨es,c,hh⟩:=hm0.isMap
   rw[hg] at hh;cases hh
 have old:∀k (q:Nat×Value),bs[k]?=some q->∃t,A[k]?=some t/\jf w B q t:=fun k q hq=>by
  have hk:=(List.getElem?_eq_some_iff.1 hq).1;obtain⟨t,ht⟩:∃t,A[k]?=some t:=⟨_,List.getElem?_eq_getElem (by rw[←h.len];exact hk)⟩
  exact⟨t,ht,h.sts k q t hq ht⟩
 have split:∀k (q:Nat×Value),(bs++[(p,Value.slice none 0 0)])[k]?=some q->bs[k]?=some q\/(k=bs.length/\q=(p,.slice none 0 0)):=fun k q hq=>by
  rcases Nat.lt_or_ge k bs.length with hk|hk
  ·rw [List.getElem?_append_left hk] at hq;exact .inl hq
  ·have hl:=(List.getElem?_eq_some_iff.1 hq).1
   simp only[List.length_append,List.length_cons,List.length_nil] at hl;obtain rfl:k=bs.length:=by omega
   simp only[List.getElem?_concat_length,Option.some.injEq] at hq;exact .inr ⟨rfl,hq.symm⟩
 have splitA:∀k (t:St),(A++[s])[k]?=some t->A[k]?=some t\/(k=bs.length/\t=s):=fun k t hq=>by
  rcases Nat.lt_or_ge k A.length with hk|hk
  ·rw [List.getElem?_append_left hk] at hq;exact .inl hq
  ·have hl:=(List.getElem?_eq_some_iff.1 hq).1
   simp only[List.length_append,List.length_cons,List.length_nil] at hl;have:=h.len;obtain rfl:k=A.length:=by omega
   simp only[List.getElem?_concat_length,Option.some.injEq] at hq;exact .inr ⟨by omega,hq.symm⟩
 have both:∀k (q:Nat×Value) (t:St),(bs++[(p,Value.slice none 0 0)])[k]?=some q->(A++[s])[k]?=some t->(bs[k]?=some q/\A[k]?=some t)\/(q=(p,.slice none 0 0)/\t=s):=fun k q t hq ht=>by
  rcases split k q hq with h1|⟨h1,h2⟩
  ·rcases splitA k t ht with h3|⟨h3,h4⟩
   ·exact .inl ⟨h1,h3⟩
   ·have:=(List.getElem?_eq_some_iff.1 h1).1;omega
  ·rcases splitA k t ht with h3|⟨h3,h4⟩
   ·have:=(List.getElem?_eq_some_iff.1 h3).1
    have:=h.len;omega
   ·exact .inr ⟨h2,h4⟩
 refine⟨hr,h.hB,qj.chg h.obs hc fun g hg=>?_,ht,by simp[h.len],fun k q t hq ht=>?_,?_,fun j k q r hq hr hne g hg=>?_,⟨h.by_.1,MY',hY,fun k q t hq ht=>?_,fun x hx=>?_⟩,⟨h.bz.1,MZ',hZ,fun x hx=>?_,fun x hx=>?_⟩,h.ne⟩
 ·obtain ⟨cs,fz,hh⟩:=qj.typ h.obs hg
  exact notA g cs _ fz hh (by decide) (by decide)
 ·rcases both k q t hq ht with⟨h1,h2⟩|⟨rfl,rfl⟩
  ·refine (h.sts k q t h1 h2).chg hc fun g hg=>?_
   obtain⟨cs,t',fz,hh,ht'⟩:=(h.sts k q t h1 h2).typ hg;rcases ht' with rfl|rfl
   ·exact notA g cs _ fz hh (by decide) (by decide)
   ·exact notA g cs _ fz hh (by decide) (by decide)
  ·exact hs
 ·rw [List.map_append]
  refine List.nodup_append.2 ⟨h.nod,by simp,?_⟩;intro a ha b hb;simp only[List.map_cons,List.map_nil,List.mem_singleton] at hb;subst hb;obtain⟨q,hq,rfl⟩:=List.mem_map.1 ha;obtain⟨k,hk⟩:=List.mem_iff_getElem?.1 hq;obtain⟨t,-,hst⟩:=old k q hk;have:=qe hst.row;exact fun e=>by omega
 ·rcases split j q hq with h1|⟨-,rfl⟩
  ·rcases split k r hr with h2|⟨-,rfl⟩
   ·exact h.dis j k q r h1 h2 hne g hg
   ·simp [Value.ownBlock]
  ·simp [Value.ownBlock] at hg
 ·rcases both k q t hq ht with⟨h1,h2⟩|⟨rfl,rfl⟩
  ·rw [f3 t.id ?_]
   ·exact f1 k q t h1 h2
   ·intro e
    exact hno ⟨t,List.mem_of_getElem? h2,e⟩
  ·exact f4
 ·rw [f3 x ?_]
  ·exact f2 x fun⟨t,ht,e⟩=>hx ⟨t,by simp[ht],e⟩
  ·rintro rfl
   exact hx ⟨s,by simp,rfl⟩
 ·rw [f6 x fun e=>hx (.inr e)]
  exact f5.1 x fun e=>hx (.inl e)
 ·by_cases e:x=s.thread
  ·rw [e];exact⟨p,f7⟩
  ·rw [f6 x e]
   rcases hx with hx|hx
   ·exact f5.2 x hx
   ·exact absurd hx e
theorem JA {s:St} {x:Int} (hs:s.stand≠5):(yJ x A\/x=s.thread)↔yJ x (A++[s]):=by
 constructor
 ·rintro (⟨t,ht,h⟩|rfl)
  ·exact ⟨t,by simp[ht],h⟩
  ·exact ⟨s,by simp,rfl,hs⟩
 ·rintro ⟨t,ht,h,h5⟩
  rcases List.mem_append.1 ht with ht|ht
  ·exact .inl ⟨t,ht,h,h5⟩
  ·rw [List.mem_singleton.1 ht] at h;exact .inr h.symm
end
def xB (n:Nat) (e:Ev) (s:St):Option St:=
 if e.kind=2 then(if s.stand=1 then some (uB e n s) else none)
 else if e.kind=3 then(if s.stand=2 then match s.deeds.getLast? with
  |some d=>if vy d.op e.ret=true then some (yW e.ret e.val n s) else none
  |none=>none
  else none)
 else if e.kind=4 then(if s.stand=1 then some (UH n s) else none)
 else if e.kind=5 then(if s.stand=3 then some (Qr 3 n s) else none)
 else if e.kind=6 then(if s.stand=1\/s.stand=2\/s.stand=3\/s.stand=4 then some (Qr 4 n s) else none)
 else if e.kind=7 then(if s.stand=1 then some (Vr s) else none)
 else none
def hasB (x:Int) (A:Au):Bool:=A.any fun s=>s.id==x
def busyB (x:Int) (A:Au):Bool:=A.any fun s=>s.thread==x&&s.stand !=5
theorem Xw {x:Int} {A:Au}:hasB x A=true↔ut x A:=by simp[hasB,ut]
theorem Qn {x:Int} {A:Au}:busyB x A=true↔yJ x A:=by simp[busyB,yJ]
def zu (A:Au) (n:Nat) (e:Ev):Option Au:=
 if e.kind=1 then(if hasB e.tx A||busyB e.thread A then none else some (A++[zM e n]))
 else match A.findIdx? (fun s=>s.id==e.tx) with
  |none=>none
  |some k=>match A[k]? with
   |some s=>(xB n e s).map fun s'=>A.set k s'
   |none=>none
def ye (A:Au) (n:Nat):List Ev->Option Au
 |[]=>some A
 |e::l=>(zu A n e).bind fun A'=>ye A' (n+1) l
def qN (os:List Ob) (es:List Ev):Option Au:=if xJ os es then ye [] 0 es else none
theorem Qg {e:Ev}:∀{l:List Ev} {A:Au} {n:Nat},ye A n (l++[e])=(ye A n l).bind fun A'=>zu A' (n+l.length) e
 |[],A,n=>by
  simp only[List.nil_append,ye,Option.bind_some,List.length_nil,Nat.add_zero];cases zu A n e <;> rfl
 |x::l,A,n=>by
  simp only[List.cons_append,ye];cases h:zu A n x with
  |none=>rfl
  |some A'=>
   simp only[Option.bind_some];rw[Qg];simp only[List.length_cons];congr 1;funext A'';congr 1;omega
theorem xR {n:Nat} {x:Ev} {s s':St} (hm:xB n x s=some s'):
  x.kind=2/\s.stand=1/\s'=uB x n s\/(x.kind=3/\s.stand=2/\∃d,s.deeds.getLast?=some d/\vy d.op x.ret=true/\s'=yW x.ret x.val n s)\/x.kind=4/\s.stand=1/\s'=UH n s\/x.kind=5/\s.stand=3/\s'=Qr 3 n s\/
   x.kind=6/\(s.stand=1\/s.stand=2\/s.stand=3\/s.stand=4)/\s'=Qr 4 n s\/x.kind=7/\s.stand=1/\s'=Vr s:=by
 unfold xB at hm
 split at hm
 ·rename_i hk
  split at hm
  ·rename_i h1;exact .inl ⟨hk,h1,(Option.some.inj hm).symm⟩
  ·cases hm
 ·split at hm
  ·rename_i hk
   split at hm
   ·rename_i h1
    cases hd:s.deeds.getLast? with
    |none=>rw[hd] at hm;cases hm
    |some d=>
     rw[hd] at hm;simp only at hm
     split at hm
     ·rename_i h2
      exact .inr (.inl ⟨hk,h1,d,rfl,h2,(Option.some.inj hm).symm⟩)
     ·cases hm
   ·cases hm
  ·split at hm
   ·rename_i hk
    split at hm
    ·rename_i h1;exact .inr (.inr (.inl ⟨hk,h1,(Option.some.inj hm).symm⟩))
    ·cases hm
   ·split at hm
    ·rename_i hk
     split at hm
     ·rename_i h1;exact .inr (.inr (.inr (.inl ⟨hk,h1,(Option.some.inj hm).symm⟩)))
     ·cases hm
    ·split at hm
     ·rename_i hk
      split at hm
      ·rename_i h1;exact .inr (.inr (.inr (.inr (.inl ⟨hk,h1,(Option.some.inj hm).symm⟩))))
      ·cases hm
     ·split at hm
      ·rename_i hk
       split at hm
       ·rename_i h1;exact .inr (.inr (.inr (.inr (.inr ⟨hk,h1,(Option.some.inj hm).symm⟩))))
       ·cases hm
      ·cases hm
theorem zN {n:Nat} {x:Ev} {s s':St} (hm:xB n x s=some s'):s'.id=s.id/\s'.thread=s.thread/\s.stand≠5:=by
 rcases xR hm with⟨h1,h2,rfl⟩|⟨h1,h2,d,hd,-,rfl⟩|⟨h1,h2,rfl⟩|⟨h1,h2,rfl⟩|⟨h1,h2,rfl⟩|⟨h1,h2,rfl⟩
 ·exact ⟨rfl,rfl,by omega⟩
 ·unfold yW;rw[hd];exact⟨rfl,rfl,by omega⟩
 ·exact ⟨rfl,rfl,by omega⟩
 ·exact ⟨rfl,rfl,by omega⟩
 ·exact ⟨rfl,rfl,by omega⟩
 ·exact ⟨rfl,rfl,by omega⟩
theorem Ku {n:Nat} {x:Ev} {s:St} (hk2:2<=x.kind) (hk8:x.kind < 8) (h:s.stand ∉ qK x.kind):xB n x s=none:=by
 cases hm:xB n x s with
 |none=>rfl
 |some s'=>
  exfalso;apply h;rcases xR hm with⟨h1,h2,-⟩|⟨h1,h2,-⟩|⟨h1,h2,-⟩|⟨h1,h2,-⟩|⟨h1,h2,-⟩|⟨h1,h2,-⟩ <;> rw[h1] <;> first|(rw[h2];decide)|(rcases h2 with h2|h2|h2|h2 <;> rw[h2] <;> decide)
theorem Kt {n:Nat} {x:Ev} {s:St} (hk2:2<=x.kind) (hk8:x.kind < 8) (h:s.stand ∈ qK x.kind) (hm:xB n x s=none):x.kind=3/\s.stand=2/\∀d,s.deeds.getLast?=some d->vy d.op x.ret=false:=by
 have hk:x.kind=2\/x.kind=3\/x.kind=4\/x.kind=5\/x.kind=6\/x.kind=7:=by omega
 unfold xB at hm;rcases hk with e|e|e|e|e|e <;> rw[e] at h hm <;> simp[qK] at h <;> simp[h] at hm
 refine⟨e,h,fun d hd=>?_⟩;rw[hd] at hm;simpa using hm
