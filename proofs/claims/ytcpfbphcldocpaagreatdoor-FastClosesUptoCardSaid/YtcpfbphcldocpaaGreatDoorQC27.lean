/- Parts of the proof; the first: Law 15, FastCloses. Conditions: those of each theorem, as typed. -/
import Derived.Test.YtcpfbphcldocpaaGreatDoorQC25
import Derived.Test.YtcpfbphcldocpaaGreatDoorQC26
import Derived.Test.YtcpfbphcldocpaaGreatDoorQC18
import Derived.Test.YtcpfbphcldocpaaGreatDoorQC19
set_option linter.unusedVariables false
set_option linter.unusedSimpArgs false
set_option linter.unusedSectionVars false
set_option maxRecDepth 100000
set_option maxHeartbeats 4000000
namespace Go.Proofs.YtcpfbphcldocpaaGreatDoor
open Go.Maps Go.RowKit
section
attribute [local irreducible] xL
theorem lev3_in (l:Int):wrap64 ((wrap64 (l.tmod 3+3)).tmod 3+1)=1\/wrap64 ((wrap64 (l.tmod 3+3)).tmod 3+1)=2\/wrap64 ((wrap64 (l.tmod 3+3)).tmod 3+1)=3:=by
 have h1:-3 < l.tmod 3/\l.tmod 3 < 3:=by
  rcases Int.le_total 0 l with h|h
  ·rw [Int.tmod_eq_emod_of_nonneg h];omega
  ·have h2:0<=-l:=by omega
   have h3:(-l).tmod 3=-(l.tmod 3):=Int.neg_tmod ..;rw[Int.tmod_eq_emod_of_nonneg h2] at h3;omega
 have e1:wrap64 (l.tmod 3+3)=l.tmod 3+3:=by unfold wrap64;omega
 rw[e1,Int.tmod_eq_emod_of_nonneg (by omega)];have e2:wrap64 ((l.tmod 3+3) % 3+1)=(l.tmod 3+3) % 3+1:=by unfold wrap64;omega
 rw[e2];omega
theorem vI.some {w W:World} {ov vv ov' vv':Value} {os:List Ob} {es es':List Ev} (h:vI w ov vv os es) (hb:Below w.heap.size w W) (hs:∀e ∈ es',e ∈ es) (ho:Sl W W.heap.size 2 ov' os.length (os.flatMap Ob.cells)) (he:Sl W W.heap.size 8 vv' es'.length (es'.flatMap Ev.cells)):vI W ov' vv' os es':=
 ⟨ho,he,h.hod,fun e hm=>h.hed e (hs e hm),h.wd.below hb,h.er.below hb,h.pr.below hb⟩
theorem Wd {dl:Int->List Dd} {al:Bool} {k:Nat}:∀{l:List (Int×Bool)} {σ τ:List Int},zT dl al σ l=some τ->(∀p ∈ l,∀d ∈ dl p.1,d.op=2->YI d.val)->(∀x,σ[k]?=some x->YI x)->∀x,τ[k]?=some x->YI x
 |[],σ,τ,h,_,hs=>by simp only[zT,Option.some.injEq] at h;exact h▸hs
 |p::l,σ,τ,h,hd,hs=>by
  simp only[zT] at h;cases hr:yH dl al σ p with
  |none=>rw[hr] at h;cases h
  |some ρ=>
   rw[hr] at h;exact Wd h (fun q hq=>hd q (List.mem_cons_of_mem _ hq)) (VG hr (hd p (List.mem_cons_self ..)) hs)
def EndsV (lev:Int) (os:List Ob) (A:Au) (τ:List Int):Prop:=τ.length=os.length/\∀(c:Nat) (ob:Ob),os[c]?=some ob->ob.kind=1->∃(n:Nat) (x:Int),(jQ lev (os.map (·.init)) A c).1.length=n+1/\(jQ lev (os.map (·.init)) A c).1[n]?=some x/\(jQ lev (os.map (·.init)) A c).2=true/\τ[c]?=some x/\YI x
theorem Mv {lev:Int} {os:List Ob} {es:List Ev} {A:Au} {a:WW} (ht:qN os es=some A) (hp:qU os [] A=true) (hl:lev=1\/lev=2\/lev=3) (hJ:yB lev (os.map (·.init)) A a) (hk:a.kind=1) (hal:A.length<=200):
  a.steps.length<=400/\(∀p ∈ a.steps,∃(k:Nat) (s:St),A[k]?=some s/\s.id=p.1/\∀(j:Nat) (t:St),j < k->A[j]?=some t->t.id≠p.1)/\∃τ,zT (yZ A) (lev==3) (os.map vF) a.steps=some τ/\EndsV lev os A τ:=by
 obtain⟨h1,h2,τ,h3,h4,h5⟩:=Nd ht hp hl hJ hk hal;refine⟨h1,fun p hm=>?_,τ,h3,h4,fun c ob hc hr=>?_⟩
 ·obtain ⟨k,s,hs,e⟩:=h2 p hm
  exact⟨k,s,hs,e,fun j t hj hjt e'=>by have:=vk (Xm ht hp) hs hjt (e.trans e'.symm);omega⟩
 ·obtain ⟨v1,v2,v3⟩:=h5 c ob hc hr
  generalize hV:(jQ lev (os.map (·.init)) A c).1=V at *;have hn:0 < V.length:=List.length_pos_iff.2 v2;obtain⟨n,hn⟩:∃n,V.length=n+1:=⟨V.length - 1,by omega⟩
  have hx:V[n]?=some (V.getLastD 0):=by
   rw[List.getLastD_eq_getLast?,List.getLast?_eq_getElem?,hn];have:n < V.length:=by omega
   rw[Nat.add_sub_cancel,List.getElem?_eq_getElem this];rfl
  refine⟨n,_,hn,hx,v1,v3,?_⟩;have hdd:=VY ht hp;refine Wd (k:=c) h3 (fun p _ d hd=>?_) (fun x hx'=>?_) _ v3
  ·obtain ⟨s,hs,hds⟩:=Yu hd
   exact(hdd s hs d hds).wr
  ·have hob:jo ob=true:=by
    have:=hist0 ht;unfold xJ at this;simp only[Bool.and_eq_true,decide_eq_true_eq,List.all_eq_true] at this;exact this.1.2 ob (List.mem_of_getElem? hc)
   rw[List.getElem?_map,hc,Option.map_some,XD hr] at hx';cases hx';exact(zQ hob).2
theorem Kz (ov:Value) (ae:Option Addr) (ce:Nat) (os:List Ob) (es:List Ev) (w:World) (h:vI w ov (.slice ae es.length ce) os es) (hcap:es.length<=ce) (l:Int) (hl:dI l) (n:Int) (hn:dI n) (tx:Int) (htx:dI tx):
  Calls Tryz.prog 4 #[.agg #[ov,.slice ae es.length ce],.int .i64 l,.int .i64 n,.int .i64 tx] w fun e w'=>e=.returned (.bool true)/\Below w.heap.size w w':=by
 obtain⟨ao,co,hov,-⟩:=h.ho.ex;have b0:Below w.heap.size w (w.alloc (.cells #[ov,.slice ae es.length ce] 25)):=(Below.refl _ w).alloc (Nat.le_refl _) _;have r0:=qs w (.cells #[ov,.slice ae es.length ce] 25);subst hov;have HH:=qd h;have B0:=qd b0;have R0:=qd r0;have GL:=qd (GlF.mk h.wd h.er h.pr);clear h b0 r0;go_enter Tryz.func4,Tryz.ntmps4;go_wp2_with fail;generalize w.alloc (.cells #[.slice ao os.length co,.slice ae es.length ce] 25)=W0 at *;refine(NJ W0 (GL.o.below B0.o)).mono ?_;rintro e W1 ⟨rfl,b1⟩;have B1:=qd (B0.o.trans (b1.mono B0.o.size));have R1:=qd (qh R0.o b1 (qe R0.o));have y0:=qa R1.o 0;have y1:=qa R1.o 1;simp at y0 y1;have yl:=qe R1.o;have H1:=qd (HH.o.below B1.o);have SC:=qd (NI _ _ os es W1 H1.o.ho H1.o.he);obtain⟨sm,hsm⟩:∃sm,(decide (os.length<=100)&&decide (es.length<=120))=sm:=⟨_,rfl⟩
 rw[hsm] at SC;have HSM:=qd hsm;clear b1 hsm;go_wp2_with fail;refine SC.o.mono ?_;rintro e W2 ⟨rfl,b2⟩;have B2:=qd (B1.o.trans (b2.mono B1.o.size));have R2:=qd (qh R1.o b2 yl);have H2:=qd (HH.o.below B2.o);clear b2 SC y0 y1 yl;have y0:=qa R2.o 0;have y1:=qa R2.o 1;simp at y0 y1;have yl:=qe R2.o;cases sm with
 |false=>
  go_wp2_with fail;refine bodyPost_ret (v:=.bool true) (by simp[results,Tryz.results4,go_sem]) rfl ⟨rfl,B2.o⟩
 |true=>
  have hes:es.length<=120:=by have:=HSM.o;simp at this;exact this.2
  have hol:os.length<=100:=by have:=HSM.o;simp at this;exact this.1
  have PC:=qd (uP H2.o.toT);go_wp2_with fail;cases ep:xQ os (qN os es) with
  |none=>
   rw[ep] at PC;refine PC.o.mono ?_;rintro e W3 ⟨⟨t,x,rfl⟩,b3⟩;have B3:=qd (B2.o.trans (b3.mono B2.o.size));clear b3 ep PC;go_wp2_with fail;refine bodyPost_ret (v:=.bool true) (by simp[results,Tryz.results4,go_sem]) rfl ⟨rfl,B3.o⟩
  |some A=>
   have hal:A.length<=200:=by have:=JM (qW ep).1;omega
   rw[ep] at PC;refine PC.o.mono ?_;rintro e W3 ⟨rfl,b3⟩;have B3:=qd (B2.o.trans (b3.mono B2.o.size));have R3:=qd (qh R2.o b3 yl);have H3:=qd (HH.o.below B3.o);have EP:=qd ep;clear b3 ep PC y0 y1 yl;have y0:=qa R3.o 0;have y1:=qa R3.o 1;simp at y0 y1;have yl:=qe R3.o;have hlev:=lev3_in l;obtain⟨lv,hlv⟩:∃lv,wrap64 ((wrap64 (l.tmod 3+3)).tmod 3+1)=lv:=⟨_,rfl⟩
   have PX:=qd (Uo _ ae ce os es n _ H3.o.ho H3.o.he hcap (by omega) (by omega));go_wp2_with fail;rw[hlv] at hlev ⊢;clear hlv;have HLV:=qd hlev;refine PX.o.mono ?_;rintro e W4 ⟨o4,v4,rfl,oo4,oe4,b4⟩;have B4:=qd (B3.o.trans (b4.mono B3.o.size));have H4:=qd (HH.o.take B4.o (i:=n.toNat) (qj.sl oo4) (qj.sl oe4));obtain⟨A4,hA4⟩:=Zi EP.o n.toNat;have PC:=qd (uP H4.o.toT);rw[hA4] at PC;have R4:=qd (qh R3.o b4 yl);clear hA4 oo4 oe4 b4 PX y0 y1 yl H4 hlev;go_wp2_with fail;refine PC.o.mono ?_;rintro e W5 ⟨rfl,b5⟩;have B5:=qd (B4.o.trans (b5.mono B4.o.size));have R5:=qd (qh R4.o b5 (qe R4.o));have H5:=qd (HH.o.below B5.o);have y0:=qa R5.o 0;have y1:=qa R5.o 1;simp at y0 y1;have yl:=qe R5.o;have PX:=qd (NO _ _ os es tx _ H5.o.ho H5.o.he (by omega) (by omega));clear b5 PC;go_wp2_with fail;refine PX.o.mono ?_;rintro e W6 ⟨o6,v6,rfl,oo6,oe6,b6⟩;have B6:=qd (B5.o.trans (b6.mono B5.o.size));have H6:=qd (HH.o.some B6.o (es':=es.filter fun e=>e.tx !=tx) (fun e he=>(List.mem_filter.1 he).1) (qj.sl oo6) (qj.sl oe6));obtain⟨A6,hA6⟩:=Jt (x:=tx) EP.o;have PC:=qd (uP H6.o.toT);rw[hA6] at PC;have R6:=qd (qh R5.o b6 yl);clear hA6 oo6 oe6 b6 PX y0 y1 yl H6;go_wp2_with fail;refine PC.o.mono ?_;rintro e W7 ⟨rfl,b7⟩;have B7:=qd (B6.o.trans (b7.mono B6.o.size));have R7:=qd (qh R6.o b7 (qe R6.o));have H7:=qd (HH.o.below B7.o);have y0:=qa R7.o 0;have y1:=qa R7.o 1;simp at y0 y1;have yl:=qe R7.o;have JC:=qd (WD H7.o.toT EP.o HLV.o hal (Xm (qW EP.o).1 (qW EP.o).2));clear b7 PC;go_wp2_with fail;refine JC.o.mono ?_;rintro e W8 ⟨a,vs,vc,rfl,hJ,hA,b8⟩;obtain⟨aS,cS,e1⟩:=qj.sli hA.1;obtain⟨aC,cC,e2⟩:=qj.sli hA.2;subst e1 e2;have hz7:=B7.o.size;have B8:=qd (B7.o.trans (b8.mono hz7));have R8:=qd (qh R7.o b8 yl);have HJ:=qd hJ;unfold uR;obtain⟨sn,hsn⟩:∃n,a.steps.length=n:=⟨_,rfl⟩
   obtain⟨cn,hcn⟩:∃n,a.cyc.length=n:=⟨_,rfl⟩
   have ST:=qd hA.1;rw[hsn] at ST;rw[hsn,hcn];have HSN:=qd hsn;have ba:Below W8.heap.size W8 (W8.alloc (.cells #[.int .i64 a.kind,.slice aS sn cS,.slice none 0 0,.int .i64 a.pre,.int .i64 a.tx,.int .i64 a.deed,.slice aC cn cC] 32)):=(Below.refl _ W8).alloc (Nat.le_refl _) _;have RA:=qd (qs W8 (.cells #[.int .i64 a.kind,.slice aS sn cS,.slice none 0 0,.int .i64 a.pre,.int .i64 a.tx,.int .i64 a.deed,.slice aC cn cC] 32));have B9:=qd (B8.o.trans (ba.mono B8.o.size));have R9:=qd (qh R8.o ba (qe R8.o));have S9:=qd (qj.base (qj.below ST.o ba) (Nat.zero_le _));have H9:=qd (HH.o.below B9.o);clear hJ hA b8 hsn hcn ba y0 y1 yl JC;by_cases hk1:a.kind=1
   case neg=>
    have hq1:(a.kind !=1)=true:=by simp[hk1]
    clear hk1;go_wp2_with fail;refine bodyPost_ret (v:=.bool true) (by simp[results,Tryz.results4,go_sem]) rfl ⟨rfl,B9.o⟩
   case pos=>
    obtain⟨hsl,hsA,τ,hpl,hEV⟩:=Mv (qW EP.o).1 (qW EP.o).2 HLV.o HJ.o hk1 hal;have HSL:=qd hsl;have HSA:=qd hsA;have HPL:=qd hpl;have HEV:=qd hEV;have HZ:=qd (hist0 (qW EP.o).1);have HDD:=qd (VY (qW EP.o).1 (qW EP.o).2);rw[hk1];rw[hk1] at RA R9 S9 H9 B9;have y0:=qa R9.o 0;have y1:=qa R9.o 1;simp at y0 y1;have yl:=qe R9.o;have ya:=qa RA.o 0;simp at ya;have yal:=qe RA.o;have hTC:=H9.o.toT.hT _ (Below.refl _ _);rw[(qW EP.o).1] at hTC;have TC:=qd hTC;clear hsl hsA hpl hEV hTC hk1 HJ;go_wp2_with fail;generalize W8.alloc (.cells #[.int .i64 1,.slice aS sn cS,.slice none 0 0,.int .i64 a.pre,.int .i64 a.tx,.int .i64 a.deed,.slice aC cn cC] 32)=X9 at *;refine TC.o.mono ?_;rintro e Y0 ⟨tv,rfl,ht,bY⟩;have C0:=qd (B9.o.trans (bY.mono B9.o.size));have R10:=qd (qh R9.o bY yl);have RA0:=qd (qh RA.o bY yal);have T0:=qd ht;have S0:=qd (qj.below S9.o bY);have H10:=qd (HH.o.below C0.o);clear ht bY y0 y1 yl ya yal TC;have y0:=qa R10.o 0;simp at y0;have yl:=qe R10.o;obtain⟨LS,hLS⟩:∃LS,os.map vF=LS:=⟨_,rfl⟩
    obtain⟨ln,hln⟩:∃ln,LS.length=ln:=⟨_,rfl⟩
    have hLl:LS.length<=1000:=by rw[←hLS,List.length_map];omega
    have NC:=s_New _ os _ H10.o.ho HZ.o H10.o.wd H10.o.er.g;rw[hLS] at NC HPL HDD;have NC:=qd NC;have HLL:=qd hLl;have HLN:=qd hln;clear hLS hln hLl;go_wp2_with fail;refine NC.o.mono ?_;rintro e Y1 ⟨v1,rfl,o1,b1⟩;obtain⟨a1,c1,e1⟩:=qj.sli o1;rw[HLN.o] at e1;subst e1;have hzY:=C0.o.size;have bx:Below Y1.heap.size Y1 (Y1.alloc (.cells #[.slice a1 ln c1] 57)):=(Below.refl _ Y1).alloc (Nat.le_refl _) _;have b2:Below Y0.heap.size Y0 (Y1.alloc (.cells #[.slice a1 ln c1] 57)):=b1.trans (bx.mono b1.size);have C2:=qd (C0.o.trans (b2.mono hzY));have R11:=qd (qh R10.o b2 yl);have RA1:=qd (qh RA0.o b2 (qe RA0.o));have S1:=qd (qj.below S0.o b2);have T1:=qd (T0.o.below b2);have O1:=qd (qj.base (qj.below o1 bx) (Nat.zero_le _));have RS:=qd (qs Y1 (.cells #[.slice a1 ln c1] 57));have E1:=qd (show uu 16 _ from(HH.o.er.answer.below C2.o));clear o1 b1 bx b2 y0 yl NC;have ya:=qa RA1.o 1;simp at ya;have yal:=qe RA1.o;have ys:=qa RS.o 0;simp at ys;have ysl:=qe RS.o;obtain⟨al,hal2⟩:∃al,(lv==3)=al:=⟨_,rfl⟩
    rw[hal2] at HPL;have OC:=qd (MT _ tv (.slice aS sn cS) LS τ A a.steps al _ O1.o HLL.o (Nat.le_trans HSL.o (by decide)) S1.o T1.o E1.o HSA.o HDD.o HPL.o);go_wp2_with fail;generalize Y1.alloc (.cells #[.slice a1 ln c1] 57)=Y2 at *;refine OC.o.mono ?_;rintro e Y3 ⟨v3,rfl,o3,b3⟩;obtain⟨tl,htl⟩:∃tl,τ.length=tl:=⟨_,rfl⟩
    obtain⟨a3,c3,e3⟩:=qj.sli o3;rw[htl] at e3;subst e3;have hzA:=C2.o.size;have bx:Below Y3.heap.size Y3 (Y3.alloc (.cells #[.slice a3 tl c3] 57)):=(Below.refl _ Y3).alloc (Nat.le_refl _) _;have b4:Below Y2.heap.size Y2 (Y3.alloc (.cells #[.slice a3 tl c3] 57)):=b3.trans (bx.mono b3.size);have C4:=qd (C2.o.trans (b4.mono hzA));have R12:=qd (qh R11.o b4 (qe R11.o));have O4:=qd (qj.below o3 bx);have RT:=qd (qs Y3 (.cells #[.slice a3 tl c3] 57));have HTL:=qd htl;have htlO:tl<=1000:=by
     have:=HEV.o.1;rw[htl] at this;omega
    have hzT:=qe RT.o;have hw3:w.heap.size<=Y3.heap.size:=by have:=b3.size;omega
    have H12:=qd (HH.o.below C4.o);clear o3 b3 bx b4 ya yal ys ysl htl hal2 OC;go_wp2_with fail;generalize Y3.alloc (.cells #[.slice a3 tl c3] 57)=Y4 at *
    go_loopw [18] (fun q wr=>∃k:Nat,k<=os.length/\q=.int .i64 k/\Below Y4.heap.size Y4 wr) (fun q _=>os.length - (intOf q).toNat)
    case atStart=>exact⟨0,by omega,by go_num,Below.refl _ _⟩
    case round=>
     obtain⟨k,hk,rfl,hB⟩:=hrel;have hwz:=hB.size;have HB:=qd hB;have R13:=qd (qh R12.o hB (qe R12.o));have y0:=qa R13.o 0;have y1:=qa R13.o 1;simp at y0 y1;have yl:=qe R13.o;have H13:=qd (H12.o.below hB);clear hB;by_cases hlt:k < os.length
     ·obtain ⟨b,off,o,rfl,hb,ho,hc⟩:=H13.o.ho.atF Ob.len rfl hlt
      have c0:wr.cell? ⟨b,off+k*2,none⟩=some (.int .i64 o.kind):=hc 0 (by decide);have hbw:b < wr.heap.size:=by omega
      have HO:=qd ho;clear ho hc;by_cases hk1:o.kind=1
      ·have hq:(o.kind !=1)=false:=by simp[hk1]
       obtain⟨n',x,v1,v2,v3,v4,v5⟩:=HEV.o.2 k o HO.o hk1;obtain⟨m,hm1,hm⟩:∃m,1<=m/\m=n'+1:=⟨n'+1,by omega,rfl⟩
       obtain rfl:n'=m - 1:=by omega
       have hm0:m - 1 < m:=by omega
       rw[←hm] at v1;have VC:=ZL (o:=(k:Int)) H13.o.toT EP.o HLV.o hal ⟨by omega,by omega⟩;have DC:=qd (fun(X:World) (hX:Below wr.heap.size wr X) (h3:SlS X X.heap.size (.slice a3 tl c3) τ)=>st_Do (.slice a3 tl c3) τ k x 1 0 X h3 (by rw[HTL.o];exact htlO) v4 v5 (.inl ⟨rfl,rfl⟩));generalize (jQ lv (os.map (·.init)) A (k:Int)).1=V at VC v1 v2;generalize (jQ lv (os.map (·.init)) A (k:Int)).2=vb at VC v3;have VC:=qd VC;have V1:=qd v1;have V2:=qd v2;subst v3;clear v1 v2 v4 v5 hk1 hm;go_wp2_with fail;refine VC.o.mono ?_;rintro e w1 ⟨vv,b',rfl,hV,rfl,b1⟩;obtain⟨a5,c5,e5⟩:=qj.sli hV;rw[V1.o] at e5;subst e5;have B1:=qd (HB.o.trans (b1.mono hwz));have hz1:=B1.o.size;have RT1:=qd (qh RT.o B1.o hzT);have O5:=qd (qj.sl (qj.below O4.o B1.o));have yt:=qa RT1.o 0;simp at yt;have ytl:=qe RT1.o;have VV:=qd hV;have D1:=qd (DC.o w1 b1 (by have:=O5.o;rw[HTL.o] at this;unfold SlS;rw[HTL.o];exact this));clear hV b1 VC DC;go_wp2_with fail;refine D1.o.mono ?_;rintro e w2 ⟨v6,rfl,o6,b2⟩;have e6:(Uz x 1 0).2.1=3/\(Uz x 1 0).2.2=x:=⟨rfl,rfl⟩
       rw[e6.1,e6.2];obtain⟨a6,c6,e7⟩:=qj.sli o6;rw[List.length_set,HTL.o] at e7;subst e7;have hml:m<=9223372036854775807:=by
        obtain⟨_,_,_,h⟩:=qj.form2 VV.o;rw[V1.o] at h;exact h
       have b3:Below w1.heap.size w1 (w2.alloc (.cells #[.slice a6 tl c6] 57)):=b2.alloc b2.size _;obtain⟨b9,f9,x9,e9,hb9,hx9,hc9⟩:=(QG (qj.below VV.o b3) V1.o).intAt hm0;rw[V2.o] at hx9;obtain rfl:=Option.some.inj hx9;subst e9;have B3:=qd (B1.o.trans (b3.mono hz1));have hw1:wrap64 ((m:Int) - 1)=((m - 1:Nat):Int):=by
        unfold wrap64;omega
       have hm2:((m:Int)==0)=false:=by simp;omega
       have hx2:(x !=x)=false:=by simp
       have hkk:k+1<=101:=by omega
       have hb9':b9 < (w2.alloc (.cells #[.slice a6 tl c6] 57)).heap.size:=hb9;clear o6 b2 b3 e6 hx9 hb9 D1 yt ytl c0;go_wp2_with fail;go_roundw
       case rel=>exact⟨k+1,by omega,by go_num,B3.o⟩
       case measure=>simp[intOf];omega
      ·have hq:(o.kind !=1)=true:=by simp[hk1]
       have hkk:k+1<=101:=by omega
       go_wp2_with fail;go_roundw
       case rel=>exact⟨k+1,by omega,by go_num,HB.o⟩
       case measure=>simp[intOf];omega
     ·obtain rfl:k=os.length:=by omega
      have hq:decide ((os.length:Int) < (os.length:Int))=false:=by simp
      have BF:=qd (C4.o.trans (HB.o.mono (by have:=C4.o.size;omega)));go_wp2_with fail;refine bodyPost_ret (v:=.bool true) (by simp[results,Tryz.results4,go_sem]) rfl ⟨rfl,BF.o⟩
end
