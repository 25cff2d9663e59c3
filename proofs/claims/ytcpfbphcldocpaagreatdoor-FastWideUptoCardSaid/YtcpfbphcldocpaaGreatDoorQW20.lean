/- Parts of the proof. Conditions: those of each theorem, as typed. -/
import Derived.Test.YtcpfbphcldocpaaGreatDoorQW19
import Derived.Test.YtcpfbphcldocpaaGreatDoorQW18
import Derived.Shelf.Strings.OnBuilder
import Derived.Shelf.Strconv.Itoa3
import Derived.Shelf.LaysM
import Derived.Test.YtcpfbphcldocpaaGreatDoorProg
import Derived.Test.YtcpfbphcldocpaaGreatDoorQW15
import Derived.Test.YtcpfbphcldocpaaGreatDoorQW04
import Derived.Lib.AppendIntMem
import Derived.Test.YtcpfbphcldocpaaGreatDoorQW13
import Derived.Test.YtcpfbphcldocpaaGreatDoorQW14
import Derived.Conc.LoneSelect
import Derived.Test.YtcpfbphcldocpaaGreatDoorQW12
import Derived.Laws.Bits64b
set_option linter.unusedVariables false
set_option linter.unusedSimpArgs false
set_option linter.unusedSectionVars false
set_option maxRecDepth 100000
set_option maxHeartbeats 4000000
namespace Go.Proofs.YtcpfbphcldocpaaGreatDoor
open Go.Conc Go.Maps Go.RowKit Go.Shelf
section
attribute [local irreducible] xE
structure GlF (w:World):Prop where
 wd:xu w
 er:jy w
 pr:jz w 6
theorem GlF.below {w w':World} (h:GlF w) (hb:Below w.heap.size w w'):GlF w':=⟨h.wd.below hb,h.er.below hb,h.pr.below hb⟩
theorem qex:yz [⟨1,0⟩] JP=true:=by decide+kernel
theorem Mr:zr [] 0 (JP.take 13)=some (uF 13)/\zr [] 0 (JP.take 14)=some (uF 14):=by
 have h1:=qcK 13 (by decide);have h2:=qcK 14 (by decide);unfold uF;exact⟨by cases e:zr [] 0 (JP.take 13) with|none=>rw[e] at h1;cases h1|some A=>rfl,by cases e:zr [] 0 (JP.take 14) with|none=>rw[e] at h2;cases h2|some A=>rfl⟩
theorem qcO:yz [⟨1,0⟩] Nt=true:=by decide+kernel
theorem KI:xA [⟨1,0⟩] [] (uF 13)=true/\xA [⟨1,0⟩] [] (uF 14)=true:=by decide+kernel
theorem YN:yB [⟨1,0⟩] (xg [⟨1,0⟩] Nt)=some (uF 13):=by
 unfold xg;rw[if_pos qcO,←qcQ,Mr.1];unfold yB;simp only;rw[if_pos KI.1]
theorem qez:JP.take 14=JP:=rfl
theorem qaC:yB [⟨1,0⟩] (xg [⟨1,0⟩] JP)=some (uF 14):=by
 unfold xg;rw[if_pos qex,←qez,Mr.2];unfold yB;simp only;rw[if_pos KI.2]
theorem qcL {i:Nat} {a:NJ} (h:Xs [⟨1,0⟩] JP i a):∃A,A=uF i/\yS 3 [0] A a:=by
 obtain⟨A,h1,h2⟩:=h;have h3:=(zQ (yH h1).1).2.2.2;have:uF i=A:=by unfold uF;rw[h3];rfl
 exact⟨A,this.symm,h2⟩
theorem qgc:((uF 13).map (·.id)).Nodup:=by decide+kernel
theorem KH:jd (uF 13) (xd 1 (uF 13)) (uF 13).length=[1]:=by decide+kernel
theorem qcM:(uF 13).length=2:=by decide+kernel
theorem KK:∀o ∈ ([⟨1,0⟩]:List Ob),dI o.kind:=fun o ho=>by
 simp at ho;subst ho;exact vN ⟨by decide,by decide⟩
theorem qcP:∀e ∈ Nt,dI e.ret:=fun e he=>vN ((by decide+kernel:∀e ∈ Nt,-1000000000<=e.ret/\e.ret<=1000000000) e he)
theorem qhc:∀e ∈ JP,dI e.ret:=fun e he=>vN ((by decide+kernel:∀e ∈ JP,-1000000000<=e.ret/\e.ret<=1000000000) e he)
theorem Yx {w:World} {B n:Nat} {v:Value} {l:List Int} (h:xJ w B v l) (hn:l.length=n):Sl w w.heap.size 1 v n (l.map (.int .i64)):=by
 subst hn;rw[←ux];exact qj.sl h
theorem qey:JP.length=14:=rfl
theorem Mt {a:NJ} (hp:Xs [⟨1,0⟩] JP 14 a):a.kind=3/\a.cyc=[1,2]:=by
 obtain⟨A,hA,h⟩:=qcL hp;rw[hA] at h;exact qcN h
theorem qcH {j:Nat} {a:NJ} (h:j < 14) (hp:Xs [⟨1,0⟩] JP j a):a.kind=1:=by
 obtain⟨A,hA,hj⟩:=qcL hp;rw[hA] at hj;exact Ws h hj
theorem qhb {w w':World} {e:Ending} (hr:(∃va,e=.returned (.tuple #[.agg #[.int .i64 1,.slice none 0 0,va,.int .i64 0,.int .i64 0,.int .i64 0,.slice none 0 0],.nilIface])/\(∃a n c,va=.slice a n c)/\∀j,j<=JP.length->∃a,Xs [⟨1,0⟩] JP j a/\a.kind=1)\/
  ∃(j:Nat) (a:NJ) (vs vc:Value),j<=JP.length/\Xs [⟨1,0⟩] JP j a/\a.kind≠1/\e=.returned (.tuple #[vp {a with pre:=j} vs vc,.nilIface])/\VA w' w.heap.size vs vc a):
  ∃(a2:NJ) (vs vc:Value),a2.kind=3/\a2.cyc=[1,2]/\e=.returned (.tuple #[vp {a2 with pre:=14} vs vc,.nilIface])/\VA w' w.heap.size vs vc a2:=by
 rw[qey] at hr;rcases hr with⟨va,-,-,hall⟩|⟨j,a2,vs,vc,hj,hp,hk,he,hA⟩
 ·obtain ⟨a2,hp,hk⟩:=hall 14 (Nat.le_refl _)
  have:=(Mt hp).1;omega
 ·by_cases h:j < 14
  ·exact absurd (qcH h hp) hk
  ·obtain rfl:j=14:=by omega
   have:=Mt hp;exact⟨a2,vs,vc,this.1,this.2,he,hA⟩
theorem qas (w:World) (hG:GlF w):Calls Tryz.prog 7 #[] w fun e w'=>e=.returned (.bool true)/\Below w.heap.size w w':=by
 have HG:=qh hG;clear hG;go_enter Tryz.func7,Tryz.ntmps7;go_wp2_with fail;refine(MN _).mono ?_;rintro e W1 ⟨ov,vv,rfl,ho,hv,b1⟩;obtain⟨ao,co,e1⟩:∃a c,ov=.slice a 1 c:=qj.sli ho;obtain⟨av,cv,e2⟩:∃a c,vv=.slice a 13 c:=qj.sli hv;subst e1 e2;have b2:Below w.heap.size w ((W1.alloc (.cells #[.slice ao 1 co,.slice av 13 cv] 25)).alloc (.cells #[.slice ao 1 co,.slice av 13 cv] 25)):=(b1.alloc b1.size _).alloc (by have:=b1.size;simp;omega) _;have r1:=qD (o:=.cells #[.slice ao 1 co,.slice av 13 cv] 25) (qy W1 (.cells #[.slice ao 1 co,.slice av 13 cv] 25));have r2:=qy (W1.alloc (.cells #[.slice ao 1 co,.slice av 13 cv] 25)) (.cells #[.slice ao 1 co,.slice av 13 cv] 25);have ho2:=qj.alloc (qj.alloc ho (.cells #[.slice ao 1 co,.slice av 13 cv] 25)) (.cells #[.slice ao 1 co,.slice av 13 cv] 25);have hv2:=qj.alloc (qj.alloc hv (.cells #[.slice ao 1 co,.slice av 13 cv] 25)) (.cells #[.slice ao 1 co,.slice av 13 cv] 25);simp only[World.size_alloc] at r2;have B2:=qh b2;have R1:=qh r1;have R2:=qh r2;have O2:=qh ho2;have V2:=qh hv2;have hz1:w.heap.size<=W1.heap.size:=b1.size;clear ho hv b1 b2 r1 r2 ho2 hv2;go_wp2_with fail;generalize (W1.alloc (.cells #[.slice ao 1 co,.slice av 13 cv] 25)).alloc (.cells #[.slice ao 1 co,.slice av 13 cv] 25)=W2 at *;have h12:=qd R2.o;refine(qbe _ Nt _ (qj.sl V2.o) (by decide)).mono ?_;rintro e W3 ⟨u3,rfl,o3,b3⟩;obtain⟨a3,c3,e3⟩:∃a c,u3=.slice a 13 c:=qj.sli o3;subst e3;have hz2:=B2.o.size;have B3:=qh (B2.o.trans (b3.mono hz2));have R1:=qh (qp R1.o b3 (qd R1.o));have R2:=qh (qp R2.o b3 (qd R2.o));have O2:=qh (qj.below O2.o b3);have VLT:=qh (fun k hk=>(qj.lt V2.o k hk).2);have V2:=qh (qj.below V2.o b3);have hz3:=b3.size;have h12:W1.heap.size+1 < W2.heap.size:=h12;have O3:=qh o3;have hxl:Nt.length<=13:=Nat.le_refl _;clear o3 b3;go_wp2_with (at_builtin;refine qN rfl _ _ _ rfl _ 64 Tryz.underlying23 ud rfl O3.o ⟨5,2,0,0,0,0,0,0⟩ hz3 (by rfl) (by rfl) (by first|rfl|simp) rfl (ua _) (by first|omega|(simp only[List.length_append,List.length_cons,List.length_nil,List.length_replicate];omega)) (by first|omega|(simp only[List.length_append,List.length_cons,List.length_nil,List.length_replicate];omega)) ?_;refine qK.halt ?_)
 refine qK.go ?_;intro g4 c4 W4 o4 G4;have hx14:Nt.length+1=14:=rfl;rw[hx14] at o4 G4 ⊢;clear hx14 hxl;have hw3:w.heap.size<=W3.heap.size:=by omega
 have K4:=qh (show qj Ev.cells 69 8 W4 w.heap.size (.slice (some ⟨g4,0,none⟩) 14 c4) JP from qj.base o4 (by omega));have B4:=qh (B3.o.trans (G4.below hw3 fun k hk=>by have:=(qj.lt O3.o k hk).1;omega));have R1:=qh (qL R1.o G4 (qj.neT O3.o R1.o (by decide)));have R2:=qh (qL R2.o G4 (qj.neT O3.o R2.o (by decide)));have O4:=qh (qj.grwT O2.o O3.o (by decide) G4);have V4:=qh (qj.grw V2.o G4 fun k hk e=>by
  have h1:=(qj.lt O3.o k e).1;have h2:=VLT.o k hk;omega)
 have l2:=qd R2.o;have f2:=qB R2.o 1;have y2:=qa R2.o;have y20:=y2 0;have y21:=y2 1;have y1:=qa R1.o;have y10:=y1 0;have y11:=y1 1;simp at y20 y21 y10 y11;have l1:=qd R1.o;have R25:=qh (qq R2.o 1 (.slice (some ⟨g4,0,none⟩) 14 c4));have R15:=qh (qJ R1.o (show W1.heap.size+1≠W1.heap.size by omega) (j:=1) (v:=(.slice (some ⟨g4,0,none⟩) 14 c4)));have O5:=qh (qj.other (j:=1) O4.o (qj.neT O4.o R2.o (by decide)) (.slice (some ⟨g4,0,none⟩) 14 c4));have V5:=qh (qj.other (j:=1) V4.o (qj.neT V4.o R2.o (by decide)) (.slice (some ⟨g4,0,none⟩) 14 c4));have K5:=qh (qj.other (j:=1) K4.o (qj.neT K4.o R2.o (by decide)) (.slice (some ⟨g4,0,none⟩) 14 c4));have B5:=qh (B4.o.setCell (p:=⟨W1.heap.size+1,1,none⟩) (show w.heap.size<=W1.heap.size+1 by omega) (.slice (some ⟨g4,0,none⟩) 14 c4));clear o4 G4 y2 y1 R1 R2 O4 V4 K4 B4 VLT O2 V2 O3;go_wp2_with fail;generalize W4.setCell ⟨W1.heap.size+1,1,none⟩ (.slice (some ⟨g4,0,none⟩) 14 c4)=W5 at *;have R2:=qh (show W5.heap[W1.heap.size+1]?=some (.cells #[.slice ao 1 co,.slice (some ⟨g4,0,none⟩) 14 c4] 25 (0,0)) by simpa using R25.o);have R1:=R15;clear R25 R15 y20 y21 y10 y11 l1 l2 f2;have HE5:Xk W5 (.slice ao 1 co) (.slice av 13 cv) [⟨1,0⟩] Nt:=⟨qj.sl O5.o,qj.sl V5.o,KK,qcP,HG.o.wd.below B5.o,HG.o.er.below B5.o,HG.o.pr.below B5.o⟩
 refine(KG HE5.toT YN (.inr (.inr rfl)) (by rw[qcM];omega) qgc).mono ?_;rintro e W6 ⟨a,vs,vc,rfl,hJ,hA,b6⟩;obtain⟨hk1,hst⟩:=Ns hJ;have hS:=hA.1;rw[hst] at hS;obtain⟨aS,cS,e1⟩:∃x y,vs=.slice x 2 y:=qj.sli hS;obtain⟨aC,cC,e2⟩:=qj.sli hA.2;subst e1 e2;have B6:=qh (B5.o.trans (b6.mono B5.o.size));have S6:=qh (qj.base hS B5.o.size);clear hA hS hJ hst HE5;have R1:=qh (qp R1.o b6 (qd R1.o));have R2:=qh (qp R2.o b6 (qd R2.o));have O5:=qh (qj.below O5.o b6);have V5:=qh (qj.below V5.o b6);have K5:=qh (qj.below K5.o b6);clear b6;have y1:=qa R2.o 0;have y2:=qa R2.o 1;simp at y1 y2;have l2:=qd R2.o;unfold vp;rw[hk1];go_wp2_with fail;have b7:Below W6.heap.size W6 (W6.alloc (.cells #[.int .i64 1,.slice aS 2 cS,.slice none 0 0,.int .i64 a.pre,.int .i64 a.tx,.int .i64 a.deed,.slice aC a.cyc.length cC] 32)):=(Below.refl _ W6).alloc (Nat.le_refl _) _;have R3:=qh (qy W6 (.cells #[.int .i64 1,.slice aS 2 cS,.slice none 0 0,.int .i64 a.pre,.int .i64 a.tx,.int .i64 a.deed,.slice aC a.cyc.length cC] 32));have B7:=qh (B6.o.trans (b7.mono B6.o.size));have S6:=qh (qj.below S6.o b7);have R1:=qh (qp R1.o b7 (qd R1.o));have R2:=qh (qp R2.o b7 (qd R2.o));have O5:=qh (qj.below O5.o b7);have V5:=qh (qj.below V5.o b7);have K5:=qh (qj.below K5.o b7);clear b7 y1 y2 l2;generalize W6.alloc (.cells #[.int .i64 1,.slice aS 2 cS,.slice none 0 0,.int .i64 a.pre,.int .i64 a.tx,.int .i64 a.deed,.slice aC a.cyc.length cC] 32)=W7 at *;have HK7:Xk W7 (.slice ao 1 co) (.slice (some ⟨g4,0,none⟩) 14 c4) [⟨1,0⟩] JP:=⟨qj.sl O5.o,qj.sl K5.o,KK,qhc,HG.o.wd.below B7.o,HG.o.er.below B7.o,HG.o.pr.below B7.o⟩
 refine(qcG HK7 qaC (by decide)).mono ?_;rintro e W8 ⟨hr,b8⟩;obtain⟨a2,vs,vc,hk3,hcy,rfl,hA⟩:=qhb hr;have hC:=hA.2;rw[hcy] at hC;obtain⟨aS2,cS2,e1⟩:=qj.sli hA.1;obtain⟨aC2,cC2,e2⟩:∃x y,vc=.slice x 2 y:=qj.sli hC;subst e1 e2;have hz7:=B7.o.size;have B8:=qh (B7.o.trans (b8.mono hz7));have C8:=qh (qj.base hC hz7);clear hA hC hr HK7 hcy;have R1:=qh (qp R1.o b8 (qd R1.o));have R2:=qh (qp R2.o b8 (qd R2.o));have R3:=qh (qp R3.o b8 (qd R3.o));have O5:=qh (qj.below O5.o b8);have V5:=qh (qj.below V5.o b8);have K5:=qh (qj.below K5.o b8);have S6:=qh (qj.below S6.o b8);clear b8;have y1:=qa R1.o;have y10:=y1 0;have y11:=y1 1;simp at y10 y11;have l1:=qd R1.o;unfold vp;simp only[hk3];go_wp2_with fail;have b9:Below W8.heap.size W8 (W8.alloc (.cells #[.int .i64 3,.slice aS2 a2.steps.length cS2,.slice none 0 0,.int .i64 14,.int .i64 a2.tx,.int .i64 a2.deed,.slice aC2 2 cC2] 32)):=(Below.refl _ W8).alloc (Nat.le_refl _) _;have R5:=qh (qy W8 (.cells #[.int .i64 3,.slice aS2 a2.steps.length cS2,.slice none 0 0,.int .i64 14,.int .i64 a2.tx,.int .i64 a2.deed,.slice aC2 2 cC2] 32));have B9:=qh (B8.o.trans (b9.mono B8.o.size));have C8:=qh (qj.below C8.o b9);have R1:=qh (qp R1.o b9 (qd R1.o));have R2:=qh (qp R2.o b9 (qd R2.o));have R3:=qh (qp R3.o b9 (qd R3.o));have O5:=qh (qj.below O5.o b9);have V5:=qh (qj.below V5.o b9);have K5:=qh (qj.below K5.o b9);have S6:=qh (qj.below S6.o b9);clear b9 y1 y10 y11 l1;generalize W8.alloc (.cells #[.int .i64 3,.slice aS2 a2.steps.length cS2,.slice none 0 0,.int .i64 14,.int .i64 a2.tx,.int .i64 a2.deed,.slice aC2 2 cC2] 32)=W9 at *;have HE9:Xk W9 (.slice ao 1 co) (.slice av 13 cv) [⟨1,0⟩] Nt:=⟨qj.sl O5.o,qj.sl V5.o,KK,qcP,HG.o.wd.below B9.o,HG.o.er.below B9.o,HG.o.pr.below B9.o⟩
 refine(qcF HE9.toT YN (.inl rfl)).mono ?_;rintro e W10 ⟨vt,rfl,hT,b10⟩;rw[KH] at hT;obtain⟨aT,cT,e1⟩:∃x y,vt=.slice x 1 y:=qj.sli hT;subst e1;have T10:=qh hT;have B10:=qh (B9.o.trans (b10.mono B9.o.size));clear hT HE9;have R1:=qh (qp R1.o b10 (qd R1.o));have R2:=qh (qp R2.o b10 (qd R2.o));have R3:=qh (qp R3.o b10 (qd R3.o));have R5:=qh (qp R5.o b10 (qd R5.o));have O5:=qh (qj.below O5.o b10);have V5:=qh (qj.below V5.o b10);have K5:=qh (qj.below K5.o b10);have S6:=qh (qj.below S6.o b10);have C8:=qh (qj.below C8.o b10);clear b10;have y1:=qa R1.o;have y10:=y1 0;have y11:=y1 1;simp at y10 y11;have l1:=qd R1.o;have HE10:Xk W10 (.slice ao 1 co) (.slice av 13 cv) [⟨1,0⟩] Nt:=⟨qj.sl O5.o,qj.sl V5.o,KK,qcP,HG.o.wd.below B10.o,HG.o.er.below B10.o,HG.o.pr.below B10.o⟩
 have VC:=qh (JO (o:=0) HE10.toT YN (.inl rfl) (by rw[qcM];omega) ⟨by omega,by decide⟩);clear HE10 y1;go_wp2_with fail;refine VC.o.mono ?_;rintro e W11 ⟨vv,b,rfl,hV,hb,b11⟩;have hvx:Qa 1 (([⟨1,0⟩]:List Ob).map (·.init)) (uF 13) 0=([0,1],true):=qew;rw[hvx] at hV hb;subst hb;obtain⟨aV,cV,e1⟩:∃x y,vv=.slice x 2 y:=qj.sli hV;subst e1;have U11:=qh hV;have B11:=qh (B10.o.trans (b11.mono B10.o.size));clear hV hvx VC y10 y11 l1;have R1:=qh (qp R1.o b11 (qd R1.o));have R2:=qh (qp R2.o b11 (qd R2.o));have R3:=qh (qp R3.o b11 (qd R3.o));have R5:=qh (qp R5.o b11 (qd R5.o));have O5:=qh (qj.below O5.o b11);have V5:=qh (qj.below V5.o b11);have K5:=qh (qj.below K5.o b11);have S6:=qh (qj.below S6.o b11);have C8:=qh (qj.below C8.o b11);have T10:=qh (qj.below T10.o b11);clear b11;have y3:=qa R3.o 1;simp at y3;have l3:=qd R3.o;go_wp2_with fail;clear y3 l3;have bl11:Below W11.heap.size W11 (W11.alloc (.cells #[.int .i64 2,.bool false,.int .i64 1,.bool true] 87)):=(Below.refl _ W11).alloc (Nat.le_refl _) _;have ll11:qj Xj 87 2 (W11.alloc (.cells #[.int .i64 2,.bool false,.int .i64 1,.bool true] 87)) W11.heap.size (.slice (some ⟨W11.heap.size,0,none⟩) 2 2) [(2,false),(1,true)]:=by
  have:=qj.lit (f:=Xj) (e:=87) (sz:=2) W11 W11.heap.size (Nat.le_refl _) [(2,false),(1,true)] (fun _=>rfl) (by simp);simpa[Xj] using this
 have S6:=qh (qj.below S6.o bl11);have LL:=qh ll11;have B12:=qh (B11.o.trans (bl11.mono B11.o.size));have R2:=qh (qp R2.o bl11 (qd R2.o));have R3:=qh (qp R3.o bl11 (qd R3.o));have R5:=qh (qp R5.o bl11 (qd R5.o));have C8:=qh (qj.below C8.o bl11);have T10:=qh (qj.below T10.o bl11);have U11:=qh (qj.below U11.o bl11);clear bl11 ll11;generalize W11.alloc (.cells #[.int .i64 2,.bool false,.int .i64 1,.bool true] 87)=W12 at *;refine(VL _ _ [(2,false),(1,true)] 2 _ rfl (qj.sl S6.o) (qj.sl LL.o)).mono ?_;rintro e W13 ⟨rfl,b13⟩;have B13:=qh (B12.o.trans (b13.mono B12.o.size));have R2:=qh (qp R2.o b13 (qd R2.o));have R3:=qh (qp R3.o b13 (qd R3.o));have R5:=qh (qp R5.o b13 (qd R5.o));have C8:=qh (qj.below C8.o b13);have T10:=qh (qj.below T10.o b13);have U11:=qh (qj.below U11.o b13);clear b13 LL S6;have y5:=qa R5.o 6;simp at y5;have l5:=qd R5.o;go_wp2_with fail;have bl13:Below W13.heap.size W13 (W13.alloc (.cells #[.int .i64 1,.int .i64 2] 3)):=(Below.refl _ W13).alloc (Nat.le_refl _) _;have ll13:qj zK 3 1 (W13.alloc (.cells #[.int .i64 1,.int .i64 2] 3)) W13.heap.size (.slice (some ⟨W13.heap.size,0,none⟩) 2 2) [1,2]:=by
  have:=qj.lit (f:=zK) (e:=3) (sz:=1) W13 W13.heap.size (Nat.le_refl _) [1,2] (fun _=>rfl) (by simp);simpa[zK] using this
 have C8:=qh (qj.below C8.o bl13);have LL:=qh ll13;have B14:=qh (B13.o.trans (bl13.mono B13.o.size));have R2:=qh (qp R2.o bl13 (qd R2.o));have R3:=qh (qp R3.o bl13 (qd R3.o));have R5:=qh (qp R5.o bl13 (qd R5.o));have T10:=qh (qj.below T10.o bl13);have U11:=qh (qj.below U11.o bl13);clear bl13 ll13;generalize W13.alloc (.cells #[.int .i64 1,.int .i64 2] 3)=W14 at *;refine(Qo _ _ [1,2] 2 _ (Yx C8.o rfl) (Yx LL.o rfl)).mono ?_;rintro e W15 ⟨rfl,b15⟩;have B15:=qh (B14.o.trans (b15.mono B14.o.size));have R2:=qh (qp R2.o b15 (qd R2.o));have R3:=qh (qp R3.o b15 (qd R3.o));have R5:=qh (qp R5.o b15 (qd R5.o));have T10:=qh (qj.below T10.o b15);have U11:=qh (qj.below U11.o b15);clear b15 LL C8;clear y5 l5;go_wp2_with fail;have bl15:Below W15.heap.size W15 (W15.alloc (.cells #[.int .i64 1] 3)):=(Below.refl _ W15).alloc (Nat.le_refl _) _;have ll15:qj zK 3 1 (W15.alloc (.cells #[.int .i64 1] 3)) W15.heap.size (.slice (some ⟨W15.heap.size,0,none⟩) 1 1) [1]:=by
  have:=qj.lit (f:=zK) (e:=3) (sz:=1) W15 W15.heap.size (Nat.le_refl _) [1] (fun _=>rfl) (by simp);simpa[zK] using this
 have T10:=qh (qj.below T10.o bl15);have LL:=qh ll15;have B16:=qh (B15.o.trans (bl15.mono B15.o.size));have R2:=qh (qp R2.o bl15 (qd R2.o));have R3:=qh (qp R3.o bl15 (qd R3.o));have R5:=qh (qp R5.o bl15 (qd R5.o));have U11:=qh (qj.below U11.o bl15);clear bl15 ll15;generalize W15.alloc (.cells #[.int .i64 1] 3)=W16 at *;refine(Qo _ _ [1] 1 _ (Yx T10.o rfl) (Yx LL.o rfl)).mono ?_;rintro e W17 ⟨rfl,b17⟩;have B17:=qh (B16.o.trans (b17.mono B16.o.size));have R2:=qh (qp R2.o b17 (qd R2.o));have R3:=qh (qp R3.o b17 (qd R3.o));have R5:=qh (qp R5.o b17 (qd R5.o));have U11:=qh (qj.below U11.o b17);clear b17 LL T10;go_wp2_with fail;have bl17:Below W17.heap.size W17 (W17.alloc (.cells #[.int .i64 0,.int .i64 1] 3)):=(Below.refl _ W17).alloc (Nat.le_refl _) _;have ll17:qj zK 3 1 (W17.alloc (.cells #[.int .i64 0,.int .i64 1] 3)) W17.heap.size (.slice (some ⟨W17.heap.size,0,none⟩) 2 2) [0,1]:=by
  have:=qj.lit (f:=zK) (e:=3) (sz:=1) W17 W17.heap.size (Nat.le_refl _) [0,1] (fun _=>rfl) (by simp);simpa[zK] using this
 have U11:=qh (qj.below U11.o bl17);have LL:=qh ll17;have B18:=qh (B17.o.trans (bl17.mono B17.o.size));have R2:=qh (qp R2.o bl17 (qd R2.o));have R3:=qh (qp R3.o bl17 (qd R3.o));have R5:=qh (qp R5.o bl17 (qd R5.o));clear bl17 ll17;generalize W17.alloc (.cells #[.int .i64 0,.int .i64 1] 3)=W18 at *;refine(Qo _ _ [0,1] 2 _ (Yx U11.o rfl) (Yx LL.o rfl)).mono ?_;rintro e W19 ⟨rfl,b19⟩;have B19:=qh (B18.o.trans (b19.mono B18.o.size));have R2:=qh (qp R2.o b19 (qd R2.o));have R3:=qh (qp R3.o b19 (qd R3.o));have R5:=qh (qp R5.o b19 (qd R5.o));clear b19 LL U11;have y30:=qa R3.o 0;have y50:=qa R5.o 0;have y53:=qa R5.o 3;have y21:=qa R2.o 1;simp at y30 y50 y53 y21;have l2:=qd R2.o;have l3:=qd R3.o;have l5:=qd R5.o;go_wp2_with fail;refine bodyPost_ret (v:=.bool true) (by simp[results,Tryz.results7,go_sem]) rfl ⟨rfl,B19.o⟩
end
section
variable {bend:Int} {n:Nat}
theorem qeO {lev:Int}:Qt (jm bend n) (xd lev (jm bend n)) 0=List.range' 0 n:=by
 unfold Qt;rw[jl,←List.range_eq_range',List.filter_eq_self];intro i hi;have hi:=List.mem_range.1 hi;rw[vm,Nx hi,ze hi];simp only[Vv,Bool.and_self]
theorem qdf {i:Nat} (hb:¬(1<=bend/\bend<=n)) (hi:i < n):xV bend (i+1)=i:=by
 unfold xV;rw[if_neg (by omega)];omega
theorem qeN {k m:Nat} (hb:¬(1<=bend/\bend<=n)) (hk:k+(m+1)=n):Zg (jm bend n) 0 k (List.range' k (m+1))=[k]:=by
 unfold Zg;rw[List.range'_succ,List.filter_cons_of_pos,List.filter_eq_nil_iff.2]
 ·intro i hi
  obtain⟨j,hj,rfl⟩:=List.mem_range'.1 hi;rw[ze (by omega)];simp only[JZ,fnd,qdf hb (show k+1+1*j < n by omega)];simp only[if_true,beq_iff_eq,Option.some.injEq];omega
 ·rw [ze (by omega)]
  simp only[JZ,fnd,qdf hb (show k < n by omega)];simp only[if_true,beq_iff_eq,Option.some.injEq]
theorem Vw (hb:¬(1<=bend/\bend<=n)):∀(f m k:Nat) (out:List Int),k+m=n->m < f->out.getLastD 0=(k:Int)->(zN (jm bend n) 0 f (List.range' k m) out).2=true/\(zN (jm bend n) 0 f (List.range' k m) out).1.length=out.length+m
 |0,m,k,out,_,h,_=>by omega
 |f+1,0,k,out,_,_,_=>by simp[zN]
 |f+1,m+1,k,out,hk,hf,hl=>by
  have e:=qeN hb hk;rw[List.range'_succ] at e ⊢;simp only[zN];rw[hl,e];simp only;have e2:(k::List.range' (k+1) m).filter (· !=k)=List.range' (k+1) m:=by
   rw[List.filter_cons_of_neg (by simp),List.filter_eq_self];intro i hi;obtain⟨j,hj,rfl⟩:=List.mem_range'.1 hi;simp;omega
  rw[e2];have hw:wrV (jm bend n) 0 k=((k+1:Nat):Int):=by
   unfold wrV;rw[ze (by omega)];simp[MA,fnd]
  rw[hw];have:=Vw hb f m (k+1) (out++[((k+1:Nat):Int)]) (by omega) (by omega) (by simp);refine⟨this.1,?_⟩;rw[this.2,List.length_append];simp;omega
theorem qeJ {lev:Int} (hb:¬(1<=bend/\bend<=n)):(Qa lev [0] (jm bend n) 0).2=true/\(Qa lev [0] (jm bend n) 0).1.length=n+1:=by
 unfold Qa;rw[qeO];have:=Vw hb ((List.range' 0 n).length+1) n 0 [[(0:Int)].getD (0:Int).toNat 0] (by omega) (by rw[List.length_range'];omega) (by simp);refine⟨this.1,?_⟩;rw[this.2];simp;omega
end
theorem qbR {n:Nat} {e:Ev} {s s':St} (h:jC n e s=some s'):xN n e s=some s':=by
 unfold jC at h;unfold xN
 split at h
 ·rename_i hk
  rw[if_pos hk];exact h
 ·rename_i hk2
  rw[if_neg hk2]
  split at h
  ·rename_i hk
   rw[if_pos hk]
   split at h
   ·rename_i hs
    rw[if_pos hs];cases hd:s.deeds.getLast? with
    |none=>rw[hd] at h;cases h
    |some d=>
     rw[hd] at h;simp only at h ⊢
     split at h
     ·rename_i hf
      have hb:Qc d.op e.ret=true:=by
       unfold Vp at hf;rcases hf with⟨h1,h2⟩|⟨h1,h2⟩ <;> rw[h1,h2] <;> decide
      rw[if_pos hb,←Option.some.inj h];unfold jw;rw[hd];rfl
     ·cases h
   ·cases h
  ·rename_i hk3
   rw[if_neg hk3];exact h
theorem qdN {es:List Ev} {A:Au} (h:Rc es A):zr [] 0 es=some A:=by
 induction h with
 |nil=>rfl
 |@snoc l A A' e h hf ih=>
  rw[vd,ih,Option.bind_some,Nat.zero_add];unfold jP;cases hf with
  |begin hk hi hb=>
   rw[if_pos hk,if_neg];simp only[Bool.or_eq_true,Yj,Xf,not_or];exact⟨hi,hb⟩
  |move k s s' hk hs hi hm=>
   rw[if_neg hk];have hnd:=Wo h;have hf:A.findIdx? (fun s=>s.id==e.tx)=some k:=by
    rw[List.findIdx?_eq_some_iff_getElem];obtain⟨hl,e1⟩:=List.getElem?_eq_some_iff.1 hs;refine⟨hl,by rw[e1,hi];simp,fun j hj=>?_⟩;have hne:A[j].id≠s.id:=fun e=>by
     have h1:(A.map (·.id))[j]?=(A.map (·.id))[k]?:=by
      rw[List.getElem?_map,List.getElem?_map,hs,List.getElem?_eq_getElem (by omega)];simp[e]
     have:=(List.getElem?_inj (by simp;omega) hnd).1 h1;omega
    simp only[beq_iff_eq,Bool.not_eq_true,beq_eq_false_iff_ne,ne_eq];rw[←hi];exact hne
   rw[hf];simp only;rw[hs];simp only;rw[qbR hm];rfl
section
variable {bend:Int} {n:Nat}
theorem ME {e:Ev}:∀{n:Nat},e ∈ ZC bend n->∃i,1<=i/\i<=n/\e ∈ Ux i (xV bend i)
 |0,h=>by cases h
 |n+1,h=>by
  rcases List.mem_append.1 h with h|h
  ·obtain ⟨i,h1,h2,h3⟩:=ME h
   exact⟨i,h1,by omega,h3⟩
  ·exact ⟨n+1,by omega,Nat.le_refl _,h⟩
theorem qdb {i:Nat} {g:Int} (hi:1<=i/\i<=1000) (hg:-1000000000<=g/\g<=1000000000):∀e ∈ Ux i g,Un [⟨1,0⟩] e=true:=by
 intro e he;unfold Ux at he;simp only[List.mem_cons,List.not_mem_nil,or_false] at he;have o1:=qbH;have o3:=qbI;have o6:=qbG;have o2:xR xm=2:=by decide+kernel
 have o4:xR yu=4:=by decide+kernel
 have o7:xR qT=7:=by decide+kernel
 have b1:qF.lo=1/\qF.hi=1000:=⟨rfl,rfl⟩
 have b2:xm.lo=0/\xm.hi=7:=⟨rfl,rfl⟩
 have b3:xS.lo=0/\xS.hi=7:=⟨rfl,rfl⟩
 have b4:yu.lo=1/\yu.hi=9:=⟨rfl,rfl⟩
 have b6:jV.lo=-1000000000/\jV.hi=1000000000:=⟨rfl,rfl⟩
 have b7:qT.lo=1/\qT.hi=3:=⟨rfl,rfl⟩
 have r8:List.range 8=[0,1,2,3,4,5,6,7]:=rfl;rcases he with rfl|rfl|rfl|rfl|rfl|rfl|rfl
 all_goals
  simp[Un,xP,uM,jT,jx,Zx,Xo,Qw,jc,jr,XI,vH,Qz,o1,o2,o3,o4,o6,o7,b1.1,b1.2,b2.1,b2.2,b3.1,b3.2,b4.1,b4.2,b6.1,b6.2,b7.1,b7.2,r8]
  try omega
theorem qeP (hn:n<=50) (hb:∀i:Nat,1<=i->i<=n->-1000000000<=xV bend i/\xV bend i<=1000000000):yz [⟨1,0⟩] (ZC bend n)=true:=by
 unfold yz;simp only[Bool.and_eq_true,decide_eq_true_eq,List.all_eq_true];refine⟨⟨⟨by simp,by rw[vU];omega⟩,fun o ho=>?_⟩,fun e he=>?_⟩
 ·simp at ho
  subst ho;decide
 ·obtain ⟨i,h1,h2,h3⟩:=ME he
  exact qdb ⟨h1,by omega⟩ (hb i h1 h2) e h3
theorem KS {i:Nat} (h1:1<=i) (h2:i<=1000):-1000000000<=xV bend i/\xV bend i<=1000000000:=by
 unfold xV
 split <;> omega
theorem KO (hn:n<=50):xg [⟨1,0⟩] (ZC bend n)=some (jm bend n):=by
 unfold xg;rw[if_pos (qeP hn fun i h1 h2=>KS h1 (by omega))];exact qdN (Xb n)
theorem VR:∀{l:List Dd} {rd:List Int} {wr:List (Int×Int)},(∀d ∈ l,d.obj=0)->xX [⟨1,0⟩] rd wr l=Ze [0] rd wr l
 |[],_,_,_=>rfl
 |d::l,rd,wr,h=>by
  have h0:=h d (by simp);have hl:∀d ∈ l,d.obj=0:=fun q hq=>h q (by simp[hq]);unfold xX Ze;rw[h0];simp only[Int.toNat_zero,List.getElem?_cons_zero,if_true,List.getD_cons_zero];rw[VR hl,VR hl]
theorem NX:∀{A:Au} {wr:List (Int×Int)},(∀s ∈ A,∀d ∈ s.deeds,d.obj=0)->xA [⟨1,0⟩] wr A=US [0] wr A
 |[],_,_=>rfl
 |s::A,wr,h=>by
  unfold xA US;rw[VR (h s (by simp))];cases Ze [0] [] wr s.deeds with
  |none=>rfl
  |some wr'=>exact NX fun t ht=>h t (by simp[ht])
theorem KQ (hn:n<=50):yB [⟨1,0⟩] (xg [⟨1,0⟩] (ZC bend n))=some (jm bend n):=by
 rw[KO hn];unfold yB;simp only;rw[if_pos];rw[NX]
 ·exact qeM
 ·intro s hs d hd
  obtain⟨k,-,rfl⟩:=ZM hs;simp[yQ] at hd;rcases hd with rfl|rfl <;> rfl
end
def Zm:Go.Shelf.Ren:=⟨fun|156=>198|165=>225|166=>226|169=>227|240=>231|241=>232|276=>234|277=>235|n=>n,fun|31=>314|9=>9|3=>3|4=>4|0=>0|20=>20|72=>335|76=>337|70=>332|37=>333|75=>34|127=>342|164=>343|5=>5|80=>281|n=>n,fun|n=>n⟩
theorem Mk:Go.Proofs.Lays.n156 Tryz.prog Zm:={
 mixed:=by kernel_rfl
 f156:=Tryz.func198.trans (congrArg some (by kernel_rfl))
 f165:=Tryz.func225.trans (congrArg some (by kernel_rfl))
 f166:=Tryz.func226.trans (congrArg some (by kernel_rfl))
 f169:=Tryz.func227.trans (congrArg some (by kernel_rfl))
 f240:=Tryz.func231.trans (congrArg some (by kernel_rfl))
 f241:=Tryz.func232.trans (congrArg some (by kernel_rfl))
 f276:=Tryz.func234.trans (congrArg some (by kernel_rfl))
 f277:=Tryz.func235.trans (congrArg some (by kernel_rfl))
 t0:=Tryz.underlying0
 a0:=Tryz.isAgg0
 z0:=Tryz.sizeOf0
 v0:=Tryz.zeroValue0
 t3:=Tryz.underlying3
 a3:=Tryz.isAgg3
 z3:=Tryz.sizeOf3
 v3:=Tryz.zeroValue3
 t4:=Tryz.underlying4
 a4:=Tryz.isAgg4
 z4:=Tryz.sizeOf4
 v4:=Tryz.zeroValue4
 t9:=Tryz.underlying9
 a9:=Tryz.isAgg9
 z9:=Tryz.sizeOf9
 v9:=Tryz.zeroValue9
 t20:=Tryz.underlying20
 a20:=Tryz.isAgg20
 z20:=Tryz.sizeOf20
 v20:=Tryz.zeroValue20
 t31:=Tryz.underlying314
 a31:=Tryz.isAgg314
 z31:=Tryz.sizeOf314
 v31:=Tryz.zeroValue314
 t37:=Tryz.underlying333
 a37:=Tryz.isAgg333
 z37:=Tryz.sizeOf333
 v37:=Tryz.zeroValue333
 t70:=Tryz.underlying332
 a70:=Tryz.isAgg332
 z70:=Tryz.sizeOf332
 v70:=Tryz.zeroValue332
 t72:=Tryz.underlying335
 a72:=Tryz.isAgg335
 z72:=Tryz.sizeOf335
 v72:=Tryz.zeroValue335
 t75:=Tryz.underlying34
 a75:=Tryz.isAgg34
 z75:=Tryz.sizeOf34
 v75:=Tryz.zeroValue34
 t76:=Tryz.underlying337
 a76:=Tryz.isAgg337
 z76:=Tryz.sizeOf337
 v76:=Tryz.zeroValue337
 t127:=Tryz.underlying342
 a127:=Tryz.isAgg342
 z127:=Tryz.sizeOf342
 v127:=Tryz.zeroValue342
 t164:=Tryz.underlying343
 a164:=Tryz.isAgg343
 z164:=Tryz.sizeOf343
 v164:=Tryz.zeroValue343}
theorem uP:Builder.Extra Tryz.prog Zm:={
 sizeBuilder:=by kernel_rfl
 liesBuilder:=by kernel_rfl
 t5:=Tryz.underlying5
 a5:=Tryz.isAgg5
 z5:=Tryz.sizeOf5
 v5:=Tryz.zeroValue5
 infoByte:=by kernel_rfl
 cellsByte:=by kernel_rfl
 sizeByte:=by kernel_rfl
 neB5:=by decide}
open Go.RowKit in
theorem strings_Join_none (a:Option Addr) (c:Nat) (sep:ByteArray) (w:World):
  Calls Tryz.prog 198 #[.slice a 0 c,.string sep] w fun e w'=>e=.returned (.string ⟨#[]⟩)/\w'=w:=Any.strings_Join_none Mk uP a c sep w
open Go.RowKit in
theorem strings_Join (bk o c:Nat) (xs:List ByteArray) (sep:ByteArray) (w:World) (hcells:∀(j:Nat) x,xs[j]?=some x->w.cell? ⟨bk,o+j,none⟩=some (.string x)) (hbk:bk < w.heap.size) (hN:xs.length<=140737488355328) (hcap:xs.length<=c) (hlen:(Lib.join (xs.map (·.data.toList)) sep.data.toList).length<=140737488355328):
  Calls Tryz.prog 198 #[.slice (some ⟨bk,o,none⟩) xs.length c,.string sep] w fun e w'=>e=.returned (.string ⟨(Lib.join (xs.map (·.data.toList)) sep.data.toList).toArray⟩)/\Below w.heap.size w w':=Any.strings_Join Mk uP bk o c xs sep w hcells hbk hN hcap hlen
def VX:Go.Shelf.Ren:=⟨fun|171=>230|243=>233|246=>236|283=>237|284=>238|285=>239|286=>240|129=>169|317=>241|318=>242|319=>243|320=>244|337=>245|338=>246|n=>n,fun|3=>3|9=>9|2=>2|4=>4|171=>347|0=>0|53=>298|37=>333|5=>5|173=>349|212=>352|51=>296|20=>20|213=>353|46=>245|232=>354|233=>355|n=>n,fun|17=>25|18=>26|19=>27|n=>n⟩
theorem qbZ:Go.Proofs.LaysM.n171 Tryz.prog VX:={
 mixed:=by kernel_rfl
 f129:=Tryz.func169.trans (congrArg some (by kernel_rfl))
 f171:=Tryz.func230.trans (congrArg some (by kernel_rfl))
 f243:=Tryz.func233.trans (congrArg some (by kernel_rfl))
 f246:=Tryz.func236.trans (congrArg some (by kernel_rfl))
 f283:=Tryz.func237.trans (congrArg some (by kernel_rfl))
 f284:=Tryz.func238.trans (congrArg some (by kernel_rfl))
 f285:=Tryz.func239.trans (congrArg some (by kernel_rfl))
 f286:=Tryz.func240.trans (congrArg some (by kernel_rfl))
 f317:=Tryz.func241.trans (congrArg some (by kernel_rfl))
 f318:=Tryz.func242.trans (congrArg some (by kernel_rfl))
 f319:=Tryz.func243.trans (congrArg some (by kernel_rfl))
 f320:=Tryz.func244.trans (congrArg some (by kernel_rfl))
 f337:=Tryz.func245.trans (congrArg some (by kernel_rfl))
 f338:=Tryz.func246.trans (congrArg some (by kernel_rfl))
 t0:=Tryz.underlying0
 a0:=Tryz.isAgg0
 z0:=Tryz.sizeOf0
 v0:=Tryz.zeroValue0
 t2:=Tryz.underlying2
 a2:=Tryz.isAgg2
 z2:=Tryz.sizeOf2
 v2:=Tryz.zeroValue2
 t3:=Tryz.underlying3
 a3:=Tryz.isAgg3
 z3:=Tryz.sizeOf3
 v3:=Tryz.zeroValue3
 t4:=Tryz.underlying4
 a4:=Tryz.isAgg4
 z4:=Tryz.sizeOf4
 v4:=Tryz.zeroValue4
 t5:=Tryz.underlying5
 a5:=Tryz.isAgg5
 z5:=Tryz.sizeOf5
 v5:=Tryz.zeroValue5
 t9:=Tryz.underlying9
 a9:=Tryz.isAgg9
 z9:=Tryz.sizeOf9
 v9:=Tryz.zeroValue9
 t20:=Tryz.underlying20
 a20:=Tryz.isAgg20
 z20:=Tryz.sizeOf20
 v20:=Tryz.zeroValue20
 t37:=Tryz.underlying333
 a37:=Tryz.isAgg333
 z37:=Tryz.sizeOf333
 v37:=Tryz.zeroValue333
 t46:=Tryz.underlying245
 a46:=Tryz.isAgg245
 z46:=Tryz.sizeOf245
 v46:=Tryz.zeroValue245
 t51:=Tryz.underlying296
 a51:=Tryz.isAgg296
 z51:=Tryz.sizeOf296
 v51:=Tryz.zeroValue296
 t53:=Tryz.underlying298
 a53:=Tryz.isAgg298
 z53:=Tryz.sizeOf298
 v53:=Tryz.zeroValue298
 t171:=Tryz.underlying347
 a171:=Tryz.isAgg347
 z171:=Tryz.sizeOf347
 v171:=Tryz.zeroValue347
 t173:=Tryz.underlying349
 a173:=Tryz.isAgg349
 z173:=Tryz.sizeOf349
 v173:=Tryz.zeroValue349
 t212:=Tryz.underlying352
 a212:=Tryz.isAgg352
 z212:=Tryz.sizeOf352
 v212:=Tryz.zeroValue352
 t213:=Tryz.underlying353
 a213:=Tryz.isAgg353
 z213:=Tryz.sizeOf353
 t232:=Tryz.underlying354
 a232:=Tryz.isAgg354
 z232:=Tryz.sizeOf354
 v232:=Tryz.zeroValue354
 t233:=Tryz.underlying355
 a233:=Tryz.isAgg355
 z233:=Tryz.sizeOf355
 v233:=Tryz.zeroValue355
 g17:=by kernel_rfl
 g18:=by kernel_rfl
 g19:=by kernel_rfl
 i0:=by kernel_rfl
 i2:=by kernel_rfl
 i3:=by kernel_rfl
 i4:=by kernel_rfl
 i5:=by kernel_rfl
 i9:=by kernel_rfl
 i20:=by kernel_rfl
 i37:=by kernel_rfl
 i46:=by kernel_rfl
 i51:=by kernel_rfl
 i53:=by kernel_rfl
 i171:=by kernel_rfl
 i173:=by kernel_rfl
 i212:=by kernel_rfl
 i232:=by kernel_rfl
 i233:=by kernel_rfl
 m17:=by kernel_rfl
 m18:=by kernel_rfl
 m19:=by kernel_rfl}
open Go.RowKit Go.Sort Go.Lib in
theorem strconv_Itoa (n:Int) (h0:-9223372036854775808<=n) (h1:n<=9223372036854775807) (w:World) (htab:Lib.TabIs Tryz.prog w "internal/strconv.uint64pow10" .u64 Lib.pow10Tab):
  Calls Tryz.prog 230 #[.int .i64 n] w fun e w'=>e=.returned (.string ⟨(Lib.itoa n).toArray⟩)/\∃k os,w'=grow (w.drewN k) os:=Any.strconv_Itoa qbZ n h0 h1 w htab
section
attribute [local irreducible] xE
def VG (s:ByteArray):List Value:=[.string s]
theorem qbh (s:ByteArray):(VG s).length=1:=rfl
theorem Ml:(Tryz.prog.info? 9).map (fun i=>(i.zero,i.size,i.bytes))=some (some (.string ⟨#[]⟩),1,16):=by kernel_rfl
theorem NO (s:ByteArray):∀u ∈ VG s,u.oneCell'=true:=by intro u hu;simp[VG] at hu;rcases hu with rfl;rfl
def vu (w:World):Prop:=Lib.TabIs Tryz.prog w "internal/strconv.uint64pow10" .u64 Lib.pow10Tab
theorem vu.below {w w':World} (h:vu w) (hb:Below w.heap.size w w'):vu w':=by
 have hg:Tryz.prog.globalNamed "internal/strconv.uint64pow10" =some 25:=by kernel_rfl
 unfold vu Lib.TabIs World.var? at h ⊢;rw[hg] at h ⊢;simp only[Option.bind_some] at h ⊢;have hlt:25 < w.heap.size:=by
  rcases Nat.lt_or_ge 25 w.heap.size with h'|h'
  ·exact h'
  ·rw [Array.getElem?_eq_none h'] at h;cases h
 rw[hb.block _ hlt];exact h
def JB (n:Int):ByteArray:=⟨(Lib.itoa n).toArray⟩
theorem qeB {w:World} (h:vu w) (n:Int) (h0:-9223372036854775808<=n) (h1:n<=9223372036854775807):Calls Tryz.prog 223 #[.int .i64 n] w fun e w'=>e=.returned (.string (JB n))/\Below w.heap.size w w':=by
 have HC:=qh (strconv_Itoa n h0 h1 w h);go_enter Tryz.func223,Tryz.ntmps223;go_wp2_with fail;refine HC.o.mono ?_;rintro e w' ⟨rfl,k,os,rfl⟩;go_wp2_with fail;refine bodyPost_ret (v:=.string (JB n)) (by simp[results,Tryz.results223,go_sem,JB]) rfl ⟨rfl,Lib.below_grow _ _ (Nat.le_refl _) _ _⟩
def qby:ByteArray:=⟨#[114,101,103,105,115,116,101,114]⟩
theorem NS {w:World} {b n c:Nat} {l:List ByteArray} {B:Nat} (h:qj VG 9 1 w B (.slice (some ⟨b,0,none⟩) n c) l) (hn:n=l.length):∀(j:Nat) x,l[j]?=some x->w.cell? ⟨b,0+j,none⟩=some (.string x):=by
 intro j x hx;subst hn;obtain⟨b',o,y,hq,hb,hy,hc⟩:=(qj.sl h).atF qbh rfl (List.getElem?_eq_some_iff.1 hx).1;simp only[Option.some.injEq,Addr.mk.injEq,and_true] at hq;obtain⟨rfl,rfl⟩:=hq;rw[hx] at hy;obtain rfl:=Option.some.inj hy;have:=hc 0 (by decide);simpa[VG] using this
theorem qj.capLe {α:Type} {f:α->List Value} {e:TypeId} {sz:Nat} {w:World} {B g n c:Nat} {l:List α} (h:qj f e sz w B (.slice (some ⟨g,0,Option.none⟩) n c) l):l.length<=c:=by
 obtain⟨-,h2⟩:=h;rcases h2 with⟨h2,-⟩|⟨g',cap,cur,hv,-,-,hn,-⟩
 ·cases h2
 ·simp only[Value.slice.injEq] at hv
  omega
theorem qfo {w:World} {B g n c:Nat} {l:List ByteArray} (h:qj VG 9 1 w B (.slice (some ⟨g,0,none⟩) n c) l) (hn:n=l.length) (hlen:(Lib.join (l.map (·.data.toList)) [32]).length<=140737488355328) (hl:l.length<=70000):
  Calls Tryz.prog 224 #[.slice (some ⟨g,0,none⟩) n c] w fun e w'=>e=.returned (.string ⟨(Lib.join (l.map (·.data.toList)) [32]).toArray⟩)/\Below w.heap.size w w':=by
 have cl:=NS h hn;subst hn;have HC:=qh (strings_Join g 0 c l ⟨#[32]⟩ w cl (qj.lt h g rfl).2 (by omega) (qj.capLe h) hlen);go_enter Tryz.func224,Tryz.ntmps224;go_wp2_with fail;refine HC.o.mono ?_;rintro e w' ⟨rfl,b⟩;go_wp2_with fail;refine bodyPost_ret (v:=.string ⟨(Lib.join (l.map (·.data.toList)) [32]).toArray⟩) (by simp[results,Tryz.results224,go_sem]) rfl ⟨rfl,b⟩
theorem qbi {w:World} (h:vu w) (hW:yR w) (x:Int) (h0:-1000000000<=x) (h1:x<=1000000000):
  Calls Tryz.prog 197 #[Um x] w fun e w'=>e=.returned (.string ⟨(vB x).toArray⟩)/\Below w.heap.size w w':=by
 have b0:Below w.heap.size w (w.alloc (.cells #[.int .i64 1,.int .i64 x,.slice none 0 0,.slice none 0 0] 119)):=(Below.refl _ w).alloc (Nat.le_refl _) _;have r0:=qy w (.cells #[.int .i64 1,.int .i64 x,.slice none 0 0,.slice none 0 0] 119);have hz:(w.alloc (.cells #[.int .i64 1,.int .i64 x,.slice none 0 0,.slice none 0 0] 119)).heap.size=w.heap.size+1:=by simp
 go_enter Tryz.func197,Tryz.ntmps197;go_wp2_with fail;generalize w.alloc (.cells #[.int .i64 1,.int .i64 x,.slice none 0 0,.slice none 0 0] 119)=W at *;have hW0:=hW.below b0;refine(vk (i:=0) (by omega) hW0.reg (by have:=hW0.big;omega)).mono ?_;rintro e W1 ⟨rfl,b1⟩;have r1:=qp r0 b1 (by omega);have B1:=qh (b0.trans (b1.mono (by omega)));have y:=qa r1;have y0:=y 0;have y1:=y 1;simp at y0 y1;have yl:=qd r1;have PW:=qh ((h.below B1.o));have R1:=qh r1;clear y r0 r1 hW0 b0 b1 hz;go_wp2_with fail;have b2:Below W1.heap.size W1 (W1.alloc (.cells #[.string ⟨#[114,101,103,105,115,116,101,114]⟩] 9)):=(Below.refl _ W1).alloc (Nat.le_refl _) _;have r2:=qy W1 (.cells #[.string ⟨#[114,101,103,105,115,116,101,114]⟩] 9);refine(qeB (PW.o.below b2) x (by omega) (by omega)).mono ?_;rintro e W3 ⟨rfl,b3⟩;have hs1:=B1.o.size;have hs2:=b2.size;have hs3:=b3.size;have r3:=qp r2 b3 (qd r2);have o3:qj VG 9 1 W3 w.heap.size (.slice (some ⟨W1.heap.size,0,none⟩) 1 1) [qby]:=qj.ofRow (l:=[qby]) (n:=1) r3 hs1 rfl rfl (by decide);have hB3:w.heap.size<=W3.heap.size:=by omega
 have B3:=qh (B1.o.trans ((b2.trans (b3.mono hs2)).mono hs1));have hl1:=qd r3;clear r2 r3 b2 b3;go_wp2_with (at_builtin;refine qN rfl _ _ _ rfl _ 16 Tryz.underlying314 Ml rfl o3 (JB x) hB3 (by rfl) (by rfl) (by first|rfl|simp) rfl (NO _) (by first|omega|(simp only[List.length_append,List.length_cons,List.length_nil,List.length_replicate];omega)) (by first|omega|(simp only[List.length_append,List.length_cons,List.length_nil,List.length_replicate];omega)) ?_;refine qK.halt ?_)
 refine qK.go ?_;intro g c w4 o4 G4;have B4:=qh (B3.o.trans (G4.below hB3 fun j hj=>(qj.lt o3 j hj).1));have ej:Lib.join ([qby,JB x].map (·.data.toList)) [32]=vB x:=by simp[qby,JB,Lib.join,vB]
 have o5:qj VG 9 1 w4 w.heap.size (.slice (some ⟨g,0,none⟩) 2 c) [qby,JB x]:=o4;have il:=Ku h0 h1;have JC:=qfo o5 rfl (by rw[ej];simp[vB];omega) (by simp);rw[ej] at JC;have JC:=qh JC;clear o3 G4;go_wp2_with fail;refine JC.o.mono ?_;rintro e w5 ⟨rfl,b5⟩;go_wp2_with fail;refine bodyPost_ret (v:=.string ⟨(vB x).toArray⟩) (by simp[results,Tryz.results197,go_sem]) rfl ⟨rfl,B4.o.trans (b5.mono B4.o.size)⟩
end
section
attribute [local irreducible] xE
attribute [local go_sem] Oper.semAt_some
def MK (σ:List Int) (i:Nat) (w:World) (hb:Nat) (args:Array Value):Prop:=args=#[.int .i64 i,Um (σ.getD i 0)]
theorem qj.keepM {α:Type} {f:α->List Value} {e:TypeId} {sz B lo hb:Nat} {v:Value} {l:List α} {w w':World} (h:qj f e sz w B v l) {M:Obj->Prop} {L:Nat->Prop} (hk:xK M L lo hb w w') (hM:∀cs fz,¬M (.cells cs e fz)) (hB:lo<=B) (hl:∀k,v.ownBlock=some k->k < hb):qj f e sz w' B v l:=by
 obtain⟨h1,h2⟩:=h;refine⟨h1,?_⟩;rcases h2 with h2|⟨g,cap,cur,rfl,hg,hh,r⟩
 ·exact .inl h2
 ·exact .inr ⟨g,cap,cur,rfl,hg,hk.block g _ (.inr (by omega)) (hl g rfl) hh (hM _ _),r⟩
def qgv (O:Obj):Prop:=∃cs fz,O=.cells cs 9 fz
theorem qfs (m:Nat) (σ:List Int) (hl:σ.length<=1000) (bE:Nat) (v:Value):qdt Tryz.prog qgv (fun _=>False) (fun q=>q=fun _=>False) (fun _=>True) 222 #[.pointer (some ⟨bE,0,none⟩)] m
  (fun W=>W.heap[bE]?=some (.cells #[v] 57 (0,0))/\SlS W W.heap.size v σ) (fun _=>True) (fun _=>MK σ) σ.length:=by
 intro l J Jx W hP _ hJ _ hY h0;obtain⟨hr,hs⟩:=hP;obtain⟨av,cv,rfl,hm9⟩:=hs.ex;have y0:=qa hr 0;simp at y0;have yl:=qd hr;have hm:m+1 - 1=m:=rfl;refine callsIn_of_wp Tryz.func222 rfl trivial ?_ rfl;simp only[Tryz.ntmps222,List.size_toArray,List.length_cons,List.length_nil,Nat.reduceAdd,Nat.reduceSub,Array.replicate_succ,Array.replicate_zero,List.push_toArray,List.append_toArray,List.nil_append,List.cons_append];have HC:=qh (qcd _ σ W hs hl);gi_wp2_with fail;refine⟨trivial,(callsIn_wide.2 HC.o).mono ?_⟩;rintro e w1 ⟨v',rfl,o1,b1⟩;obtain⟨a1,c1,rfl,-⟩:=(qj.sl o1).ex;have hJ1:J (fun _=>False) 0 w1:=hJ (fun _=>False) 0 _ _ rfl (h0 (fun _=>False) rfl fun k e=>by cases e) (Nat.le_refl _) b1 fun k hk _=>b1.block k hk;have s1:=b1.size;clear HC hr hs y0 yl b1 h0;have HY:=qh hY;have HJ:=qh hJ;clear hY hJ;gi_wp2_with fail;have O1:=qh o1;clear o1
 gi_loopw [9] (fun p wr=>∃i:Nat,i<=σ.length/\p=.int .i64 i/\J (fun _=>False) i wr/\W.heap.size<=wr.heap.size/\js wr W.heap.size (.slice a1 σ.length c1) σ)
  (fun p _=>σ.length - (intOf p).toNat)
 case atStart=>exact⟨0,by omega,by go_num,hJ1,s1,O1.o⟩
 case round=>
  obtain⟨i,hi,rfl,hJi,hs,o⟩:=hrel;clear hJ1 s1 O1;by_cases hlt:i < σ.length
  ·obtain ⟨b,off,x,hq,hb,hx,hc⟩:=(qj.sl o).atF YU rfl hlt
   subst hq;have c0:wr.cell? ⟨b,off+i*4,none⟩=some (.int .i64 1):=hc 0 (by decide);have c1':wr.cell? ⟨b,off+i*4+1,none⟩=some (.int .i64 x):=hc 1 (by decide);have c2:wr.cell? ⟨b,off+i*4+2,none⟩=some (.slice none 0 0):=hc 2 (by decide);have c3:wr.cell? ⟨b,off+i*4+3,none⟩=some (.slice none 0 0):=hc 3 (by decide);have O:=qh o;have hxx:σ.getD i 0=x:=by rw[List.getD_eq_getElem?_getD,hx];rfl
   have ol:=fun k e=>(qj.lt O.o k e).2;have b2:Below wr.heap.size wr (wr.alloc (.cells #[.int .i64 1,.int .i64 x,.slice none 0 0,.slice none 0 0] 119)):=(Below.refl _ wr).alloc (Nat.le_refl _) _;obtain⟨fn,tmps,assign,body,hy,hR⟩:=HY.o (fun _=>False) i (wr.alloc (.cells #[.int .i64 1,.int .i64 x,.slice none 0 0,.slice none 0 0] 119)) wr.heap.size #[.int .i64 i,.agg #[.int .i64 1,.int .i64 x,.slice none 0 0,.slice none 0 0]] hlt rfl
    (HJ.o (fun _=>False) i _ _ rfl hJi hs (b2.mono hs) fun k hk _=>b2.block k hk) (fun k e=>by cases e) hs (by simp) (by rw[MK,hxx])
   have O2:=qh (qj.below O.o b2);have hz2:=b2.size;clear hc o b2;gi_wp2_with fail;refine hR.mono ?_;rintro e W3 (⟨rfl,⟨hJ3,hk3⟩,-⟩|⟨rfl,hJx3,-⟩)
   ·gi_wp2_with fail
    go_roundw
    case rel=>
     have hs3:=hk3.size;refine⟨i+1,by omega,by go_num,hJ3,by omega,qj.keepM O2.o hk3 (fun cs fz h=>by obtain⟨_,_,h⟩:=h;simp at h) (Nat.le_refl _) ol⟩
    case measure=>simp[intOf];omega
   ·gi_wp2_with fail
    refine bodyPost_ret (results_none rfl _ _ _) rfl ?_;exact⟨⟨_,rfl⟩,(fun _=>False),rfl,.inr ⟨i+1,by omega,by omega,hJx3⟩⟩
  ·obtain rfl:i=σ.length:=by omega
   have hq:decide ((σ.length:Int) < (σ.length:Int))=false:=by simp
   gi_wp2_with fail;go_end0;exact⟨⟨_,rfl⟩,(fun _=>False),rfl,.inl hJi⟩
theorem qft {w:World} {a:Option Addr} {n c:Nat}:Calls Tryz.prog 196 #[.agg #[.slice a n c]] w fun e w'=>e=.returned (.func (.func 222) #[] #[.pointer (some ⟨w.heap.size,0,none⟩)])/\w'=w.alloc (.cells #[.slice a n c] 57):=by
 go_enter Tryz.func196,Tryz.ntmps196;go_wp2;go_ret;exact⟨rfl,rfl⟩
def VP (x:Int):ByteArray:=⟨(vB x).toArray⟩
def LTx (l0 B q:Nat) (σ:List Int) (i:Nat) (w:World):Prop:=∃lv,w.heap[l0]?=some (.cells #[lv] 314 (0,0))/\qj VG 9 1 w B lv ((σ.take i).map VP)/\∀k,lv.ownBlock=some k->k≠q
theorem qgJ {w:World} (h:vu w) (hW:yR w) (v:Value) (σ:List Int) (hs:SlS w w.heap.size v σ) (hl:σ.length<=8) (hv:qdp σ):
  Calls Tryz.prog 149 #[.agg #[v]] w fun e w'=>e=.returned (.string (uv σ))/\Below w.heap.size w w':=by
 obtain⟨av,cv,rfl,-⟩:=hs.ex;refine(callsIn_wide (n:=2+2)).1 ?_;refine callsIn_of_wp_marks Tryz.func149 rfl trivial ?_ rfl;simp only[Tryz.ntmps149,List.size_toArray,List.length_cons,List.length_nil,Nat.reduceAdd,Nat.reduceSub,Array.replicate_succ,Array.replicate_zero,List.push_toArray,List.append_toArray,List.nil_append,List.cons_append];gi_wp2_with fail;have b1:Below w.heap.size w ((w.alloc (.cells #[.slice av σ.length cv] 57)).alloc (.cells #[.slice none 0 0] 314)):=((Below.refl _ w).alloc (Nat.le_refl _) _).alloc (by simp) _;refine⟨trivial,(callsIn_wide.2 qft).mono ?_⟩;rintro e w1 ⟨rfl,rfl⟩;gi_wp2_with fail;have rE:(((w.alloc (.cells #[.slice av σ.length cv] 57)).alloc (.cells #[.slice none 0 0] 314)).alloc (.cells #[.slice av σ.length cv] 57)).heap[w.heap.size+1+1]?=some (.cells #[.slice av σ.length cv] 57 (0,0)):=qV (by simp);have rL:(((w.alloc (.cells #[.slice av σ.length cv] 57)).alloc (.cells #[.slice none 0 0] 314)).alloc (.cells #[.slice av σ.length cv] 57)).heap[w.heap.size+1]?=some (.cells #[.slice none 0 0] 314 (0,0)):=qD (qV (by simp));have bq:=b1.alloc b1.size (.cells #[.slice av σ.length cv] 57);have zq:(((w.alloc (.cells #[.slice av σ.length cv] 57)).alloc (.cells #[.slice none 0 0] 314)).alloc (.cells #[.slice av σ.length cv] 57)).heap.size=w.heap.size+3:=by simp
 generalize ((w.alloc (.cells #[.slice av σ.length cv] 57)).alloc (.cells #[.slice none 0 0] 314)).alloc (.cells #[.slice av σ.length cv] 57)=wq at *;have hsq:=(hs.below bq).more bq.size;have lt0:LTx (w.heap.size+1) w.heap.size (wq.heap.size+1) σ 0 wq:=⟨_,rL,qj.nil _ _,fun k e=>by cases e⟩
 have hI:∀(q:Nat->Prop) (i:Nat) (A B:World),(q=fun _=>False)->(LTx (w.heap.size+1) w.heap.size (wq.heap.size+1) σ i A/\Below w.heap.size w A)->wq.heap.size<=A.heap.size->Below wq.heap.size A B->(∀k,k < A.heap.size->k≠wq.heap.size+1->¬q k->B.heap[k]?=A.heap[k]?)->(LTx (w.heap.size+1) w.heap.size (wq.heap.size+1) σ i B/\Below w.heap.size w B):=by
  rintro q i A B rfl ⟨⟨lv,h1,h2,h3⟩,hB⟩ hs hb he;replace he:=fun k hk hn=>he k hk hn (by simp);exact⟨⟨lv,(he _ (qd h1) (by omega)).trans h1,qj.fr (S:=fun k=>k=wq.heap.size+1) h2 ⟨hb.mono (Nat.zero_le _),fun k hk hn=>he k hk hn⟩ h3,h3⟩,hB.trans (hb.mono bq.size)⟩
 refine vZ (M:=qgv) (L:=fun _=>False) (Qs:=fun q=>q=fun _=>False) (G:=fun _=>True) (m:=2) (gf:=222) (N:=σ.length) (H:=fun _=>MK σ) rfl (enters_of Tryz.func222 (by kernel_rfl) rfl) (fun _ h=>h.elim) (qfs 2 σ (by omega) _ _) (fun _ i W hb args h=>by rw[h];rfl)
  (fun _ i A=>LTx (w.heap.size+1) w.heap.size (wq.heap.size+1) σ i A/\Below w.heap.size w A) (fun _ _ _ _=>False) hI (fun _ _ _ _ _ _ h _ _ _=>h) (fun _ _ _ _ _=>trivial) (fun _ _ _=>⟨lt0,bq⟩) (fun W hW=>⟨qp rE hW (qd rE),(hsq.below hW).more hW.size⟩) (fun r h=>by obtain⟨_,_,h⟩:=h;cases h) (fun r h=>by obtain⟨_,_,h⟩:=h;cases h) ?_ ?_ ?_
 ·rintro q i W1 hb args hi rfl ⟨hL,hB⟩ - hlo hhi hH
  obtain⟨x,hx⟩:∃x,σ.getD i 0=x:=⟨_,rfl⟩
  rw[MK,hx] at hH;subst hH;gi_wp2_with fail;refine⟨(Below.refl _ _).alloc (Nat.le_refl _) _,?_⟩;intro w2 z2 k2 b2;obtain⟨⟨lv,r1,o1,n1⟩,bW⟩:=hI (fun _=>False) i W1 w2 rfl ⟨hL,hB⟩ (by omega) (((Below.refl wq.heap.size W1).alloc (by omega) _).trans b2) (fun k hk hn _=>(k2 k hn).trans (Below.heap_alloc _ _ _ (by omega)));have r9:w2.heap[W1.heap.size]?=some (.cells #[.int .i64 1,.int .i64 x,.slice none 0 0,.slice none 0 0] 119 (0,0)):=(k2 _ (by omega)).trans (qy W1 _);have z9:w2.heap.size=W1.heap.size+1:=by rw[z2];simp
  generalize W1.heap.size=p9 at *;clear z2 k2 b2 hL hB W1;obtain⟨L,hL⟩:∃L,(σ.take i).map VP=L:=⟨_,rfl⟩
  rw[hL] at o1;have hLi:=qh (show L.length=i by rw[←hL];simp;omega);have hLm:L.length<=8:=by have:=hLi.o;omega
  have hL2:(σ.take (i+1)).map VP=L++[VP x]:=by
   rw[List.take_add_one,List.map_append,hL,List.getElem?_eq_getElem hi];rw[List.getD_eq_getElem?_getD,List.getElem?_eq_getElem hi] at hx;simp only[Option.getD_some] at hx;rw[hx];rfl
  obtain⟨al,cl,rfl,-⟩:=(qj.sl o1).ex;have y0:=qa r1 0;simp at y0;have yl:=qd r1;have z:=qa r9;have z0:=z 0;have z1:=z 1;have z2:=z 2;have z3:=z 3;simp at z0 z1 z2 z3;have zl:=qd r9;have Z9:=qh z9;have R1:=qh r1;have O1:=qh o1;have BW:=qh bW;clear z r1 o1 bW r9 z9;gi_wp2_with fail;have hvx:-1000000000<=x/\x<=1000000000:=hv x (by rw[List.getD_eq_getElem?_getD,List.getElem?_eq_getElem hi] at hx;simp only[Option.getD_some] at hx;rw[←hx];exact List.getElem_mem hi);have KC:=qh (qbi (h.below BW.o) (hW.below BW.o) x hvx.1 hvx.2);have KC:=qh (qbi (w:=w2.drew) (h.below BW.o.drew) (hW.below BW.o.drew) x hvx.1 hvx.2);have hwB:=BW.o.size;refine RN.wpIn_region_t (w2.heap.size) [1,1,3,3,2,2] (.fin [0,1,2,3,4,5]) (by kernel_rfl) ?_;simp only[xi,qP,qA,sD,sE,sF,sG]
  repeat (apply qC;(intro w2 hw2;have hk1:=hw2.cell;have hk3:=hw2.1;clear hw2;go_simp;with_reducible rfl);simp only[Act.put,sA,sB,sC])
  refine qG (fun K hK=>?_);go_simp;refine KC.o.mono ?_;rintro e w3 ⟨rfl,b3⟩;refine hK _ _ (RN.KeepsN.of_below (b3.mono (Nat.le_refl w2.heap.size))) ?_;clear hK K;refine qG (fun K hK=>?_);go_simp;refine hK _ _ (RN.KeepsN.alloc w3 _ b3.size) ?_;clear hK K;have b3':Below w2.heap.size w2 w3:=(Below.refl _ w2).drew.trans b3;have o3:=qj.below O1.o b3';have r3:=qp R1.o b3' yl;have h3s:w2.heap.size<=w3.heap.size:=b3'.size;refine qM (fun K hK=>?_);refine ui _ _ _ rfl _ 16 Tryz.underlying314 Ml rfl o3 (VP x) (show w.heap.size<=w3.heap.size by omega) (by rfl) (by rfl) (by first|rfl|simp) rfl (NO _) (by first|omega|(simp only[List.length_append,List.length_cons,List.length_nil,List.length_replicate];omega)) (by first|omega|(simp only[List.length_append,List.length_cons,List.length_nil,List.length_replicate];omega)) ?_;intro g1 c1 w4 o4 G4;refine hK _ _ ?_;clear hK K;have ne:(Value.slice al L.length cl).ownBlock≠some (w.heap.size+1):=qj.neT o3 r3 (by decide);have r4:w4.heap[w.heap.size+1]?=some _:=qL r3 G4 ne;have y:=qa r4 0;simp at y;have yf:=qB r4 0;have yl4:=qd r4;have neF:(Value.slice (some ⟨g1,0,none⟩) (L.length+1) c1).ownBlock≠some (w.heap.size+1):=qj.neT o4 r4 (by decide);have oF:=qh (qj.other (j:=0) o4 neF (.slice (some ⟨g1,0,none⟩) (L.length+1) c1));have rF:=qh (qq r4 0 (.slice (some ⟨g1,0,none⟩) (L.length+1) c1));have nF:g1≠wq.heap.size+1:=by
   rcases G4.own g1 rfl with e|e
   ·exact n1 g1 e
   ·have:=Z9.o;omega
  have NF:=qh nF;have bF:=qh ((BW.o.trans (b3'.mono hwB)).trans ((G4.below (B:=w.heap.size) (by omega) fun j hj=>(qj.lt o3 j hj).1).setCell (p:=⟨w.heap.size+1,0,none⟩) (Nat.le_succ _) (.slice (some ⟨g1,0,none⟩) (L.length+1) c1)));have KF:Hid (xK qgv (fun _=>False) wq.heap.size hb w2 (w4.setCell ⟨w.heap.size+1,0,none⟩ (.slice (some ⟨g1,0,none⟩) (L.length+1) c1))):=qh (by
   refine xK.trans ⟨(b3'.mono (Nat.zero_le _)).trans (G4.below (B:=0) (Nat.zero_le _) fun j hj=>Nat.zero_le _),fun k O hk1 hk2 hO hM=>?_⟩ (xK.set _ (.inl ⟨by omega,id⟩));replace hk1:wq.heap.size<=k:=hk1.resolve_left id;have hO3:w3.heap[k]?=some O:=(b3'.block k (by have:=Z9.o;omega)).trans hO;refine(G4.grown.block k (Array.getElem?_eq_some_iff.1 hO3).1 fun e=>?_).trans hO3;obtain⟨cs,hcs⟩:=qj.keepObj o3 k e.symm;rw[hO3] at hcs;exact hM ⟨_,_,Option.some.inj hcs⟩)
  clear o3 o4 r3 r4 G4 ne neF nF b3 b3' n1;refine qM (fun K hK=>?_);go_simp;refine hK _ _ ?_;clear hK K
  repeat refine qu ?_
  refine⟨⟨⟨⟨_,by simpa using rF.o,?_,fun k e=>?_⟩,bF.o⟩,KF.o⟩,trivial⟩
  ·rw [hL2];exact oF.o
  ·cases e;exact NF.o
 ·rintro q W rfl ⟨⟨lv,r1,o1,-⟩,hB⟩ hz hd
  clear hI lt0;rw[List.take_length] at o1;obtain⟨al,cl,rfl,-⟩:=(qj.sl o1).ex;have y0:=qa r1 0;simp at y0;have yl:=qd r1;have ek:(Lib.join ((σ.map VP).map (·.data.toList)) [59,32])=Jz σ:=by simp[Jz,VP,Function.comp_def]
  have hkl:=Kr hv;have JC:Calls Tryz.prog 198 #[.slice al (σ.map VP).length cl,.string ⟨#[59,32]⟩] W fun e w'=>e=.returned (.string (uv σ))/\Below W.heap.size W w':=by
   rcases qj.form o1 with⟨hv0,hn0⟩|⟨g,cap,hv0,-,hg⟩
   ·have:σ=[]:=by simpa using hn0
    subst this;simp only[Value.slice.injEq] at hv0;obtain⟨rfl,-,rfl⟩:=hv0;refine(strings_Join_none none 0 _ W).mono ?_;rintro e w' ⟨rfl,rfl⟩;exact⟨rfl,Below.refl _ _⟩
   ·simp only[Value.slice.injEq] at hv0
    obtain⟨rfl,-,rfl⟩:=hv0;have:=strings_Join g 0 cl (σ.map VP) ⟨#[59,32]⟩ W (NS o1 rfl) hg (by simp;omega) (qj.capLe o1) (by rw[ek];omega);rw[ek] at this;exact this
  have JC:=qh JC;have BW:=qh hB;clear o1 hB r1;gi_wp2_with fail;refine⟨trivial,(callsIn_wide.2 (by simpa using JC.o)).mono ?_⟩;rintro e w9 ⟨rfl,b9⟩;gi_wp2_with fail;have M9:qfl w.heap.size [w.heap.size+3] w9:=⟨by simp,fun D hD=>by
   obtain rfl:D=w.heap.size+3:=by simpa using hD
   rw[zq] at hd;exact⟨by omega,qp hd b9 (by omega)⟩⟩
  refine Ye [w.heap.size+3] _ M9 (fun w' hb'=>LeavesIn.fin (v:=.string (uv σ)) ?_ ⟨rfl,(BW.o.trans (b9.mono BW.o.size)).trans hb'⟩);simp[results,Tryz.results149,go_sem]
 ·rintro q c i W h1 h2 - h3
  exact h3.elim
end
section
attribute [local irreducible] xE
theorem qbL {w:World} (h:vu w) (hW:yR w) (p:Nat) (v:Value) (σ:List Int) (hs:SlS w w.heap.size v σ) (hl:σ.length<=8) (hv:qdp σ):
  Calls Tryz.prog 97 #[.agg #[.int .i64 p,v]] w fun e w'=>e=.returned (.agg #[.int .i64 p,.string (uv σ)])/\Below w.heap.size w w':=by
 obtain⟨av,cv,rfl,-⟩:=hs.ex;have b0:Below w.heap.size w ((w.alloc (.cells #[.int .i64 p,.slice av σ.length cv] 206)).alloc (.cells #[.int .i64 0,.string ⟨#[]⟩] 201)):=((Below.refl _ w).alloc (Nat.le_refl _) _).alloc (by simp) _;have r0:((w.alloc (.cells #[.int .i64 p,.slice av σ.length cv] 206)).alloc (.cells #[.int .i64 0,.string ⟨#[]⟩] 201)).heap[w.heap.size]?=some (.cells #[.int .i64 p,.slice av σ.length cv] 206 (0,0)):=qD (qy w _);have r1:((w.alloc (.cells #[.int .i64 p,.slice av σ.length cv] 206)).alloc (.cells #[.int .i64 0,.string ⟨#[]⟩] 201)).heap[w.heap.size+1]?=some (.cells #[.int .i64 0,.string ⟨#[]⟩] 201 (0,0)):=qV (by simp);go_enter Tryz.func97,Tryz.ntmps97;go_wp2_with fail;generalize (w.alloc (.cells #[.int .i64 p,.slice av σ.length cv] 206)).alloc (.cells #[.int .i64 0,.string ⟨#[]⟩] 201)=W at *;have KC:=qh (qgJ (w:=W.drew) (h.below b0.drew) (hW.below b0.drew) (.slice av σ.length cv) σ ((hs.below b0).more b0.size) hl hv);have y:=qa r0;have y0:=y 0;have y1:=y 1;simp at y0 y1;have yl:=qd r0;have R1:=qh r1;have B0:=qh b0;clear y r0 r1 b0 h hW hs;refine qI (W.heap.size) [0,1,0,1,3,0,2] (.fin [0,1,2,3,4,5,6]) (by kernel_rfl) ?_;simp only[xi,qP,qA,sD,sE,sF,sG]
 repeat first|(refine qz fun K hK=>?_;go_simp;refine hK _ _ ?_;clear hK K)|(apply qC;(intro w2 hw2;have hk1:=hw2.cell;have hk3:=hw2.1;clear hw2;go_simp;with_reducible rfl);simp only[Act.put,sA,sB,sC])
 refine qG (fun K hK=>?_);go_simp;refine KC.o.mono ?_;rintro e w1 ⟨rfl,b1⟩;refine hK _ _ (RN.KeepsN.of_below b1) ?_;clear hK K;have b1':Below W.heap.size W w1:=(Below.refl _ W).drew.trans b1;have r1:=qp R1.o b1' (qd R1.o);have z:=qa r1;have z0:=z 0;have z1:=z 1;simp at z0 z1;have zl:=qd r1;have zf:=fun j=>qB r1 j;have BF:=qh (((B0.o.trans (b1'.mono B0.o.size)).setCell (p:=⟨w.heap.size+1,0,none⟩) (Nat.le_succ _) (.int .i64 p)).setCell (p:=⟨w.heap.size+1,1,none⟩) (Nat.le_succ _) (.string (uv σ)));have rF:=qq (qq r1 0 (.int .i64 p)) 1 (.string (uv σ));have c:=qa rF;have c0:=c 0;have c1:=c 1;simp at c0 c1;clear z r1 rF c b1 b1'
 repeat (refine qz fun K hK=>?_;go_simp;refine hK _ _ ?_;clear hK K)
 refine qM (fun K hK=>?_);go_simp;refine hK _ _ ?_;clear hK K
 repeat refine qu ?_
 go_wp2_with fail;refine bodyPost_ret (v:=.agg #[.int .i64 p,.string (uv σ)]) (by simp[results,Tryz.results97,go_sem,c0,c1]) rfl ?_;exact⟨rfl,BF.o⟩
theorem qfg {w:World} {bG n:Nat} {lv mv fv:Value} {a:Option Addr} {c:Nat} (h:w.heap[bG]?=some (.cells #[lv,.slice a n c,mv,fv] 213 (0,0))) (hn:n<=12):
  Calls Tryz.prog 150 #[.pointer (some ⟨bG,0,none⟩)] w fun e w'=>e=.returned (.int .i64 (2 ^ n - 1:Nat))/\w'=w:=by
 have y1:=qa h 1;simp at y1;have yl:=qd h;have q:wrap64 (wrap64 (2 ^ n) - 1)=((2 ^ n - 1:Nat):Int):=by
  have hc:n=0\/n=1\/n=2\/n=3\/n=4\/n=5\/n=6\/n=7\/n=8\/n=9\/n=10\/n=11\/n=12:=by omega
  rcases hc with rfl|rfl|rfl|rfl|rfl|rfl|rfl|rfl|rfl|rfl|rfl|rfl|rfl <;> simp[wrap64]
 have Q:=qh q;clear q;go_enter Tryz.func150,Tryz.ntmps150;go_wp2_with fail;have q:=Q.o;refine bodyPost_ret (v:=.int .i64 (2 ^ n - 1:Nat)) (by simp only[q];simp[results,Tryz.results150,go_sem]) rfl ⟨rfl,rfl⟩
def qfk (f:FuncId):Frame:={(default:Frame) with fn:=f,kind:=.normal}
theorem qdX (w:World):Calls Tryz.prog 100 #[.chan none] w fun e w'=>e=.returned (.bool false)/\w'=w:=by
 refine calls_of_loneTo fun cs=>?_;have e:Frame.enter Tryz.prog 100 #[.chan none] .normal=(qfk 100).at ⟨#[.chan none,undef,undef,undef,undef,undef,undef],[]⟩ [.code (Tryz.f100.body.getD .skip)]:=by
  simp[Frame.enter,Frame.at,Tryz.func100,qfk,Tryz.f100]
 rw[e];refine LoneTo.goes (n:=10) ?_;simp only[Tryz.f100,Option.getD_some]
 s_c stepG_seq
 s_reg
 s_op
 s_c stepG_region_end
 s_c stepG_seq
 s_reg
 s_op
 s_c stepG_region_end
 s_c stepG_seq
 s_reg
 s_stop
 refine LoneTo.step (step_lone_select_recv_nil (z:=.agg #[]) (stepG_comm (cases:=#[rcaseNil (.agg #[])]) (blocking:=false) (shape:=.select) (w':=w) rfl rfl (by decide) (by simp[go_sem,execOp,rcaseNil,Act.eval]))) ?_;rw[Frame.finish_at]
 walk_nrm
 refine LoneTo.goes (n:=10) ?_
 s_op
 s_op
 s_c stepG_region_end
 s_c stepG_block
 s_cond false
 s_c stepG_seq
 s_reg
 s_op
 s_c stepG_region_end
 s_c stepG_ret'
 s_stop
 exact LoneTo.done ⟨.returned (.bool false),_,rfl,⟨rfl,rfl⟩,rfl,rfl,rfl,rfl,_,Tryz.func100,by simp[results,Tryz.f100,Frame.at]⟩
end
section
attribute [local irreducible] xE
structure zW (m:Nat) (w:World) (B b12 b13 b14 bS bm most:Nat) (cv qv ov:Value) (L:List (XH m)) (rows orows:List NR) (n:Nat):Prop where
 var:w.heap[b12]?=some (.cells #[.pointer (some ⟨bS,0,none⟩)] 198 (0,0))
 set:uN m w B bS bm most cv L
 que:jK w B b13 qv rows n
 ord:w.heap[b14]?=some (.cells #[ov] 202 (0,0))
 own:qj NR.cells 206 2 w B ov orows
 dis:∀k,qv.ownBlock=some k->ov.ownBlock≠some k
 hB:B<=b12/\B<=b14
theorem uN.fr {S:Nat->Prop} {m B bS bm most:Nat} {cv:Value} {L:List (XH m)} {w w':World} (h:uN m w B bS bm most cv L) (hk:Fr S w w') (hn:∀j,j=bS\/j=bm\/cv.ownBlock=some j->¬S j):uN m w' B bS bm most cv L:=by
 obtain⟨h1,⟨M,h2,h3⟩,h4,h5⟩:=h;exact⟨hk.row h1 (hn _ (.inl rfl)),⟨M,h2.obj (hk.blk bm h2.lt (hn _ (.inr (.inl rfl)))),h3⟩,qj.fr h4 hk fun j e=>hn j (.inr (.inr e)),h5⟩
def SeT (t:TypeId):Prop:=t=279\/t=201\/t=204\/t=206\/t=202
section
variable {m B b12 b13 b14 bS bm most n:Nat} {cv qv ov:Value} {L:List (XH m)} {rows orows:List NR} {w w':World}
theorem zW.below (h:zW m w B b12 b13 b14 bS bm most cv qv ov L rows orows n) (hb:Below w.heap.size w w'):zW m w' B b12 b13 b14 bS bm most cv qv ov L rows orows n:=
 ⟨qp h.var hb (qd h.var),h.set.below hb,h.que.fr (Fr.below (S:=fun _=>False) hb) (fun _ _ h=>h),qp h.ord hb (qd h.ord),qj.below h.own hb,h.dis,h.hB⟩
theorem zW.setTurn (h:zW m w B b12 b13 b14 bS bm most cv qv ov L rows orows n) {cv':Value} {L':List (XH m)} (hs:uN m w' B bS bm most cv' L') (hk:Kd (fun t=>t=279\/t=201) w w'):
  zW m w' B b12 b13 b14 bS bm most cv' qv ov L' rows orows n:=
 ⟨hk _ _ _ _ h.var (by decide),hs,⟨hk _ _ _ _ h.que.row (by decide),qj.kd h.que.own hk (by decide),h.que.le,h.que.hB⟩,hk _ _ _ _ h.ord (by decide),qj.kd h.own hk (by decide),h.dis,h.hB⟩
def MJ (m:Nat) (w:World) (B b12 b13 b14 bS bm most:Nat) (qv ov:Value) (L:List (XH m)) (rows orows:List NR) (n:Nat) (k:XH m) (r:NR) (ev:Value) (e:Ending) (w':World):Prop:=
 (k ∈ L/\e=.returned .nilIface/\Below w.heap.size w w')\/
 (k ∉ L/\L.length=most/\e=.returned ev/\Below w.heap.size w w')\/
 (k ∉ L/\L.length < most/\e=.returned .nilIface/\(∃cv' qv' ov',zW m w' B b12 b13 b14 bS bm most cv' qv' ov' (L++[k]) (rows++[r]) (orows++[r]) n)/\Kd SeT w w'/\Below B w w')
theorem qfc (h:zW m w B b12 b13 b14 bS bm most cv qv ov L rows orows n) (hB:B<=w.heap.size) (hl:L.length<=most) (hm:most<=65536) (hr:rows.length<=65536) (hor:orows.length<=65536) (k:XH m) {a:Option Addr} {c:Nat} (hs:js w 0 (.slice a k.1.2.length c) k.1.2) (hP:vu w) (hW:yR w) {t0:TypeId} {v0:Value} (hev:w.cell? ⟨1,0,none⟩=some (.iface t0 v0)) (hel:1 < w.heap.size):
  Calls Tryz.prog 95 #[.agg #[.int .i64 (k.1.1:Nat),.slice a k.1.2.length c],.pointer (some ⟨b12,0,none⟩),.pointer (some ⟨b13,0,none⟩),.pointer (some ⟨b14,0,none⟩)] w (MJ m w B b12 b13 b14 bS bm most qv ov L rows orows n k ⟨k.1.1,.slice a k.1.2.length c⟩ (.iface t0 v0)):=by
 have b0:Below w.heap.size w (w.alloc (.cells #[.int .i64 (k.1.1:Nat),.slice a k.1.2.length c] 206)):=(Below.refl _ w).alloc (Nat.le_refl _) _;have r0:=qh (qy w (.cells #[.int .i64 (k.1.1:Nat),.slice a k.1.2.length c] 206));have hz0:=qh (show(w.alloc (.cells #[.int .i64 (k.1.1:Nat),.slice a k.1.2.length c] 206)).heap.size=w.heap.size+1 by simp);go_enter Tryz.func95,Tryz.ntmps95;go_wp2_with fail;generalize w.alloc (.cells #[.int .i64 (k.1.1:Nat),.slice a k.1.2.length c] 206)=W at *;have h1:=h.below b0;have hev1:=qx b0 hel hev;have hel1:1 < W.heap.size:=by have:=b0.size;omega
 have PC:=qh (qbL (w:=W.drew) (hP.below b0.drew) (hW.below b0.drew) k.1.1 (.slice a k.1.2.length c) k.1.2 (qj.sl (qj.below hs b0.drew)) (by have:=k.2;omega) k.2.2.2.2);have x0:=qa h1.var 0;have z:=qa r0.o;have z0:=z 0;have z1:=z 1;simp at x0 z0 z1;have xl:=qd h1.var;have zl:=qd r0.o;have HQL:=qh (fun j hj=>(qj.lt h.que.own j hj).2);have HOL:=qh (fun j hj=>(qj.lt h.own j hj).2);have H1:=qh h1;have B0:=qh b0;have HS:=qh hs;clear z h1 b0 h hP hW hs hev hel;refine qI (W.heap.size) [1,1,3,2,0,0,0,0,0] (.fin [0,1,2,3,4,5,6,7,8]) (by kernel_rfl) ?_;simp only[xi,qP,qA,sD,sE,sF,sG]
 repeat (apply qC;(intro w2 hw2;have hk1:=hw2.cell;have hk3:=hw2.1;clear hw2;go_simp;with_reducible rfl);simp only[Act.put,sA,sB,sC])
 refine qG (fun K hK=>?_);go_simp;refine PC.o.mono ?_;rintro e w1 ⟨rfl,b1⟩;refine hK _ _ (RN.KeepsN.of_below b1) ?_;clear hK K;have b1':Below W.heap.size W w1:=(Below.refl _ W).drew.trans b1;have hev2:=qx b1' hel1 hev1;have h2:=H1.o.below b1';have hB1:B<=w1.heap.size:=by have:=B0.o.size;have:=b1'.size;omega
 have AC:=qh (qgS h2.set hB1 hl (by omega) k hev2 (by have:=b1'.size;omega));unfold vI at AC;refine qM (fun K hK=>?_);go_simp;refine AC.o.mono ?_;intro e w2 hpost;have R1:=qh (qp r0.o b1' zl);have BB1:=qh (B0.o.trans (b1'.mono B0.o.size));rcases hpost with⟨hk,rfl,b2⟩|⟨hk,hfull,rfl,b2⟩|⟨hk,hlt,rfl,⟨cv',hs2⟩,hf⟩
 ·refine hK _ _ ?_
  clear hK K
  repeat first|(refine qz fun K hK=>?_;go_simp;refine hK _ _ ?_;clear hK K)|refine qu ?_
  go_wp2_with fail;go_ret;exact .inl ⟨hk,rfl,BB1.o.trans (b2.mono BB1.o.size)⟩
 ·refine hK _ _ ?_
  clear hK K
  repeat first|(refine qz fun K hK=>?_;go_simp;refine hK _ _ ?_;clear hK K)|refine qu ?_
  go_wp2_with fail;go_ret;exact .inr (.inl ⟨hk,hfull,rfl,BB1.o.trans (b2.mono BB1.o.size)⟩)
 ·refine hK _ _ ?_
  clear hK K;have h3:=h2.setTurn hs2 hf.1;have r3:=hf.1 _ _ _ _ R1.o (by decide);have z:=qa r3;have z0:=z 0;have z1:=z 1;simp at z0 z1;have zl:=qd r3;have H3:=qh h3;have HF:=qh hf;have R3:=qh r3;have hB2:B<=w2.heap.size:=Nat.le_trans hB1 hf.2.size;clear z h3 h2 r3 hf hs2 PC AC b1 b1'
  repeat first|(refine qz fun K hK=>?_;go_simp;refine hK _ _ ?_;clear hK K)|refine qu ?_
  go_wp2_with fail;refine(qgP H3.o.que hB2 (by omega) k.1.1 a k.1.2.length c).mono ?_;rintro e w4 ⟨rfl,qv',q4,f4,own4⟩;have hqlt:=HQL.o;have holt:=HOL.o;have hq2:=qj.lt H3.o.que.own;have ho2:=qj.lt H3.o.own;have hz1:w.heap.size < w2.heap.size:=qd R3.o;have r4:w4.heap[w.heap.size]?=some (.cells #[.int .i64 (k.1.1:Nat),.slice a k.1.2.length c] 206 (0,0)):=f4.row R3.o (fun hq=>by
   rcases hq with e|hq
   ·have:=H3.o.que.row;rw[←e,R3.o] at this;simp at this
   ·exact absurd (hqlt _ hq) (Nat.lt_irrefl _))
  have nQS:∀j,ov.ownBlock=some j->¬QS b13 qv j:=fun j hj hq=>by
   rcases hq with rfl|hq
   ·exact qj.neT H3.o.own H3.o.que.row (by decide) hj
   ·exact H3.o.dis j hq hj
  have n14:¬QS b13 qv b14:=fun hq=>by
   rcases hq with e|hq
   ·have:=H3.o.que.row;rw[←e,H3.o.ord] at this;simp at this
   ·exact qj.neT H3.o.que.own H3.o.ord (by decide) hq
  have ro4:=f4.row H3.o.ord n14;have oo4:=qj.fr H3.o.own f4 nQS;have hz24:w2.heap.size<=w4.heap.size:=f4.base.size;have hB4:B<=w4.heap.size:=by omega
  obtain⟨ao,co,rfl,-⟩:=(qj.sl oo4).ex;have z:=qa r4;have z0:=z 0;have z1:=z 1;have y0:=qa ro4 0;simp at z0 z1 y0;have zl:=qd r4;have yl:=qd ro4;have RO4:=qh ro4;have F4:=qh f4;have Q4:=qh q4;have NQS:=qh nQS;have OWN4:=qh own4;clear z r4 ro4 f4 q4 nQS own4 hqlt holt hz1;have hor2:orows.length<=70000:=by omega
  go_wp2_with (at_builtin;refine qN rfl _ _ _ rfl _ 32 Tryz.underlying202 qcj rfl oo4 (NR.mk k.1.1 (.slice a k.1.2.length c)) hB4 (by rfl) (by rfl) (by first|rfl|simp) rfl (qbK _) (by first|omega|(simp only[List.length_append,List.length_cons,List.length_nil,List.length_replicate];omega)) (by first|omega|(simp only[List.length_append,List.length_cons,List.length_nil,List.length_replicate];omega)) ?_;refine qK.halt ?_)
  refine qK.go ?_;intro g5 c5 w5 o5 G5;have ne5:=qj.neT oo4 RO4.o (by decide);have r5:w5.heap[b14]?=some _:=qL RO4.o G5 ne5;have y5:=qa r5 0;simp at y5;have yf:=qB r5 0;have yl5:=qd r5;have oF:=qh (qj.other (j:=0) o5 (qj.neT o5 r5 (by decide)) (.slice (some ⟨g5,0,none⟩) (orows.length+1) c5));have rF:=qh (qq r5 0 (.slice (some ⟨g5,0,none⟩) (orows.length+1) c5));have f46:Fr (fun j=>j=b14\/(Value.slice ao orows.length co).ownBlock=some j) w4 (w5.setCell ⟨b14,0,none⟩ (.slice (some ⟨g5,0,none⟩) (orows.length+1) c5)):=
   ((Fr.grw G5).mono fun j _ e=>Or.inr e).trans (Fr.setB (S:=fun j=>j=b14\/(Value.slice ao orows.length co).ownBlock=some j) (.inl rfl) 0 _) fun _ _ e=>e
  have FF:Fr (fun j=>QS b13 qv j\/j=b14\/(Value.slice ao orows.length co).ownBlock=some j) w2 (w5.setCell ⟨b14,0,none⟩ (.slice (some ⟨g5,0,none⟩) (orows.length+1) c5)):=
   (F4.o.mono fun j _ e=>Or.inl e).trans f46 fun j _ e=>Or.inr e
  have hty:∀j,(QS b13 qv j\/j=b14\/(Value.slice ao orows.length co).ownBlock=some j)->∃cs t,w2.heap[j]?=some (.cells cs t (0,0))/\(t=204\/t=206\/t=202):=by
   intro j hj;rcases hj with(rfl|hj)|rfl|hj
   ·exact ⟨_,_,H3.o.que.row,.inl rfl⟩
   ·obtain ⟨cs,hcs⟩:=qj.keepObj H3.o.que.own j hj;exact⟨cs,_,hcs,.inr (.inl rfl)⟩
   ·exact ⟨_,_,H3.o.ord,.inr (.inr rfl)⟩
   ·obtain ⟨cs,hcs⟩:=qj.keepObj H3.o.own j hj;exact⟨cs,_,hcs,.inr (.inl rfl)⟩
  have nty:∀j cs t fz,w2.heap[j]?=some (.cells cs t fz)->(t≠204/\t≠206/\t≠202)->¬(QS b13 qv j\/j=b14\/(Value.slice ao orows.length co).ownBlock=some j):=by
   intro j cs t fz hj ht hS;obtain⟨cs',t',h1,h2⟩:=hty j hS;rw[hj] at h1;simp only[Option.some.injEq,Obj.cells.injEq] at h1;obtain⟨-,rfl,-⟩:=h1;rcases h2 with h2|h2|h2
   ·exact ht.1 h2
   ·exact ht.2.1 h2
   ·exact ht.2.2 h2
  have set6:=H3.o.set.fr FF (fun j hj=>by
   rcases hj with rfl|rfl|hj
   ·exact nty _ _ _ _ H3.o.set.row (by decide)
   ·intro hS
    obtain⟨cs',t',h1,-⟩:=hty _ hS;obtain⟨M,hM,-⟩:=H3.o.set.map;obtain⟨es,cl,hes⟩:=hM.isMap;rw[hes] at h1;cases h1
   ·obtain ⟨cs,hcs⟩:=qj.keepObj H3.o.set.came j hj
    exact nty _ _ _ _ hcs (by decide))
  have var6:=FF.row H3.o.var (nty _ _ _ _ H3.o.var (by decide));have que6:=Q4.o.fr f46 (fun j hj=>by
   rintro(rfl|hov)
   ·rcases hj with e|hj
    ·have:=Q4.o.row;rw[←e,RO4.o] at this;simp at this
    ·exact qj.neT Q4.o.own RO4.o (by decide) hj
   ·rcases hj with rfl|hj
    ·exact NQS.o _ hov (.inl rfl)
    ·rcases OWN4.o j hj with e|e
     ·exact NQS.o _ hov (.inr e)
     ·have:=(ho2 j hov).2;omega)
  have dis6:∀j,qv'.ownBlock=some j->(Value.slice (some ⟨g5,0,none⟩) (orows.length+1) c5).ownBlock≠some j:=by
   intro j hj hg;rcases G5.own j hg with e|e
   ·rcases OWN4.o j hj with e2|e2
    ·exact NQS.o _ e (.inr e2)
    ·have:=(ho2 j e).2;omega
   ·have:=(qj.lt Q4.o.own j hj).2;omega
  have kd6:Kd SeT w2 (w5.setCell ⟨b14,0,none⟩ (.slice (some ⟨g5,0,none⟩) (orows.length+1) c5)):=FF.kd fun j cs t fz hS hj=>by
   obtain⟨cs',t',h1,h2⟩:=hty j hS;rw[hj] at h1;simp only[Option.some.injEq,Obj.cells.injEq] at h1;obtain⟨-,rfl,-⟩:=h1;rcases h2 with h2|h2|h2
   ·exact .inr (.inr (.inl h2))
   ·exact .inr (.inr (.inr (.inl h2)))
   ·exact .inr (.inr (.inr (.inr h2)))
  have bel6:Below B w2 (w5.setCell ⟨b14,0,none⟩ (.slice (some ⟨g5,0,none⟩) (orows.length+1) c5)):=FF.toBelow hB2 fun j hj=>by
   rintro((rfl|hq)|rfl|hq)
   ·have:=H3.o.que.hB;omega
   ·have:=(hq2 j hq).1;omega
   ·have:=H3.o.hB.2;omega
   ·have:=(ho2 j hq).1;omega
  have FIN:=qh (show zW m (w5.setCell ⟨b14,0,none⟩ (.slice (some ⟨g5,0,none⟩) (orows.length+1) c5)) B b12 b13 b14 bS bm most cv' qv' (.slice (some ⟨g5,0,none⟩) (orows.length+1) c5) (L++[k]) (rows++[⟨k.1.1,.slice a k.1.2.length c⟩]) (orows++[⟨k.1.1,.slice a k.1.2.length c⟩]) n from
   ⟨var6,set6,que6,by simpa using rF.o,oF.o,dis6,H3.o.hB⟩)
  have KF:=qh ((((Kd.below BB1.o:Kd SeT w w1).trans (HF.o.1.mono fun t e=>by rcases e with e|e;exact .inl e;exact .inr (.inl e))).trans kd6));have BF:=qh (((BB1.o.mono (by omega)).trans HF.o.2).trans bel6);clear FF hty nty set6 var6 que6 dis6 kd6 bel6 f46 ne5 r5 o5 G5 oo4 hq2 ho2;go_wp2_with fail;go_ret;exact .inr (.inr ⟨hk,hlt,rfl,⟨_,_,_,FIN.o⟩,KF.o,BF.o⟩)
end
end
section
attribute [local irreducible] xE
theorem Yv (n:Int) (h:-9223372036854775808<=n/\n<=9223372036854775807):wrap64 n=n:=by unfold wrap64;omega
theorem Qk (n:Int):IntKind.i64.wrap n=wrap64 n:=by simp[IntKind.wrap,IntKind.bits,IntKind.signed,wrap64];omega
theorem zu {a:Nat} (ha:a < 18446744073709551616):(BitVec.ofInt 64 (a:Int)).toNat=a:=by
 rw[BitVec.ofInt_natCast,BitVec.toNat_ofNat];exact Nat.mod_eq_of_lt (by omega)
theorem Zp {a b:Nat} (ha:a < 4611686018427387904) (hb:b < 4611686018427387904):bits .or .i64 (a:Int) (b:Int)=((a|||b:Nat):Int):=by
 have hx:a|||b < 2 ^ 62:=Nat.or_lt_two_pow (by omega) (by omega);show IntKind.i64.wrap ((BitVec.ofInt 64 (a:Int)|||BitVec.ofInt 64 (b:Int)).toNat:Int)=_;rw[BitVec.toNat_or,zu (by omega),zu (by omega),Qk,Yv];omega
theorem Wx {a b:Nat} (ha:a < 4611686018427387904) (hb:b < 4611686018427387904):bits .and .i64 (a:Int) (b:Int)=((a&&&b:Nat):Int):=by
 have hx:a&&&b < 2 ^ 62:=Nat.and_lt_two_pow _ (by omega);show IntKind.i64.wrap ((BitVec.ofInt 64 (a:Int)&&&BitVec.ofInt 64 (b:Int)).toNat:Int)=_;rw[BitVec.toNat_and,zu (by omega),zu (by omega),Qk,Yv];omega
theorem ZD {a b:Nat} (ha:a < 4611686018427387904) (hb:b < 4611686018427387904):(bits .andNot .i64 (a:Int) (b:Int)=0)=(a&&&b=a):=by
 have e1:bits .andNot .i64 (a:Int) (b:Int)=IntKind.i64.wrap ((BitVec.ofInt 64 (a:Int)&&&~~~ BitVec.ofInt 64 (b:Int)).toNat:Int):=rfl;have e2:(BitVec.ofInt 64 (a:Int)&&&~~~ BitVec.ofInt 64 (b:Int)).toNat<=a:=by
  rw[BitVec.toNat_and,zu (by omega)];exact Nat.and_le_left
 have e3:((BitVec.ofInt 64 (a:Int)&&&~~~ BitVec.ofInt 64 (b:Int)).toNat=0)=(a&&&b=a):=by
  refine propext ⟨fun h=>?_,fun h=>?_⟩
  ·refine Nat.eq_of_testBit_eq fun i=>?_
   have h0:(BitVec.ofInt 64 (a:Int)&&&~~~ BitVec.ofInt 64 (b:Int)).toNat.testBit i=false:=by rw[h];simp
   rw[BitVec.toNat_and,Nat.testBit_and,zu (by omega),BitVec.toNat_not,zu (by omega)] at h0;rw[Nat.testBit_and];by_cases hi:i < 64
   ·rw [show 2 ^ 64 - 1 - b=2 ^ 64 - (b+1) by omega,Nat.testBit_two_pow_sub_succ (by omega)] at h0
    simp only[hi,decide_true,Bool.true_and] at h0;cases h1:a.testBit i <;> cases h2:b.testBit i <;> simp_all
   ·have:a.testBit i=false:=Nat.testBit_lt_two_pow (Nat.lt_of_lt_of_le (show a < 2 ^ 64 by omega) (Nat.pow_le_pow_right (by omega) (by omega)))
    simp[this]
  ·refine Nat.eq_of_testBit_eq fun i=>?_
   rw[BitVec.toNat_and,Nat.testBit_and,zu (by omega),BitVec.toNat_not,zu (by omega),Nat.zero_testBit];have h0:(a&&&b).testBit i=a.testBit i:=by rw[h]
   rw[Nat.testBit_and] at h0;by_cases hi:i < 64
   ·rw [show 2 ^ 64 - 1 - b=2 ^ 64 - (b+1) by omega,Nat.testBit_two_pow_sub_succ (by omega)]
    simp only[hi,decide_true,Bool.true_and];cases h1:a.testBit i <;> cases h2:b.testBit i <;> simp_all
   ·have:a.testBit i=false:=Nat.testBit_lt_two_pow (Nat.lt_of_lt_of_le (show a < 2 ^ 64 by omega) (Nat.pow_le_pow_right (by omega) (by omega)))
    simp[this]
 rw[e1,Qk,Yv _ (by omega),←e3];exact propext ⟨fun h=>by omega,fun h=>by rw[h];rfl⟩
end
