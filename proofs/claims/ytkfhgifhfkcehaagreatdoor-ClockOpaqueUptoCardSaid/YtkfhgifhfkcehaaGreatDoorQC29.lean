/- Parts of the proof; the first: The engine clock: the closures that lock, tick, look, write. Conditions: those of each theorem, as typed. -/
import Derived.Test.YtkfhgifhfkcehaaGreatDoorQC28
set_option linter.unusedVariables false
set_option linter.unusedSimpArgs false
set_option linter.unusedSectionVars false
set_option maxRecDepth 100000
set_option maxHeartbeats 4000000
namespace Go.Proofs.YtkfhgifhfkcehaaGreatDoor
open Go.Maps Go.RowKit
section
attribute [local irreducible] xL
section
variable {w w':World} {C:LC} {ve:Value} {P:Pg} {M:LM} {us:List WkV}
theorem lookI {w:World} {f n:Nat} {F:MI} (h:IsMI w f n F) (hd:KDom dI F) {a:Int} (ha:dI a):(Instr.lookup 133 (.map (some f)) (.int .i64 a) false).run Tryz.prog w=.ok (.int .i64 ((yZ a F).getD 0)) w:=by
 have:=h.look keyI elem_int hd Tryz.underlying133 (zeroI w) ha;rw[this];cases yZ a F <;> rfl
theorem ceAt_of {cs:List Ce} {k:Nat} {c:Ce} (h:cs[k]?=some c):ceAt cs (k:Int)=c:=by simp[ceAt,h]
theorem la_lock1 (h:qX w C ve us P M) (i:Nat) (hi:i < P.threads.length) {t:Th} (ht:M.W.ths[i]?=some t) (hd:qR P i t=false) (hbg:t.begun=true) (hl:M.W.evs.length<=100000) (k:Int) (l:List Int) (hl4:(k::l).length<=4) (hk:∀z ∈ k::l,0<=z/\z < P.cells.length) {p1 p2 p3:Nat} (hx:BxM w C i p1 p2) (h3:LsBx w C p3 (k::l)):
  Calls Tryz.prog 239 #[.pointer (some ⟨p1,0,none⟩),.pointer (some ⟨p3,0,none⟩),.pointer (some ⟨p2,0,none⟩)] w (yS C P i (lockStep P M i t (k::l)) w):=by
 have hn4:=h.ok.threads.2;obtain⟨gC,cc,hce⟩:=h.ceForm;obtain⟨hk0,hk1⟩:=hk k (by simp);obtain⟨k,rfl⟩:∃z:Nat,k=z:=⟨k.toNat,by omega⟩
 have hc4:=h.ok.cells.2;have hkn:k < P.cells.length:=by omega
 obtain⟨lC,c,hc,c0,c1,c2⟩:=h.ceAt hce hkn;have hat:=ceAt_of hc;obtain⟨g,off,cap,n,cs,r3,rg,yg,hn3,hn5,hncap,hv'⟩:=h3.open
 have hn2:(1:Int)<=(n:Int):=by omega
 have hn4':(0:Int) < (n:Int):=by omega
 have hl3:l.length<=4:=by simp only[List.length_cons] at hl4;omega
 have e1:=qg h.row 1;rw[hce] at e1;have lM:=qh h.row;have y0:=qg hx.1 0;have y1:=qg hx.2.1 0;have y3:=qg r3 0;have k0:=qh hx.1;have k1:=qh hx.2.1;have k3:=qh r3;have kg:=qh rg;have H:=qj h;have HT:=qj ht;have HC:=qj hc;have HX:=qj hx;have HCE:=qj hce;have R3:=qj r3;have RG:=qj rg;have HV:=qj hv';have HD:=qj (And.intro hd hbg);obtain⟨Y0,hY0⟩:∃Y0:LM×Nx,Y0=lockStep P M i t ((k:Int)::l):=⟨_,rfl⟩
 rw[←hY0];simp only[lockStep,hat,Int.toNat_natCast] at hY0;have HY0:=qj hY0;clear h ht hc hx hce h3 hat r3 rg hv' hd hbg hY0 hk hl4;go_enter Tryz.func239,Tryz.ntmps239;go_wp2_with fail;refine qH [1,0,0,1,1,0,1,0,0] [0,1,2,3,4,5,6,7,8] (by kernel_rfl) ?_;simp only[qP,qD,sD,sE,sF,sG]
 repeat first|(refine qC fun K hK=>?_;go_simp;refine hK _ _ ?_;clear hK K)|(apply qJ;(intro w2 hw2;have hk1:=hw2.cell;have hk3:=hw2.heap;clear hw2;go_simp;with_reducible rfl);simp only[Act.put,sA,sB,sC])|refine qA ?_
 by_cases ho:c.own=0
 ·have q1:(c.own !=0)=false:=by simp[ho]
  have hY:=HY0.o;rw[if_pos ho] at hY;have HY1:=qj hY;clear hY HY0;have HO:=qj ho;have e0:=qg H.o.row 0;clear ho;go_wp2_with fail;refine qT (w.heap.size) [0,1,0,0,1,1,3,0,0,2] (.fin [0,1,2,3,4,5,6,7,8,9]) (by kernel_rfl) ?_;simp only[yp,qP,qD,sD,sE,sF,sG]
  repeat first|(refine qC fun K hK=>?_;go_simp;refine hK _ _ ?_;clear hK K)|(apply qJ;(intro w2 hw2;have hk1:=hw2.cell;have hk3:=hw2.1;clear hw2;go_simp;with_reducible rfl);simp only[Act.put,sA,sB,sC])
  refine qI (fun K hK=>?_);go_simp;refine(la_tx (H.o.below (Below.refl _ w).drew.drew) i hi HT.o HD.o.1 HD.o.2).mono ?_;rintro e X0 ⟨rfl,b1⟩;have b0:Below w.heap.size w X0:=(Below.refl _ w).drew.drew.trans b1;refine hK _ _ (RN.KeepsN.of_below b1) ?_;clear hK K b1;have HX0:=qj (H.o.below b0);have c2:=qu b0 lC c2;obtain⟨csr,hrC⟩:=HX0.o.ceRow HCE.o;have ff:=qx hrC (k*3+2);have lC0:=qh hrC;obtain⟨L4,hBC,kd1,km1,ro⟩:=HX0.o.ceSet HCE.o (k:=k) (j:=2) (c:=c) (u:=⟨c.val,c.ver,qG i t.tx⟩) (a:=.int .i64 (qG i t.tx)) HC.o (by decide) rfl;have bx4:=(HX.o.below b0).kd kd1 (by decide) (by decide);have b4:Below C.B w (X0.setCell ⟨gC,k*3+2,none⟩ (.int .i64 (qG i t.tx))):=(b0.mono H.o.size).setCell (p:=⟨gC,k*3+2,none⟩) hBC _;have r34:=kd1 _ _ _ _ (qp R3.o b0 k3) (by decide);have rg4:=kd1 _ _ _ _ (qp RG.o b0 kg) (by decide);have HLX:=qj L4;have HXX:=qj bx4;have HBX:=qj b4;have R3X:=qj r34;have RGX:=qj rg4;clear L4 kd1 km1 ro bx4 b4 r34 rg4 hrC b0
  repeat (refine qC fun K hK=>?_;go_simp;refine hK _ _ ?_;clear hK K)
  refine qN (fun K hK=>?_);go_simp;refine hK _ _ ?_;clear hK K
  repeat refine qA ?_
  generalize X0.setCell ⟨gC,k*3+2,none⟩ (.int .i64 (qG i t.tx))=X at *;clear y0 y1 y3 yg c0 c1 c2 e1 e0 ff H HX R3 RG;have y0:=qg HXX.o.1 0;have y1:=qg HXX.o.2.1 0;have y3:=qg R3X.o 0;have k0:=qh HXX.o.1;have k1:=qh HXX.o.2.1;have k3:=qh R3X.o;go_wp2_with fail;by_cases hc1:cap=1
  ·subst hc1
   refine qH [1,1,1,0,2,0] [0,1,2,3,4,5] (by kernel_rfl) ?_;simp only[qP,qD,sD,sE,sF,sG]
   repeat first|(refine qC fun K hK=>?_;go_simp;refine hK _ _ ?_;clear hK K)|(apply qJ;(intro w2 hw2;have hk1:=hw2.cell;have hk3:=hw2.heap;clear hw2;go_simp;with_reducible rfl);simp only[Act.put,sA,sB,sC])
   refine qN (fun K hK=>?_);go_simp;refine(la_lock (HLX.o.below (by first|exact(Below.refl _ X).drew.drew|exact(Below.refl _ X).drew|exact Below.refl _ X)) i hi _ l (by have h9:=HV.o _ RGX.o;first|exact h9|(rw[if_neg (by assumption)] at h9;exact h9)|(rw[hn5 rfl] at h9;exact h9)) hl3).mono ?_;rintro e X9 ⟨v,ve',us',rfl,hb,hla,hx2⟩;refine hK _ _ ?_;clear hK K;have B9:Hid (Below C.B w X9):=qj (Below.trans (by first|exact HBX.o.drew.drew|exact HBX.o.drew|exact HBX.o) hb);have L9:=qj hla;have X9':=qj hx2;clear hb hla hx2 y0 y1 y3
   repeat first|(refine qC fun K hK=>?_;go_simp;refine hK _ _ ?_;clear hK K)|refine qA ?_
   go_wp2;go_ret;exact⟨v,ve',us',rfl,B9.o,by first|exact L9.o|(rw[HY1.o];exact L9.o),by first|exact X9'.o|(rw[HY1.o];exact X9'.o)⟩
  ·
   refine qH [1,1,1,0,2,0] [0,1,2,3,4,5] (by kernel_rfl) ?_;simp only[qP,qD,sD,sE,sF,sG]
   repeat first|(refine qC fun K hK=>?_;go_simp;refine hK _ _ ?_;clear hK K)|(apply qJ;(intro w2 hw2;have hk1:=hw2.cell;have hk3:=hw2.heap;clear hw2;go_simp;with_reducible rfl);simp only[Act.put,sA,sB,sC])
   refine qN (fun K hK=>?_);go_simp;refine(la_lock (HLX.o.below (by first|exact(Below.refl _ X).drew.drew|exact(Below.refl _ X).drew|exact Below.refl _ X)) i hi _ l (by have h9:=HV.o _ RGX.o;first|exact h9|(rw[if_neg (by assumption)] at h9;exact h9)|(rw[hn5 rfl] at h9;exact h9)) hl3).mono ?_;rintro e X9 ⟨v,ve',us',rfl,hb,hla,hx2⟩;refine hK _ _ ?_;clear hK K;have B9:Hid (Below C.B w X9):=qj (Below.trans (by first|exact HBX.o.drew.drew|exact HBX.o.drew|exact HBX.o) hb);have L9:=qj hla;have X9':=qj hx2;clear hb hla hx2 y0 y1 y3
   repeat first|(refine qC fun K hK=>?_;go_simp;refine hK _ _ ?_;clear hK K)|refine qA ?_
   go_wp2;go_ret;exact⟨v,ve',us',rfl,B9.o,by first|exact L9.o|(rw[HY1.o];exact L9.o),by first|exact X9'.o|(rw[HY1.o];exact X9'.o)⟩
 ·have q1:(c.own !=0)=true:=by simp[ho]
  have hY:=HY0.o;rw[if_neg ho] at hY;have HY1:=qj hY;clear hY HY0;go_wp2_with fail;refine(yP (H.o.below (by first|exact(Below.refl _ w).drew|exact Below.refl _ w|exact(Below.refl _ w).drew.drew)) i).mono ?_;rintro e X1 ⟨q1,q2,rfl,b1,hbx⟩;have b1:Below w.heap.size w X1:=Below.trans (by first|exact(Below.refl _ w).drew|exact Below.refl _ w|exact(Below.refl _ w).drew.drew) b1;have HC1:=qj (la_abort1 (H.o.below b1) i hi HT.o HD.o.1 HD.o.2 hl hbx);have B1:=qj (b1.mono H.o.size);clear b1 hbx y0 y1 y3 yg e1;go_wp2_with fail;refine(HC1.o).mono ?_;rintro e X2 ⟨rfl,hb,ve',us',hla⟩;have B2:=qj (B1.o.trans hb);have L2:=qj hla;clear hb hla HC1;go_wp2;go_ret;exact⟨_,ve',us',rfl,B2.o,by rw[HY1.o];exact L2.o,by rw[HY1.o];exact rfl⟩
theorem la_tick1 (h:qX w C ve us P M) (i:Nat) (hi:i < P.threads.length) {tm:Int} {r:MB} {s:MI} (hws:M.ws[i]?=some (some (tm,r,s))) (hclk:0<=M.clk/\M.clk<=1000000) {p1 p2:Nat} (hx:BxM w C i p1 p2):
  Calls Tryz.prog 251 #[.pointer (some ⟨p1,0,none⟩),.pointer (some ⟨p2,0,none⟩)] w (yS C P i ({M with clk:=M.clk+1},zh (M.clk+1) s (r.map (·.1))) w):=by
 have hn4:=h.ok.threads.2;have hw1:wrap64 (M.clk+1)=M.clk+1:=IntWalk.wrap64_in _ (by omega);have hw2:IntKind.i64.wrap (M.clk+1)=M.clk+1:=IntWalk.i64_in _ (by omega);have d3:=qg h.row 3;have f3:=qx h.row 3;have lM:=qh h.row;have y0:=qg hx.1 0;have y1:=qg hx.2.1 0;have k0:=qh hx.1;have k1:=qh hx.2.1;have hB:=h.size;have hX:=h.tock (M.clk+1);have kx:Kd (fun t=>t=274) w (w.setCell ⟨C.bM,3,none⟩ (.int .i64 (M.clk+1))):=Kd.set (T:=fun t=>t=274) h.row rfl _;have hbx:=hx.kd kx (by decide) (by decide);have bX:Below C.B w (w.setCell ⟨C.bM,3,none⟩ (.int .i64 (M.clk+1))):=(Below.refl _ w).setCell (p:=⟨C.bM,3,none⟩) h.hB _;have HX:=qj hX;have HBX:=qj hbx;have BX:=qj bX;clear h hx hX kx hbx bX;go_enter Tryz.func251,Tryz.ntmps251;go_wp2_with fail;generalize w.setCell ⟨C.bM,3,none⟩ (.int .i64 (M.clk+1))=X at *;clear d3 f3 lM y0 y1 k0 k1;obtain⟨br,bs,hu,hwo,hgW,w0,w1,w2⟩:=HX.o.woAt hi hws;have d2:=qg HX.o.row 2;have d3:=qg HX.o.row 3;have lM:=qh HX.o.row;have y0:=qg HBX.o.1 0;have y1:=qg HBX.o.2.1 0;have k0:=qh HBX.o.1;have k1:=qh HBX.o.2.1;have hBW:C.B<=X.heap.size:=HX.o.size;obtain⟨br',bs',hu',hbr,hbs,hne,hmr,hms,hcr,hsr,hcs,hss⟩:=id hwo;simp only[Prod.mk.injEq,Value.map.injEq,Option.some.injEq,true_and] at hu';obtain⟨rfl,rfl⟩:=hu';have hr4:=hcr.len hsr;have HSR:=qj hsr;have HMR:=qj hmr;have HWS:=qj hws;clear hmr hms hcr hsr hcs hss hwo hu hws;go_wp2_with fail;refine qT (X.heap.size) [1,1,1,0,0,1,1,0,0,1,1,0,0,1,3,3,2,0] (.fin [0,1,2,3,4,5,6,7,8,9,10,11,12,13,14,15,16,17]) (by kernel_rfl) ?_;simp only[yp,qP,qD,sD,sE,sF,sG]
 repeat first|(refine qC fun K hK=>?_;go_simp;refine hK _ _ ?_;clear hK K)|(apply qJ;(intro w2 hw2;have hk1:=hw2.cell;have hk3:=hw2.1;clear hw2;go_simp;with_reducible rfl);simp only[Act.put,sA,sB,sC])
 refine qI (fun K hK=>?_);go_simp;refine(keysB (some br) X.drew).mono ?_;rintro e W1 ⟨rfl,rfl⟩;refine hK _ _ (RN.KeepsN.alloc _ _ (Nat.le_refl _)) ?_;clear hK K;refine qI (fun K hK=>?_);go_simp;refine(sortedB (w:=X.drew) (HMR.o.drew) HSR.o (by omega)).mono ?_;rintro e W2 ⟨v,rfl,ho,hb2⟩;have b2:Below X.heap.size X W2:=((Below.refl _ X).drew.alloc (Nat.le_refl _) _).trans (hb2.mono (by show X.heap.size<=X.heap.size+1;omega));refine hK _ _ (RN.KeepsN.of_below (hb2.mono (by show X.heap.size<=X.heap.size+1;omega))) ?_;clear hK K;have L2:=qj (HX.o.below b2);have LS:=qj (LsAt.ofOwn (C:=C) ho (show C.B<=X.heap.size+1 by omega));have B2:=qj (BX.o.trans (b2.mono hBW));clear ho hb2 b2;refine qN (fun K hK=>?_);go_simp;refine(la_look L2.o i hi (M.clk+1) v _ LS.o (by rw[List.length_map];exact hr4) (show _ from HWS.o)).mono ?_;rintro e W3 ⟨v3,ve',us',rfl,hb,hla,hx⟩;refine hK _ _ ?_;clear hK K;have B3:=qj (B2.o.trans hb);have L3:=qj hla;have X3:=qj hx;clear hb hla hx y0 y1 d2 d3 w0 w1 w2
 repeat first|(refine qC fun K hK=>?_;go_simp;refine hK _ _ ?_;clear hK K)|refine qA ?_
 go_wp2;go_ret;exact⟨v3,ve',us',rfl,B3.o,L3.o,X3.o⟩
theorem la_look1 (h:qX w C ve us P M) (i:Nat) (hi:i < P.threads.length) {t:Th} (ht:M.W.ths[i]?=some t) (hd:qR P i t=false) (hbg:t.begun=true) (hl:M.W.evs.length<=100000) {tm:Int} {r:MB} {s:MI} (hws:M.ws[i]?=some (some (tm,r,s))) (now:Int) (k:Int) (l:List Int) (hl4:(k::l).length<=4) (hk:∀z ∈ k::l,0<=z/\z < P.cells.length) {p1 p2 p3 p4:Nat} (hx:BxM w C i p1 p2) (h3:LsBx w C p3 (k::l)) (h4:IxBx w C p4 now):
  Calls Tryz.prog 258 #[.pointer (some ⟨p1,0,none⟩),.pointer (some ⟨p3,0,none⟩),.pointer (some ⟨p2,0,none⟩),.pointer (some ⟨p4,0,none⟩)] w (yS C P i (lookStep P M i t tm s now (k::l)) w):=by
 have hn4:=h.ok.threads.2;obtain⟨gC,cc,hce⟩:=h.ceForm;obtain⟨hk0,hk1⟩:=hk k (by simp);obtain⟨k,rfl⟩:∃z:Nat,k=z:=⟨k.toNat,by omega⟩
 have hc4:=h.ok.cells.2;have hkn:k < P.cells.length:=by omega
 obtain⟨lC,c,hc,c0,c1,c2⟩:=h.ceAt hce hkn;have hat:=ceAt_of hc;obtain⟨g,off,cap,n,cs,r3,rg,yg,hn3,hn5,hncap,hv'⟩:=h3.open
 have hn2:(1:Int)<=(n:Int):=by omega
 have hn4':(0:Int) < (n:Int):=by omega
 have hl3:l.length<=4:=by simp only[List.length_cons] at hl4;omega
 have e1:=qg h.row 1;rw[hce] at e1;have lM:=qh h.row;have y0:=qg hx.1 0;have y1:=qg hx.2.1 0;have y3:=qg r3 0;have k0:=qh hx.1;have k1:=qh hx.2.1;have k3:=qh r3;have kg:=qh rg;have H:=qj h;have HT:=qj ht;have HC:=qj hc;have HX:=qj hx;have HCE:=qj hce;have R3:=qj r3;have RG:=qj rg;have HV:=qj hv';have HD:=qj (And.intro hd hbg);have R4:=qj h4;have k4:=qh h4.1;obtain⟨br,bs,hu,hwo,hgW,w0,w1,w2⟩:=h.woAt hi hws;have HWS:=qj hws;obtain⟨Y0,hY0⟩:∃Y0:LM×Nx,Y0=lookStep P M i t tm s now ((k:Int)::l):=⟨_,rfl⟩
 rw[←hY0];simp only[lookStep,hat] at hY0;have HY0:=qj hY0;clear h ht hc hx hce h3 hat r3 rg hv' hd hbg hY0 hk hl4 h4 hu hwo hws;go_enter Tryz.func258,Tryz.ntmps258;go_wp2_with fail;refine qT (w.heap.size) [1,0,0,1,1,0,1,0,1,3,3] (.fin [0,1,2,3,4,5,6,7,8,9,10]) (by kernel_rfl) ?_;simp only[yp,qP,qD,sD,sE,sF,sG]
 repeat first|(refine qC fun K hK=>?_;go_simp;refine hK _ _ ?_;clear hK K)|(apply qJ;(intro w2 hw2;have hk1:=hw2.cell;have hk3:=hw2.1;clear hw2;go_simp;with_reducible rfl);simp only[Act.put,sA,sB,sC])
 refine qI (fun K hK=>?_);go_simp;refine hK _ _ (RN.KeepsN.alloc _ _ (by first|omega|exact Nat.le_refl _)) ?_;clear hK K;refine qI (fun K hK=>?_);go_simp;refine hK _ _ (KeepsN.both (W:=w) (RN.KeepsN.alloc _ _ (Nat.le_refl _)) (RN.KeepsN.alloc _ _ (Nat.le_refl _)) (by simp)) ?_;clear hK K
 repeat refine qA ?_
 have bX:Below w.heap.size w (w.alloc (.cells #[.int .i64 c.val,.int .i64 c.ver,.int .i64 c.own] 276)).drew:=((Below.refl w.heap.size w).alloc (Nat.le_refl _) _).drew;have rX:(w.alloc (.cells #[.int .i64 c.val,.int .i64 c.ver,.int .i64 c.own] 276)).drew.heap[w.heap.size]?=some (.cells #[.int .i64 c.val,.int .i64 c.ver,.int .i64 c.own] 276 (0,0)):=qy w _;have zX:(w.alloc (.cells #[.int .i64 c.val,.int .i64 c.ver,.int .i64 c.own] 276)).drew.heap.size=w.heap.size+1:=by simp
 generalize (w.alloc (.cells #[.int .i64 c.val,.int .i64 c.ver,.int .i64 c.own] 276)).drew=X at *;have x1:=qg rX 1;have x2:=qg rX 2;have lX:=qh rX;have HLX:=qj (H.o.below bX);have HXX:=qj (HX.o.below bX);have R3X:=qj (qp R3.o bX k3);have RGX:=qj (qp RG.o bX kg);have R4X:=qj (R4.o.below bX);have HBX:=qj (bX.mono H.o.size);have BW:=qj bX;have w0:=qu bX hgW w0;have lgW:C.gW < X.heap.size:=by omega
 clear y0 y1 y3 yg c0 c1 c2 e1 w1 w2 k0 k1 k3 k4 kg lM lC H HX R3 RG R4 bX rX;have y0:=qg HXX.o.1 0;have y1:=qg HXX.o.2.1 0;have y3:=qg R3X.o 0;have y4:=qg R4X.o.1 0;have k0:=qh HXX.o.1;have k1:=qh HXX.o.2.1;have k3:=qh R3X.o;have k4:=qh R4X.o.1;have e0:=qg HLX.o.row 0;have e2:=qg HLX.o.row 2;have lM:=qh HLX.o.row;go_wp2_with fail;by_cases ho:c.own=0
 ·by_cases hv:tm < c.ver
  ·
   have qa:(c.own !=0)=false:=by simp[ho]
   have HO:=qj ho;have qc:decide (c.ver > tm)=true:=by simp;omega
   have qd:decide (tm < c.ver)=true:=by simp;omega
   have HN:=qj hv;have htk:taken i t tm c=true:=by simp[taken,ho,hv]
   have hY:=HY0.o;rw[if_pos htk] at hY;have HY1:=qj hY;clear hY HY0 htk ho hv;refine qH [0,1,0,0,0,1,1,0,0,1,1,3,0,0,0,0,1,1,0,0,1,1,0,0,1,0,0] [0,1,2,3,4,5,6,7,8,9,10,11,12,13,14,15,16,17,18,19,20,21,22,23,24,25,26] (by kernel_rfl) ?_;simp only[qP,qD,sD,sE,sF,sG,Option.bind_some]
   repeat first|(refine qC fun K hK=>?_;go_simp;refine hK _ _ ?_;clear hK K)|(apply qJ;(intro w2 hw2;have hk1:=hw2.cell;have hk3:=hw2.heap;clear hw2;go_simp;with_reducible rfl);simp only[Act.put,sA,sB,sC])|refine qZ rfl rfl ?_|(refine xX rfl rfl fun K hK=>?_;simp only[Act.put,sA,sB,sC];refine hK _ _ ?_;clear hK K)|refine qA ?_
   go_wp2_with fail;refine(yP (HLX.o.below (by first|exact(Below.refl _ X).drew.drew|exact(Below.refl _ X).drew|exact Below.refl _ X)) i).mono ?_;rintro e X1 ⟨q1,q2,rfl,b1,hbx⟩;have b1:Below X.heap.size X X1:=Below.trans (by first|exact(Below.refl _ X).drew.drew|exact(Below.refl _ X).drew|exact Below.refl _ X) b1;have HC1:=qj (la_abort1 (HLX.o.below b1) i hi HT.o HD.o.1 HD.o.2 hl hbx);have B1:=qj (HBX.o.trans (b1.mono HLX.o.size));clear b1 hbx y0 y1 y3 y4 e0 e2 x1 x2 w0;go_wp2_with fail;refine(HC1.o).mono ?_;rintro e X2 ⟨rfl,hb,ve',us',hla⟩;have B2:=qj (B1.o.trans hb);have L2:=qj hla;clear hb hla HC1;go_wp2;go_ret;exact⟨_,ve',us',rfl,B2.o,by rw[HY1.o];exact L2.o,by rw[HY1.o];exact rfl⟩
  ·
   have qa:(c.own !=0)=false:=by simp[ho]
   have HO:=qj ho;have qc:decide (c.ver > tm)=false:=by simp;omega
   have qd:decide (tm < c.ver)=false:=by simp;omega
   have HN:=qj hv;have htk:taken i t tm c=false:=by simp[taken,ho,hv]
   have hY:=HY0.o;rw[if_neg (by rw[htk];decide)] at hY;have HY1:=qj hY;clear hY HY0 htk ho hv;refine qH [0,1,0,0,0,1,1,0,0,1,1,3,0,0,0,0,1,1,0,0,1,1,0,0,1,0,0] [0,1,2,3,4,5,6,7,8,9,10,11,12,13,14,15,16,17,18,19,20,21,22,23,24,25,26] (by kernel_rfl) ?_;simp only[qP,qD,sD,sE,sF,sG,Option.bind_some]
   repeat first|(refine qC fun K hK=>?_;go_simp;refine hK _ _ ?_;clear hK K)|(apply qJ;(intro w2 hw2;have hk1:=hw2.cell;have hk3:=hw2.heap;clear hw2;go_simp;with_reducible rfl);simp only[Act.put,sA,sB,sC])|refine qZ rfl rfl ?_|(refine xX rfl rfl fun K hK=>?_;simp only[Act.put,sA,sB,sC];refine hK _ _ ?_;clear hK K)|refine qA ?_
   clear x1 x2 w0 e0 e2;go_wp2_with fail;by_cases hc1:cap=1
   ·subst hc1
    refine qH [1,1,1,1,0,2,0] [0,1,2,3,4,5,6] (by kernel_rfl) ?_;simp only[qP,qD,sD,sE,sF,sG]
    repeat first|(refine qC fun K hK=>?_;go_simp;refine hK _ _ ?_;clear hK K)|(apply qJ;(intro w2 hw2;have hk1:=hw2.cell;have hk3:=hw2.heap;clear hw2;go_simp;with_reducible rfl);simp only[Act.put,sA,sB,sC])
    refine qN (fun K hK=>?_);go_simp;refine(la_look (HLX.o.below (by first|exact(Below.refl _ X).drew.drew|exact(Below.refl _ X).drew|exact Below.refl _ X)) i hi now _ l (by have h9:=HV.o _ RGX.o;first|exact h9|(rw[if_neg (by assumption)] at h9;exact h9)|(rw[hn5 rfl] at h9;exact h9)) hl3 HWS.o).mono ?_;rintro e X9 ⟨v,ve',us',rfl,hb,hla,hx2⟩;refine hK _ _ ?_;clear hK K;have B9:Hid (Below C.B w X9):=qj (Below.trans (by first|exact HBX.o.drew.drew|exact HBX.o.drew|exact HBX.o) hb);have L9:=qj hla;have X9':=qj hx2;clear hb hla hx2 y0 y1 y3 y4
    repeat first|(refine qC fun K hK=>?_;go_simp;refine hK _ _ ?_;clear hK K)|refine qA ?_
    go_wp2;go_ret;exact⟨v,ve',us',rfl,B9.o,by first|exact L9.o|(rw[HY1.o];exact L9.o),by first|exact X9'.o|(rw[HY1.o];exact X9'.o)⟩
   ·
    refine qH [1,1,1,1,0,2,0] [0,1,2,3,4,5,6] (by kernel_rfl) ?_;simp only[qP,qD,sD,sE,sF,sG]
    repeat first|(refine qC fun K hK=>?_;go_simp;refine hK _ _ ?_;clear hK K)|(apply qJ;(intro w2 hw2;have hk1:=hw2.cell;have hk3:=hw2.heap;clear hw2;go_simp;with_reducible rfl);simp only[Act.put,sA,sB,sC])
    refine qN (fun K hK=>?_);go_simp;refine(la_look (HLX.o.below (by first|exact(Below.refl _ X).drew.drew|exact(Below.refl _ X).drew|exact Below.refl _ X)) i hi now _ l (by have h9:=HV.o _ RGX.o;first|exact h9|(rw[if_neg (by assumption)] at h9;exact h9)|(rw[hn5 rfl] at h9;exact h9)) hl3 HWS.o).mono ?_;rintro e X9 ⟨v,ve',us',rfl,hb,hla,hx2⟩;refine hK _ _ ?_;clear hK K;have B9:Hid (Below C.B w X9):=qj (Below.trans (by first|exact HBX.o.drew.drew|exact HBX.o.drew|exact HBX.o) hb);have L9:=qj hla;have X9':=qj hx2;clear hb hla hx2 y0 y1 y3 y4
    repeat first|(refine qC fun K hK=>?_;go_simp;refine hK _ _ ?_;clear hK K)|refine qA ?_
    go_wp2;go_ret;exact⟨v,ve',us',rfl,B9.o,by first|exact L9.o|(rw[HY1.o];exact L9.o),by first|exact X9'.o|(rw[HY1.o];exact X9'.o)⟩
 ·by_cases hs:c.own=qG i t.tx
  ·by_cases hv:tm < c.ver
   ·
    have qa:(c.own !=0)=true:=by simp[ho]
    have HO:=qj ho;have qb:(c.own !=qG i t.tx)=false:=by simp[hs]
    have HS:=qj hs;have qc:decide (c.ver > tm)=true:=by simp;omega
    have qd:decide (tm < c.ver)=true:=by simp;omega
    have HN:=qj hv;have htk:taken i t tm c=true:=by simp[taken,ho,hs,hv]
    have hY:=HY0.o;rw[if_pos htk] at hY;have HY1:=qj hY;clear hY HY0 htk ho hs hv;refine qH [0,1,0,0,0,1,1,0,0,1,1,3,0,0,0,0,1,1,0,0,1,1,0,0,1,0,0] [0,1,2,3,4,5,6,7,8,9,10,11,12,13,14,15,16,17,18,19,20,21,22,23,24,25,26] (by kernel_rfl) ?_;simp only[qP,qD,sD,sE,sF,sG,Option.bind_some]
    repeat first|(refine qC fun K hK=>?_;go_simp;refine hK _ _ ?_;clear hK K)|(apply qJ;(intro w2 hw2;have hk1:=hw2.cell;have hk3:=hw2.heap;clear hw2;go_simp;with_reducible rfl);simp only[Act.put,sA,sB,sC])|refine qZ rfl rfl ?_
    refine qI (fun K hK=>?_);go_simp;refine(la_tx (HLX.o.below (Below.refl _ X).drew) i hi HT.o HD.o.1 HD.o.2).mono ?_;rintro e X0 ⟨rfl,b1⟩;refine hK _ _ (xU.of_below b1) ?_;clear hK K;have b1:Below X.heap.size X X0:=(Below.refl _ X).drew.trans b1;have w0:=qu b1 lgW w0;have e2:=qu b1 lM e2;have e0:=qu b1 lM e0;have x1:=qu b1 lX x1;have x2:=qu b1 lX x2;have y0:=qu b1 k0 y0;have y1:=qu b1 k1 y1;have y3:=qu b1 k3 y3;have y4:=qu b1 k4 y4;have z1:=b1.size;have lgW:C.gW < X0.heap.size:=by omega
    have lM:C.bM < X0.heap.size:=by omega
    have lX:w.heap.size < X0.heap.size:=by omega
    have HBX:=qj (HBX.o.trans (b1.mono HLX.o.size));have HXX:=qj (HXX.o.below b1);have R3X:=qj (qp R3X.o b1 k3);have RGX:=qj (qp RGX.o b1 (qh RGX.o));have R4X:=qj (R4X.o.below b1);have HLX:=qj (HLX.o.below b1);have k0:=qh HXX.o.1;have k1:=qh HXX.o.2.1;have k3:=qh R3X.o;have k4:=qh R4X.o.1;obtain⟨X,rfl⟩:∃Z,Z=X0:=⟨_,rfl⟩
    clear b1 z1
    repeat first|(refine qC fun K hK=>?_;go_simp;refine hK _ _ ?_;clear hK K)|(apply qJ;(intro w2 hw2;have hk1:=hw2.cell;have hk3:=hw2.heap;clear hw2;go_simp;with_reducible rfl);simp only[Act.put,sA,sB,sC])|refine qZ rfl rfl ?_|refine qA ?_
    go_wp2_with fail;refine(yP (HLX.o.below (by first|exact(Below.refl _ X).drew.drew|exact(Below.refl _ X).drew|exact Below.refl _ X)) i).mono ?_;rintro e X1 ⟨q1,q2,rfl,b1,hbx⟩;have b1:Below X.heap.size X X1:=Below.trans (by first|exact(Below.refl _ X).drew.drew|exact(Below.refl _ X).drew|exact Below.refl _ X) b1;have HC1:=qj (la_abort1 (HLX.o.below b1) i hi HT.o HD.o.1 HD.o.2 hl hbx);have B1:=qj (HBX.o.trans (b1.mono HLX.o.size));clear b1 hbx y0 y1 y3 y4 e0 e2 x1 x2 w0;go_wp2_with fail;refine(HC1.o).mono ?_;rintro e X2 ⟨rfl,hb,ve',us',hla⟩;have B2:=qj (B1.o.trans hb);have L2:=qj hla;clear hb hla HC1;go_wp2;go_ret;exact⟨_,ve',us',rfl,B2.o,by rw[HY1.o];exact L2.o,by rw[HY1.o];exact rfl⟩
   ·
    have qa:(c.own !=0)=true:=by simp[ho]
    have HO:=qj ho;have qb:(c.own !=qG i t.tx)=false:=by simp[hs]
    have HS:=qj hs;have qc:decide (c.ver > tm)=false:=by simp;omega
    have qd:decide (tm < c.ver)=false:=by simp;omega
    have HN:=qj hv;have htk:taken i t tm c=false:=by simp[taken,ho,hs,hv]
    have hY:=HY0.o;rw[if_neg (by rw[htk];decide)] at hY;have HY1:=qj hY;clear hY HY0 htk ho hs hv;refine qH [0,1,0,0,0,1,1,0,0,1,1,3,0,0,0,0,1,1,0,0,1,1,0,0,1,0,0] [0,1,2,3,4,5,6,7,8,9,10,11,12,13,14,15,16,17,18,19,20,21,22,23,24,25,26] (by kernel_rfl) ?_;simp only[qP,qD,sD,sE,sF,sG,Option.bind_some]
    repeat first|(refine qC fun K hK=>?_;go_simp;refine hK _ _ ?_;clear hK K)|(apply qJ;(intro w2 hw2;have hk1:=hw2.cell;have hk3:=hw2.heap;clear hw2;go_simp;with_reducible rfl);simp only[Act.put,sA,sB,sC])|refine qZ rfl rfl ?_
    refine qI (fun K hK=>?_);go_simp;refine(la_tx (HLX.o.below (Below.refl _ X).drew) i hi HT.o HD.o.1 HD.o.2).mono ?_;rintro e X0 ⟨rfl,b1⟩;refine hK _ _ (xU.of_below b1) ?_;clear hK K;have b1:Below X.heap.size X X0:=(Below.refl _ X).drew.trans b1;have w0:=qu b1 lgW w0;have e2:=qu b1 lM e2;have e0:=qu b1 lM e0;have x1:=qu b1 lX x1;have x2:=qu b1 lX x2;have y0:=qu b1 k0 y0;have y1:=qu b1 k1 y1;have y3:=qu b1 k3 y3;have y4:=qu b1 k4 y4;have z1:=b1.size;have lgW:C.gW < X0.heap.size:=by omega
    have lM:C.bM < X0.heap.size:=by omega
    have lX:w.heap.size < X0.heap.size:=by omega
    have HBX:=qj (HBX.o.trans (b1.mono HLX.o.size));have HXX:=qj (HXX.o.below b1);have R3X:=qj (qp R3X.o b1 k3);have RGX:=qj (qp RGX.o b1 (qh RGX.o));have R4X:=qj (R4X.o.below b1);have HLX:=qj (HLX.o.below b1);have k0:=qh HXX.o.1;have k1:=qh HXX.o.2.1;have k3:=qh R3X.o;have k4:=qh R4X.o.1;obtain⟨X,rfl⟩:∃Z,Z=X0:=⟨_,rfl⟩
    clear b1 z1
    repeat first|(refine qC fun K hK=>?_;go_simp;refine hK _ _ ?_;clear hK K)|(apply qJ;(intro w2 hw2;have hk1:=hw2.cell;have hk3:=hw2.heap;clear hw2;go_simp;with_reducible rfl);simp only[Act.put,sA,sB,sC])|refine qZ rfl rfl ?_|refine qA ?_
    clear x1 x2 w0 e0 e2;go_wp2_with fail;by_cases hc1:cap=1
    ·subst hc1
     refine qH [1,1,1,1,0,2,0] [0,1,2,3,4,5,6] (by kernel_rfl) ?_;simp only[qP,qD,sD,sE,sF,sG]
     repeat first|(refine qC fun K hK=>?_;go_simp;refine hK _ _ ?_;clear hK K)|(apply qJ;(intro w2 hw2;have hk1:=hw2.cell;have hk3:=hw2.heap;clear hw2;go_simp;with_reducible rfl);simp only[Act.put,sA,sB,sC])
     refine qN (fun K hK=>?_);go_simp;refine(la_look (HLX.o.below (by first|exact(Below.refl _ X).drew.drew|exact(Below.refl _ X).drew|exact Below.refl _ X)) i hi now _ l (by have h9:=HV.o _ RGX.o;first|exact h9|(rw[if_neg (by assumption)] at h9;exact h9)|(rw[hn5 rfl] at h9;exact h9)) hl3 HWS.o).mono ?_;rintro e X9 ⟨v,ve',us',rfl,hb,hla,hx2⟩;refine hK _ _ ?_;clear hK K;have B9:Hid (Below C.B w X9):=qj (Below.trans (by first|exact HBX.o.drew.drew|exact HBX.o.drew|exact HBX.o) hb);have L9:=qj hla;have X9':=qj hx2;clear hb hla hx2 y0 y1 y3 y4
     repeat first|(refine qC fun K hK=>?_;go_simp;refine hK _ _ ?_;clear hK K)|refine qA ?_
     go_wp2;go_ret;exact⟨v,ve',us',rfl,B9.o,by first|exact L9.o|(rw[HY1.o];exact L9.o),by first|exact X9'.o|(rw[HY1.o];exact X9'.o)⟩
    ·
     refine qH [1,1,1,1,0,2,0] [0,1,2,3,4,5,6] (by kernel_rfl) ?_;simp only[qP,qD,sD,sE,sF,sG]
     repeat first|(refine qC fun K hK=>?_;go_simp;refine hK _ _ ?_;clear hK K)|(apply qJ;(intro w2 hw2;have hk1:=hw2.cell;have hk3:=hw2.heap;clear hw2;go_simp;with_reducible rfl);simp only[Act.put,sA,sB,sC])
     refine qN (fun K hK=>?_);go_simp;refine(la_look (HLX.o.below (by first|exact(Below.refl _ X).drew.drew|exact(Below.refl _ X).drew|exact Below.refl _ X)) i hi now _ l (by have h9:=HV.o _ RGX.o;first|exact h9|(rw[if_neg (by assumption)] at h9;exact h9)|(rw[hn5 rfl] at h9;exact h9)) hl3 HWS.o).mono ?_;rintro e X9 ⟨v,ve',us',rfl,hb,hla,hx2⟩;refine hK _ _ ?_;clear hK K;have B9:Hid (Below C.B w X9):=qj (Below.trans (by first|exact HBX.o.drew.drew|exact HBX.o.drew|exact HBX.o) hb);have L9:=qj hla;have X9':=qj hx2;clear hb hla hx2 y0 y1 y3 y4
     repeat first|(refine qC fun K hK=>?_;go_simp;refine hK _ _ ?_;clear hK K)|refine qA ?_
     go_wp2;go_ret;exact⟨v,ve',us',rfl,B9.o,by first|exact L9.o|(rw[HY1.o];exact L9.o),by first|exact X9'.o|(rw[HY1.o];exact X9'.o)⟩
  ·
   have qa:(c.own !=0)=true:=by simp[ho]
   have HO:=qj ho;have qb:(c.own !=qG i t.tx)=true:=by simp[hs]
   have HS:=qj hs;have htk:taken i t tm c=true:=by simp[taken,ho,hs]
   have hY:=HY0.o;rw[if_pos htk] at hY;have HY1:=qj hY;clear hY HY0 htk ho hs;refine qH [0,1,0,0,0,1,1,0,0,1,1,3,0,0,0,0,1,1,0,0,1,1,0,0,1,0,0] [0,1,2,3,4,5,6,7,8,9,10,11,12,13,14,15,16,17,18,19,20,21,22,23,24,25,26] (by kernel_rfl) ?_;simp only[qP,qD,sD,sE,sF,sG,Option.bind_some]
   repeat first|(refine qC fun K hK=>?_;go_simp;refine hK _ _ ?_;clear hK K)|(apply qJ;(intro w2 hw2;have hk1:=hw2.cell;have hk3:=hw2.heap;clear hw2;go_simp;with_reducible rfl);simp only[Act.put,sA,sB,sC])|refine qZ rfl rfl ?_
   refine qI (fun K hK=>?_);go_simp;refine(la_tx (HLX.o.below (Below.refl _ X).drew) i hi HT.o HD.o.1 HD.o.2).mono ?_;rintro e X0 ⟨rfl,b1⟩;refine hK _ _ (xU.of_below b1) ?_;clear hK K;have b1:Below X.heap.size X X0:=(Below.refl _ X).drew.trans b1;have w0:=qu b1 lgW w0;have e2:=qu b1 lM e2;have e0:=qu b1 lM e0;have x1:=qu b1 lX x1;have x2:=qu b1 lX x2;have y0:=qu b1 k0 y0;have y1:=qu b1 k1 y1;have y3:=qu b1 k3 y3;have y4:=qu b1 k4 y4;have z1:=b1.size;have lgW:C.gW < X0.heap.size:=by omega
   have lM:C.bM < X0.heap.size:=by omega
   have lX:w.heap.size < X0.heap.size:=by omega
   have HBX:=qj (HBX.o.trans (b1.mono HLX.o.size));have HXX:=qj (HXX.o.below b1);have R3X:=qj (qp R3X.o b1 k3);have RGX:=qj (qp RGX.o b1 (qh RGX.o));have R4X:=qj (R4X.o.below b1);have HLX:=qj (HLX.o.below b1);have k0:=qh HXX.o.1;have k1:=qh HXX.o.2.1;have k3:=qh R3X.o;have k4:=qh R4X.o.1;obtain⟨X,rfl⟩:∃Z,Z=X0:=⟨_,rfl⟩
   clear b1 z1
   repeat first|(refine qC fun K hK=>?_;go_simp;refine hK _ _ ?_;clear hK K)|refine qZ rfl rfl ?_|(refine xX rfl rfl fun K hK=>?_;simp only[Act.put,sA,sB,sC];refine hK _ _ ?_;clear hK K)|refine qA ?_
   go_wp2_with fail;refine(yP (HLX.o.below (by first|exact(Below.refl _ X).drew.drew|exact(Below.refl _ X).drew|exact Below.refl _ X)) i).mono ?_;rintro e X1 ⟨q1,q2,rfl,b1,hbx⟩;have b1:Below X.heap.size X X1:=Below.trans (by first|exact(Below.refl _ X).drew.drew|exact(Below.refl _ X).drew|exact Below.refl _ X) b1;have HC1:=qj (la_abort1 (HLX.o.below b1) i hi HT.o HD.o.1 HD.o.2 hl hbx);have B1:=qj (HBX.o.trans (b1.mono HLX.o.size));clear b1 hbx y0 y1 y3 y4 e0 e2 x1 x2 w0;go_wp2_with fail;refine(HC1.o).mono ?_;rintro e X2 ⟨rfl,hb,ve',us',hla⟩;have B2:=qj (B1.o.trans hb);have L2:=qj hla;clear hb hla HC1;go_wp2;go_ret;exact⟨_,ve',us',rfl,B2.o,by rw[HY1.o];exact L2.o,by rw[HY1.o];exact rfl⟩
theorem la_write1 (h:qX w C ve us P M) (i:Nat) (hi:i < P.threads.length) {tm:Int} {r:MB} {s:MI} (hws:M.ws[i]?=some (some (tm,r,s))) (now:Int) (k:Int) (l:List Int) (hl4:(k::l).length<=4) (hk:∀z ∈ k::l,0<=z/\z < P.cells.length) {p1 p2 p3 p4:Nat} (hx:BxM w C i p1 p2) (h3:LsBx w C p3 (k::l)) (h4:IxBx w C p4 now):
  Calls Tryz.prog 260 #[.pointer (some ⟨p1,0,none⟩),.pointer (some ⟨p2,0,none⟩),.pointer (some ⟨p3,0,none⟩),.pointer (some ⟨p4,0,none⟩)] w (yS C P i (writeStep M s now (k::l)) w):=by
 have hn4:=h.ok.threads.2;obtain⟨gC,cc,hce⟩:=h.ceForm;obtain⟨hk0,hk1⟩:=hk k (by simp);obtain⟨k,rfl⟩:∃z:Nat,k=z:=⟨k.toNat,by omega⟩
 have hc4:=h.ok.cells.2;have hkn:k < P.cells.length:=by omega
 obtain⟨lC,c,hc,c0,c1,c2⟩:=h.ceAt hce hkn;have hat:=ceAt_of hc;obtain⟨g,off,cap,n,cs,r3,rg,yg,hn3,hn5,hncap,hv'⟩:=h3.open
 have hn2:(1:Int)<=(n:Int):=by omega
 have hn4':(0:Int) < (n:Int):=by omega
 have hl3:l.length<=4:=by simp only[List.length_cons] at hl4;omega
 have e1:=qg h.row 1;rw[hce] at e1;have lM:=qh h.row;have y0:=qg hx.1 0;have y1:=qg hx.2.1 0;have y3:=qg r3 0;have k0:=qh hx.1;have k1:=qh hx.2.1;have k3:=qh r3;have kg:=qh rg;have H:=qj h;have HC:=qj hc;have HX:=qj hx;have HCE:=qj hce;have R3:=qj r3;have RG:=qj rg;have HV:=qj hv';have R4:=qj h4;have y4:=qg h4.1 0;have k4:=qh h4.1;have e2:=qg h.row 2;have hkd:dI (k:Int):=dI_small (by omega) (by omega);obtain⟨br,bs,hu,hwo,hgW,w0,w1,w2⟩:=h.woAt hi hws;obtain⟨br',bs',hu',hbr,hbs,hne,hmr,hms,hcr,hsr,hcs,hss⟩:=id hwo;simp only[Prod.mk.injEq,Value.map.injEq,Option.some.injEq,true_and] at hu';obtain⟨rfl,rfl⟩:=hu';have lk:∀X:World,X.heap[bs]?=w.heap[bs]?->(Instr.lookup 133 (.map (some bs)) (.int .i64 (k:Int)) false).run Tryz.prog X=.ok (.int .i64 ((yZ (k:Int) s).getD 0)) X:=fun X hX=>lookI (hms.obj hX) hcs.dom hkd;have lbs:=hms.lt;obtain⟨wv,hwv⟩:∃x:Int,x=(yZ (k:Int) s).getD 0:=⟨_,rfl⟩
 rw[←hwv] at lk;have hst:writeStep M s now ((k:Int)::l)=({M with cs:=M.cs.set k ⟨wv,now,0⟩},za now l):=by simp[writeStep,hwv]
 rw[hst];obtain⟨csr,hrC⟩:=h.ceRow hce;have ff0:=qx hrC (k*3);have ff1:=qx hrC (k*3+1);have ff2:=qx hrC (k*3+2);obtain⟨L1,hBC,kd1,-,-⟩:=h.ceSet hce (k:=k) (j:=0) (c:=c) (u:=⟨wv,c.ver,c.own⟩) (a:=.int .i64 wv) hc (by decide) rfl;obtain⟨L2,-,kd2,-,-⟩:=L1.ceSet hce (k:=k) (j:=1) (c:=⟨wv,c.ver,c.own⟩) (u:=⟨wv,now,c.own⟩) (a:=.int .i64 now) (by show(M.cs.set k _)[k]?=_;rw[List.getElem?_set_self (List.getElem?_eq_some_iff.1 hc).1]) (by decide) rfl;obtain⟨L3,-,kd3,-,-⟩:=L2.ceSet hce (k:=k) (j:=2) (c:=⟨wv,now,c.own⟩) (u:=⟨wv,now,0⟩) (a:=.int .i64 0) (by show((M.cs.set k _).set k _)[k]?=_;rw[List.set_set,List.getElem?_set_self (List.getElem?_eq_some_iff.1 hc).1]) (by decide) rfl;have kd4:=(kd1.trans kd2).trans kd3;simp only[Nat.add_zero] at L3 kd4;have L3:qX (((w.setCell ⟨gC,k*3,none⟩ (.int .i64 wv)).setCell ⟨gC,k*3+1,none⟩ (.int .i64 now)).setCell ⟨gC,k*3+2,none⟩ (.int .i64 0)) C ve us P {M with cs:=M.cs.set k ⟨wv,now,0⟩}:=by
  have:=L3;simp only[List.set_set] at this;exact this
 have bx4:=hx.kd kd4 (by decide) (by decide);have b4:Below C.B w (((w.setCell ⟨gC,k*3,none⟩ (.int .i64 wv)).setCell ⟨gC,k*3+1,none⟩ (.int .i64 now)).setCell ⟨gC,k*3+2,none⟩ (.int .i64 0)):=(((Below.refl _ w).setCell (p:=⟨gC,k*3,none⟩) hBC _).setCell (p:=⟨gC,k*3+1,none⟩) hBC _).setCell (p:=⟨gC,k*3+2,none⟩) hBC _;have r34:=kd4 _ _ _ _ r3 (by decide);have rg4:=kd4 _ _ _ _ rg (by decide);have h44:IxBx _ C p4 now:=⟨kd4 _ _ _ _ h4.1 (by decide),h4.2⟩
 have HLX:=qj L3;have HXX:=qj bx4;have HBX:=qj b4;have R3X:=qj r34;have RGX:=qj rg4;have R4X:=qj h44;clear h hc hx hce h3 hat r3 rg hv' hk hl4 h4 hu hwo hws hmr hms hcr hsr hcs hss hst L1 L2 L3 kd1 kd2 kd3 kd4 bx4 b4 r34 rg4 h44 hrC hwv;go_enter Tryz.func260,Tryz.ntmps260;go_wp2_with fail;refine qH [1,0,0,1,1,0,1,1,0,0,1,1,0,0,1,1,0,1,1,1,0,0,2] [0,1,2,3,4,5,6,7,8,9,10,11,12,13,14,15,16,17,18,19,20,21,22] (by kernel_rfl) ?_;simp only[qP,qD,sD,sE,sF,sG]
 repeat first|(refine qC fun K hK=>?_;go_simp;refine hK _ _ ?_;clear hK K)|(apply qJ;(intro w2 hw2;have hk1:=hw2.cell;have hk3:=hw2.heap;clear hw2;go_simp;with_reducible rfl);simp only[Act.put,sA,sB,sC])
 refine wpL_r (fun K hK=>?_);refine⟨.int .i64 wv,fun w2 hw2=>?_,?_⟩
 ·have lk2:=lk w2 (hw2.heap bs (show w.heap[bs]?.isSome=true by rw[Array.getElem?_eq_getElem lbs];rfl))
  clear lk;go_simp
  try trace_state
  try with_reducible rfl
 refine hK _ _ ?_;clear hK K;simp only[Act.put,List.setIfInBounds_toArray,List.set_cons_zero,List.set_cons_succ]
 repeat first|(refine qC fun K hK=>?_;go_simp;refine hK _ _ ?_;clear hK K)|(apply qJ;(intro w2 hw2;have hk1:=hw2.cell;have hk3:=hw2.heap;clear hw2;go_simp;with_reducible rfl);simp only[Act.put,sA,sB,sC])
 refine qN (fun K hK=>?_);go_simp;refine hK _ _ ?_;clear hK K
 repeat refine qA ?_
 generalize ((w.setCell ⟨gC,k*3,none⟩ (.int .i64 wv)).setCell ⟨gC,k*3+1,none⟩ (.int .i64 now)).setCell ⟨gC,k*3+2,none⟩ (.int .i64 0)=X at *;clear y0 y1 y3 y4 yg c0 c1 c2 e1 e2 ff0 ff1 ff2 w0 w1 w2 lk H HX R3 RG R4;have y0:=qg HXX.o.1 0;have y1:=qg HXX.o.2.1 0;have y3:=qg R3X.o 0;have y4:=qg R4X.o.1 0;have k0:=qh HXX.o.1;have k1:=qh HXX.o.2.1;have k3:=qh R3X.o;have k4:=qh R4X.o.1;go_wp2_with fail;by_cases hc1:cap=1
 ·subst hc1
  refine qH [1,1,1,1,0,2,0] [0,1,2,3,4,5,6] (by kernel_rfl) ?_;simp only[qP,qD,sD,sE,sF,sG]
  repeat first|(refine qC fun K hK=>?_;go_simp;refine hK _ _ ?_;clear hK K)|(apply qJ;(intro w2 hw2;have hk1:=hw2.cell;have hk3:=hw2.heap;clear hw2;go_simp;with_reducible rfl);simp only[Act.put,sA,sB,sC])
  refine qN (fun K hK=>?_);go_simp;refine(la_write (HLX.o.below (by first|exact(Below.refl _ X).drew.drew|exact(Below.refl _ X).drew|exact Below.refl _ X)) i hi now _ l (by have h9:=HV.o _ RGX.o;first|exact h9|(rw[if_neg (by assumption)] at h9;exact h9)|(rw[hn5 rfl] at h9;exact h9)) hl3).mono ?_;rintro e X9 ⟨v,ve',us',rfl,hb,hla,hx2⟩;refine hK _ _ ?_;clear hK K;have B9:Hid (Below C.B w X9):=qj (Below.trans (by first|exact HBX.o.drew.drew|exact HBX.o.drew|exact HBX.o) hb);have L9:=qj hla;have X9':=qj hx2;clear hb hla hx2 y0 y1 y3 y4
  repeat first|(refine qC fun K hK=>?_;go_simp;refine hK _ _ ?_;clear hK K)|refine qA ?_
  go_wp2;go_ret;exact⟨v,ve',us',rfl,B9.o,by first|exact L9.o|(rw[HY1.o];exact L9.o),by first|exact X9'.o|(rw[HY1.o];exact X9'.o)⟩
 ·
  refine qH [1,1,1,1,0,2,0] [0,1,2,3,4,5,6] (by kernel_rfl) ?_;simp only[qP,qD,sD,sE,sF,sG]
  repeat first|(refine qC fun K hK=>?_;go_simp;refine hK _ _ ?_;clear hK K)|(apply qJ;(intro w2 hw2;have hk1:=hw2.cell;have hk3:=hw2.heap;clear hw2;go_simp;with_reducible rfl);simp only[Act.put,sA,sB,sC])
  refine qN (fun K hK=>?_);go_simp;refine(la_write (HLX.o.below (by first|exact(Below.refl _ X).drew.drew|exact(Below.refl _ X).drew|exact Below.refl _ X)) i hi now _ l (by have h9:=HV.o _ RGX.o;first|exact h9|(rw[if_neg (by assumption)] at h9;exact h9)|(rw[hn5 rfl] at h9;exact h9)) hl3).mono ?_;rintro e X9 ⟨v,ve',us',rfl,hb,hla,hx2⟩;refine hK _ _ ?_;clear hK K;have B9:Hid (Below C.B w X9):=qj (Below.trans (by first|exact HBX.o.drew.drew|exact HBX.o.drew|exact HBX.o) hb);have L9:=qj hla;have X9':=qj hx2;clear hb hla hx2 y0 y1 y3 y4
  repeat first|(refine qC fun K hK=>?_;go_simp;refine hK _ _ ?_;clear hK K)|refine qA ?_
  go_wp2;go_ret;exact⟨v,ve',us',rfl,B9.o,by first|exact L9.o|(rw[HY1.o];exact L9.o),by first|exact X9'.o|(rw[HY1.o];exact X9'.o)⟩
end
end
section
attribute [local irreducible] xL
section
variable {w:World} {C:LC} {ve:Value} {P:Pg} {M:LM} {us:List WkV}
theorem qX.store (h:qX w C ve us P M) {w1:World} {i b:Nat} {u:WkV} {o':Wo} (hu:us[i]?=some u) (hb:mbs u.2 b) (ht:w.mapTurned w1 b) (hw:WoAt w1 C.B u o'):qX w1 C ve us P {M with ws:=M.ws.set i o'}:=
 h.turn (Kd.turned ht) (qq.kd h.cells (Kd.turned (T:=fun _=>False) ht) (fun h=>h)) h.clen (h.wks.store hu hb ht hw)
theorem la_answer (h:qX w C ve us P M) (i:Nat) (hi:i < P.threads.length) {t:Th} (ht:M.W.ths[i]?=some t) (hd:qR P i t=false) (hbg:t.begun=true) (hl:M.W.evs.length<=100000) {tm:Int} {r:MB} {s:MI} (hws:M.ws[i]?=some (some (tm,r,s))) (hcn:WoCan P r s)
  (k:Nat) (ek ex eh eo ey ev er:Int) (hk:k < P.cells.length) (hb2:∀c ∈ M.cs,-999999000<=c.val/\c.val<=999999000):
  Calls Tryz.prog 196 #[.pointer (some ⟨C.bM,0,none⟩),.int .i64 i,yv ⟨ek,ex,eh,(k:Nat),eo,ey,ev,er⟩] w (yR C P (ansStep P M i t ⟨ek,ex,eh,(k:Nat),eo,ey,ev,er⟩ tm r s) .nilFunc w):=by
 have hk4:k < 4:=by have:=h.ok.cells.2;omega
 have hn4:=h.ok.threads.2;have hkd:dI (k:Int):=dI_small (by omega) (by omega);obtain⟨gC,cc,hce⟩:=h.ceForm;obtain⟨br,bs,hu,hwo,hgW,w0,w1,w2⟩:=h.woAt hi hws;obtain⟨hgC,c,hc,c0,c1,c2⟩:=h.ceAt hce hk;have d0:=qg h.row 0;have d1:=qg h.row 1;have d2:=qg h.row 2;rw[hce] at d1;have lM:=qh h.row;have hbv:=hb2 c (List.mem_of_getElem? hc);have hat:=ceAt_of hc;have H:=qj h;have HU:=qj hu;have HC:=qj hc;have HCE:=qj hce;have HT:=qj ht;have HCN:=qj hcn;have HD:=qj (And.intro hd hbg);have HP:=qj hwo;obtain⟨Y0,hY0⟩:∃Y0:LM,Y0=ansStep P M i t ⟨ek,ex,eh,(k:Nat),eo,ey,ev,er⟩ tm r s:=⟨_,rfl⟩
 rw[←hY0];simp only[ansStep,hat] at hY0;have HY0:=qj hY0;clear hY0 h hu ht hc hcn hws hce hwo hd hbg hb2 hat;go_enter Tryz.func196,Tryz.ntmps196;go_wp2_with fail;have bA:Below w.heap.size w (w.alloc (.cells #[.int .i64 ek,.int .i64 ex,.int .i64 eh,.int .i64 (k:Nat),.int .i64 eo,.int .i64 ey,.int .i64 ev,.int .i64 er] 53)):=(Below.refl _ w).alloc (Nat.le_refl _) _;have rA:=qy w (.cells #[.int .i64 ek,.int .i64 ex,.int .i64 eh,.int .i64 (k:Nat),.int .i64 eo,.int .i64 ey,.int .i64 ev,.int .i64 er] 53);have zA:(w.alloc (.cells #[.int .i64 ek,.int .i64 ex,.int .i64 eh,.int .i64 (k:Nat),.int .i64 eo,.int .i64 ey,.int .i64 ev,.int .i64 er] 53)).heap.size=w.heap.size+1:=by simp
 generalize w.alloc (.cells #[.int .i64 ek,.int .i64 ex,.int .i64 eh,.int .i64 (k:Nat),.int .i64 eo,.int .i64 ey,.int .i64 ev,.int .i64 er] 53)=W at *;have lE:w.heap.size < W.heap.size:=by omega
 have lM':C.bM < W.heap.size:=by omega
 have lW':C.gW < W.heap.size:=by omega
 have lC':gC < W.heap.size:=by omega
 have d0:=qu bA lM d0;have d1:=qu bA lM d1;have d2:=qu bA lM d2;have w0:=qu bA hgW w0;have w1:=qu bA hgW w1;have w2:=qu bA hgW w2;have c0:=qu bA hgC c0;have c1:=qu bA hgC c1;have c2:=qu bA hgC c2;have e3:=qg rA 3;have e4:=qg rA 4;have e6:=qg rA 6;have hB:=H.o.size;have HA:=qj (bA.mono hB);have ZA:=qj zA;have HW:=qj (H.o.below bA);have HQ:=qj (HP.o.keep fun b hb=>by
  obtain⟨-,es,cl,hh⟩:=HP.o.isMap b hb;rw[qp hh bA (qh hh),hh])
 clear bA rA zA H HP;obtain⟨br',bs',hu,hbr,hbs,hne,hmr,hms,hcr,hsr,hcs,hss⟩:=HQ.o;simp only[Prod.mk.injEq,Value.map.injEq,Option.some.injEq,true_and] at hu;obtain⟨rfl,rfl⟩:=hu;have HMR:=qj hmr;have HMS:=qj hms;have HCR:=qj hcr;have HCS:=qj hcs;have HSR:=qj hsr;have HSS:=qj hss;clear hmr hms hcr hsr hcs hss;obtain⟨q,hf⟩:∃q,yZ (k:Int) s=q:=⟨_,rfl⟩
 have lk:∀X:World,X.heap[bs]?=W.heap[bs]?->(Instr.lookup 133 (.map (some bs)) (.int .i64 (k:Int)) true).run Tryz.prog X=.ok (.tuple #[.int .i64 (q.getD 0),.bool q.isSome]) X:=fun X hX=>lookOkI (HMS.o.obj hX) HCS.o.dom hkd hf;have lbs:=HMS.o.lt;refine qH [0,0,0,1,0,0,0,0,0,1,0,1,0,0,0] [0,1,2,3,4,5,6,7,8,9,10,11,12,13,14] (by kernel_rfl) ?_;simp only[qP,qD,sD,sE,sF,sG]
 repeat first|(refine qC fun K hK=>?_;go_simp;refine hK _ _ ?_;clear hK K)|(apply qJ;(intro w2 hw2;have hk1:=hw2.cell;have hk3:=hw2.heap;clear hw2;go_simp;with_reducible rfl);simp only[Act.put,sA,sB,sC])|refine qA ?_
 go_wp2_with fail;cases q with
 |some v=>
  have hv:=(HCN.o.sin (k,v) ((yu HSS.o).1 hf)).2;rw[hf] at HY0;clear hf;refine qH [0,0,0,1,0,1,1,0,0,0,0,0] [0,1,2,3,4,5,6,7,8,9,10,11] (by kernel_rfl) ?_;simp only[qP,qD,sD,sE,sF,sG]
  repeat first|(refine qC fun K hK=>?_;go_simp;refine hK _ _ ?_;clear hK K)|(apply qJ;(intro w2 hw2;have hk1:=hw2.cell;have hk3:=hw2.heap;clear hw2;go_simp;with_reducible rfl);simp only[Act.put,sA,sB,sC])
  refine wpL_r (fun K hK=>?_);refine⟨.tuple #[.int .i64 v,.bool true],fun w2 hw2=>?_,?_⟩
  ·have lk2:=lk w2 (hw2.heap bs (show W.heap[bs]?.isSome=true by rw[Array.getElem?_eq_getElem lbs];rfl))
   clear lk;go_simp
  refine hK _ _ ?_;clear hK K;simp only[Act.put,List.setIfInBounds_toArray,List.set_cons_zero,List.set_cons_succ]
  repeat first|(refine qC fun K hK=>?_;go_simp;refine hK _ _ ?_;clear hK K)|refine qA ?_
  by_cases hop:eo=2
  ·subst hop
   have qo:((2:Int)==2)=true:=rfl;have hY:=HY0.o;rw[if_pos rfl] at hY;have HY1:=qj hY;clear hY HY0;go_wp2_with fail;refine qH [0,0,0,1,0,1,0,1,2] [0,1,2,3,4,5,6,7,8] (by kernel_rfl) ?_;simp only[qP,qD,sD,sE,sF,sG]
   repeat first|(refine qC fun K hK=>?_;go_simp;refine hK _ _ ?_;clear hK K)|(apply qJ;(intro w2 hw2;have hk1:=hw2.cell;have hk3:=hw2.heap;clear hw2;go_simp;with_reducible rfl);simp only[Act.put,sA,sB,sC])
   refine qN (fun K hK=>?_);refine(HMS.o.drew.drew.drew).wp_store keyI elem_int HCS.o.dom HSS.o Tryz.underlying133 (v:=ev) (by have:=HCS.o.len HSS.o;unfold maxLen;omega) hkd rfl (by rfl) (by rfl) (by rfl) ?_;intro X6 h6 t6;refine hK _ _ ?_;clear hK K;have L6:=(HW.o.below (Below.refl _ W).drew.drew.drew).store (i:=i) HU.o (.inr rfl) t6 (o':=some (tm,r,upd (k:Int) ev s)) ⟨br,bs,rfl,hbr,hbs,hne,HMR.o.drew.drew.drew.obj (xH t6 hne),h6.tight,HCR.o,HSR.o,HCS.o.upd (by omega) (by omega),srt_upd HSS.o⟩;have B6:=qj (HA.o.drew.drew.drew.trans (Below.turned t6 hbs));have z0:=qg L6.row 0;have lz:=qh L6.row;have HL6:=qj L6;clear h6 t6 L6 d0 d1 d2 w0 w1 w2 c0 c1 c2 e3 e4 e6 lk
   repeat refine qA ?_
   go_wp2_with fail;refine(la_said HL6.o i hi HT.o 0 false (by omega) hl).mono ?_;rintro e X7 ⟨rfl,hb,ve',us',hla⟩;have B7:=qj (B6.o.trans hb);have L7:=qj hla;clear hb hla z0;go_wp2;go_ret;exact⟨rfl,B7.o,ve',us',by rw[HY1.o];exact L7.o⟩
  ·have qo:(eo==2)=false:=by simpa using hop
   have hY:=HY0.o;rw[if_neg hop] at hY;have HY1:=qj hY;clear hY HY0 hop;go_wp2_with fail;refine(la_said (HW.o.below (by first|exact(Below.refl _ W).drew.drew|exact(Below.refl _ W).drew|exact(Below.refl _ W).drew.drew.drew|exact Below.refl _ W|exact(Below.refl _ W).drew.drew.drew.drew)) i hi HT.o v false hv hl).mono ?_;rintro e X2 ⟨rfl,hb,ve',us',hla⟩;have B2:Hid (Below C.B w X2):=qj (Below.trans (by first|exact HA.o.drew.drew|exact HA.o.drew|exact HA.o.drew.drew.drew|exact HA.o) hb);have L2:=qj hla;clear hb hla d0 d1 d2 w0 w1 w2 c0 c1 c2 e3 e4 e6 lk;go_wp2;go_ret;exact⟨rfl,B2.o,ve',us',by rw[HY1.o];exact L2.o⟩
 |none=>
  rw[hf] at HY0;clear hf;refine qH [0,0,0,1,0,1,1,0,0,0,0,0] [0,1,2,3,4,5,6,7,8,9,10,11] (by kernel_rfl) ?_;simp only[qP,qD,sD,sE,sF,sG]
  repeat first|(refine qC fun K hK=>?_;go_simp;refine hK _ _ ?_;clear hK K)|(apply qJ;(intro w2 hw2;have hk1:=hw2.cell;have hk3:=hw2.heap;clear hw2;go_simp;with_reducible rfl);simp only[Act.put,sA,sB,sC])
  refine wpL_r (fun K hK=>?_);refine⟨.tuple #[.int .i64 0,.bool false],fun w2 hw2=>?_,?_⟩
  ·have lk2:=lk w2 (hw2.heap bs (show W.heap[bs]?.isSome=true by rw[Array.getElem?_eq_getElem lbs];rfl))
   clear lk;go_simp
  refine hK _ _ ?_;clear hK K;simp only[Act.put,List.setIfInBounds_toArray,List.set_cons_zero,List.set_cons_succ]
  repeat first|(refine qC fun K hK=>?_;go_simp;refine hK _ _ ?_;clear hK K)|refine qA ?_
  by_cases hop:eo=2
  ·subst hop
   have qo:((2:Int)==2)=true:=rfl;have hY:=HY0.o;rw[if_pos rfl] at hY;have HY1:=qj hY;clear hY HY0;go_wp2_with fail;refine qH [0,0,0,1,0,1,0,1,2] [0,1,2,3,4,5,6,7,8] (by kernel_rfl) ?_;simp only[qP,qD,sD,sE,sF,sG]
   repeat first|(refine qC fun K hK=>?_;go_simp;refine hK _ _ ?_;clear hK K)|(apply qJ;(intro w2 hw2;have hk1:=hw2.cell;have hk3:=hw2.heap;clear hw2;go_simp;with_reducible rfl);simp only[Act.put,sA,sB,sC])
   refine qN (fun K hK=>?_);refine(HMS.o.drew.drew.drew).wp_store keyI elem_int HCS.o.dom HSS.o Tryz.underlying133 (v:=ev) (by have:=HCS.o.len HSS.o;unfold maxLen;omega) hkd rfl (by rfl) (by rfl) (by rfl) ?_;intro X6 h6 t6;refine hK _ _ ?_;clear hK K;have L6:=(HW.o.below (Below.refl _ W).drew.drew.drew).store (i:=i) HU.o (.inr rfl) t6 (o':=some (tm,r,upd (k:Int) ev s)) ⟨br,bs,rfl,hbr,hbs,hne,HMR.o.drew.drew.drew.obj (xH t6 hne),h6.tight,HCR.o,HSR.o,HCS.o.upd (by omega) (by omega),srt_upd HSS.o⟩;have B6:=qj (HA.o.drew.drew.drew.trans (Below.turned t6 hbs));have z0:=qg L6.row 0;have lz:=qh L6.row;have HL6:=qj L6;clear h6 t6 L6 d0 d1 d2 w0 w1 w2 c0 c1 c2 e3 e4 e6 lk
   repeat refine qA ?_
   go_wp2_with fail;refine(la_said HL6.o i hi HT.o 0 false (by omega) hl).mono ?_;rintro e X7 ⟨rfl,hb,ve',us',hla⟩;have B7:=qj (B6.o.trans hb);have L7:=qj hla;clear hb hla z0;go_wp2;go_ret;exact⟨rfl,B7.o,ve',us',by rw[HY1.o];exact L7.o⟩
  ·have qo:(eo==2)=false:=by simpa using hop
   have hY:=HY0.o;rw[if_neg hop] at hY;clear HY0 hop;by_cases ho:c.own=0
   ·by_cases hv:tm < c.ver
    ·
     have qa:(c.own !=0)=false:=by simp[ho]
     have HO:=qj ho;have qc:decide (c.ver > tm)=true:=by simp;omega
     have qd:decide (tm < c.ver)=true:=by simp;omega
     have HN:=qj hv;have hst:stale tm c=true:=by simp[stale,ho,hv]
     rw[if_pos hst] at hY;have HY1:=qj hY;clear hY hst ho hv;go_wp2_with fail;refine qH [0,0,0,1,0,0,0,0,0,1,0,0,0,1,0,0,0] [0,1,2,3,4,5,6,7,8,9,10,11,12,13,14,15,16] (by kernel_rfl) ?_;simp only[qP,qD,sD,sE,sF,sG,Option.bind_some]
     repeat first|(refine qC fun K hK=>?_;go_simp;refine hK _ _ ?_;clear hK K)|(apply qJ;(intro w2 hw2;have hk1:=hw2.cell;have hk3:=hw2.heap;clear hw2;go_simp;with_reducible rfl);simp only[Act.put,sA,sB,sC])|refine qZ rfl rfl ?_|refine qA ?_
     go_wp2_with fail;refine(yP (HW.o.below (by first|exact(Below.refl _ W).drew.drew|exact(Below.refl _ W).drew|exact(Below.refl _ W).drew.drew.drew|exact Below.refl _ W|exact(Below.refl _ W).drew.drew.drew.drew)) i).mono ?_;rintro e X1 ⟨q1,q2,rfl,b1,hbx⟩;have b1:Below W.heap.size W X1:=Below.trans (by first|exact(Below.refl _ W).drew.drew|exact(Below.refl _ W).drew|exact(Below.refl _ W).drew.drew.drew|exact Below.refl _ W|exact(Below.refl _ W).drew.drew.drew.drew) b1;have HC1:=qj (la_abort1 (HW.o.below b1) i hi HT.o HD.o.1 HD.o.2 hl hbx);have B1:=qj (HA.o.trans (b1.mono HW.o.size));clear b1 hbx d0 d1 d2 w0 w1 w2 c0 c1 c2 e3 e4 e6 lk;go_wp2_with fail;refine(HC1.o).mono ?_;rintro e X2 ⟨rfl,hb,ve',us',hla⟩;have B2:=qj (B1.o.trans hb);have L2:=qj hla;clear hb hla HC1;go_wp2;go_ret;exact⟨rfl,B2.o,ve',us',by rw[HY1.o];exact L2.o⟩
    ·
     have qa:(c.own !=0)=false:=by simp[ho]
     have HO:=qj ho;have qc:decide (c.ver > tm)=false:=by simp;omega
     have qd:decide (tm < c.ver)=false:=by simp;omega
     have HN:=qj hv;have hst:stale tm c=false:=by simp[stale,ho,hv]
     rw[if_neg (by rw[hst];decide)] at hY;have HY1:=qj hY;clear hY hst ho hv;go_wp2_with fail;refine qH [0,0,0,1,0,0,0,0,0,1,0,0,0,1,0,0,0] [0,1,2,3,4,5,6,7,8,9,10,11,12,13,14,15,16] (by kernel_rfl) ?_;simp only[qP,qD,sD,sE,sF,sG,Option.bind_some]
     repeat first|(refine qC fun K hK=>?_;go_simp;refine hK _ _ ?_;clear hK K)|(apply qJ;(intro w2 hw2;have hk1:=hw2.cell;have hk3:=hw2.heap;clear hw2;go_simp;with_reducible rfl);simp only[Act.put,sA,sB,sC])|refine qZ rfl rfl ?_|refine qA ?_
     go_wp2_with fail;refine qH [0,0,0,1,0,1,2] [0,1,2,3,4,5,6] (by kernel_rfl) ?_;simp only[qP,qD,sD,sE,sF,sG]
     repeat first|(refine qC fun K hK=>?_;go_simp;refine hK _ _ ?_;clear hK K)|(apply qJ;(intro w2 hw2;have hk1:=hw2.cell;have hk3:=hw2.heap;clear hw2;go_simp;with_reducible rfl);simp only[Act.put,sA,sB,sC])
     refine qN (fun K hK=>?_);refine(HMR.o.drew.drew.drew.drew).wp_store keyI elem_bool HCR.o.dom HSR.o Tryz.underlying132 (v:=()) (by have:=HCR.o.len HSR.o;unfold maxLen;omega) hkd rfl (by rfl) (by rfl) (by rfl) ?_;intro X6 h6 t6;refine hK _ _ ?_;clear hK K;have L6:=(HW.o.below (Below.refl _ W).drew.drew.drew.drew).store (i:=i) HU.o (.inl rfl) t6 (o':=some (tm,upd (k:Int) () r,s)) ⟨br,bs,rfl,hbr,hbs,hne,h6.tight,HMS.o.drew.drew.drew.drew.obj (xH t6 (Ne.symm hne)),HCR.o.upd (by omega) (by omega),srt_upd HSR.o,HCS.o,HSS.o⟩;have B6:=qj (HA.o.drew.drew.drew.drew.trans (Below.turned t6 hbr));have z0:=qg L6.row 0;have lz:=qh L6.row;have kt:=Kd.turned (T:=fun _=>False) t6;obtain⟨csr,hrC⟩:=(HW.o.below (Below.refl _ W).drew.drew.drew.drew).ceRow HCE.o;have hrC':=kt _ _ _ _ hrC (fun h=>h);have zc:X6.cell? ⟨gC,k*3,none⟩=some (.int .i64 c.val):=by
      obtain⟨-,c',hc',g0,-⟩:=L6.ceAt HCE.o hk;have hc':M.cs[k]?=some c':=hc';rw[HC.o] at hc';obtain rfl:=Option.some.inj hc';exact g0
     have lzc:=qh hrC';have HL6:=qj L6;clear h6 t6 L6 hrC hrC' kt d0 d1 d2 w0 w1 w2 c0 c1 c2 e3 e4 e6 lk
     repeat refine qA ?_
     go_wp2_with fail;refine qH [0,0,0,1,0,0,0,0,1,2] [0,1,2,3,4,5,6,7,8,9] (by kernel_rfl) ?_;simp only[qP,qD,sD,sE,sF,sG]
     repeat first|(refine qC fun K hK=>?_;go_simp;refine hK _ _ ?_;clear hK K)|(apply qJ;(intro w2 hw2;have hk1:=hw2.cell;have hk3:=hw2.heap;clear hw2;go_simp;with_reducible rfl);simp only[Act.put,sA,sB,sC])
     refine qN (fun K hK=>?_);go_simp;refine(la_said (HL6.o.below (Below.refl _ X6).drew) i hi HT.o c.val false hbv hl).mono ?_;rintro e X7 ⟨rfl,hb,ve',us',hla⟩;refine hK _ _ ?_;clear hK K;have B7:=qj (B6.o.drew.trans hb);have L7:=qj hla;clear hb hla z0 zc
     repeat refine qA ?_
     go_wp2;go_ret;exact⟨rfl,B7.o,ve',us',by rw[HY1.o];exact L7.o⟩
   ·
    have qa:(c.own !=0)=true:=by simp[ho]
    have HO:=qj ho;have hst:stale tm c=true:=by simp[stale,ho]
    rw[if_pos hst] at hY;have HY1:=qj hY;clear hY hst ho;go_wp2_with fail;refine qH [0,0,0,1,0,0,0,0,0,1,0,0,0,1,0,0,0] [0,1,2,3,4,5,6,7,8,9,10,11,12,13,14,15,16] (by kernel_rfl) ?_;simp only[qP,qD,sD,sE,sF,sG,Option.bind_some]
    repeat first|(refine qC fun K hK=>?_;go_simp;refine hK _ _ ?_;clear hK K)|(apply qJ;(intro w2 hw2;have hk1:=hw2.cell;have hk3:=hw2.heap;clear hw2;go_simp;with_reducible rfl);simp only[Act.put,sA,sB,sC])|(refine xX rfl rfl fun K hK=>?_;simp only[Act.put,sA,sB,sC];refine hK _ _ ?_;clear hK K)|refine qA ?_
    go_wp2_with fail;refine(yP (HW.o.below (by first|exact(Below.refl _ W).drew.drew|exact(Below.refl _ W).drew|exact(Below.refl _ W).drew.drew.drew|exact Below.refl _ W|exact(Below.refl _ W).drew.drew.drew.drew)) i).mono ?_;rintro e X1 ⟨q1,q2,rfl,b1,hbx⟩;have b1:Below W.heap.size W X1:=Below.trans (by first|exact(Below.refl _ W).drew.drew|exact(Below.refl _ W).drew|exact(Below.refl _ W).drew.drew.drew|exact Below.refl _ W|exact(Below.refl _ W).drew.drew.drew.drew) b1;have HC1:=qj (la_abort1 (HW.o.below b1) i hi HT.o HD.o.1 HD.o.2 hl hbx);have B1:=qj (HA.o.trans (b1.mono HW.o.size));clear b1 hbx d0 d1 d2 w0 w1 w2 c0 c1 c2 e3 e4 e6 lk;go_wp2_with fail;refine(HC1.o).mono ?_;rintro e X2 ⟨rfl,hb,ve',us',hla⟩;have B2:=qj (B1.o.trans hb);have L2:=qj hla;clear hb hla HC1;go_wp2;go_ret;exact⟨rfl,B2.o,ve',us',by rw[HY1.o];exact L2.o⟩
end
end
