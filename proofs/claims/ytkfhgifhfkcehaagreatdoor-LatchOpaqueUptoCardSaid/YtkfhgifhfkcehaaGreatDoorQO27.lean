/- Parts of the proof; the first: The engine latch: it answers. Conditions: those of each theorem, as typed. -/
import Derived.Test.YtkfhgifhfkcehaaGreatDoorQO26
import Derived.Test.YtkfhgifhfkcehaaGreatDoorQO17
import Derived.Test.YtkfhgifhfkcehaaGreatDoorQO10
import Derived.Test.YtkfhgifhfkcehaaGreatDoorQO18
set_option linter.unusedVariables false
set_option linter.unusedSimpArgs false
set_option linter.unusedSectionVars false
set_option maxRecDepth 100000
set_option maxHeartbeats 4000000
namespace Go.Proofs.YtkfhgifhfkcehaaGreatDoor
open Go.Maps Go.RowKit
section
attribute [local irreducible] xF
section
variable {w:World} {C:LC} {ve:Value} {P:Pg} {M:LM} {us:List (Value×Value)}
def AnsMid (C:LC) (P:Pg) (w W:World) (i k:Nat) (t:Th) (ek ex eh eo ey ev er:Int) (br bs gC cc:Nat):Exit->Act->World->Prop:=fun e a' X=>
 ∃b7:Nat,e=.normal/\a'={tmps:=#[.pointer (some ⟨C.bM,0,none⟩),.int .i64 i,yp ⟨ek,ex,eh,(k:Nat),eo,ey,ev,er⟩,undef,undef,.pointer (some ⟨w.heap.size,0,none⟩),.nilFunc,.pointer (some ⟨b7,0,none⟩),.pointer (some ⟨gC,k*2,none⟩),.int .i64 (qE i t.tx),undef,undef,.pointer (some ⟨C.bM,0,none⟩),.pointer (some ⟨C.bM,0,none⟩),.pointer (some ⟨C.bM,2,none⟩),.slice (some ⟨C.gW,0,none⟩) P.threads.length P.threads.length,.int .i64 i,.pointer (some ⟨C.gW,i*2,none⟩),.agg #[.map (some br),.map (some bs)],.pointer (some ⟨C.bM,0,none⟩),.pointer (some ⟨C.bM,0,none⟩),.pointer (some ⟨C.bM,1,none⟩),.slice (some ⟨gC,0,none⟩) P.cells.length cc,.pointer (some ⟨w.heap.size,3,none⟩),.int .i64 (k:Nat),.pointer (some ⟨gC,k*2,none⟩),.pointer (some ⟨C.bM,0,none⟩),.pointer (some ⟨C.bM,0,none⟩),.pointer (some ⟨C.bM,0,none⟩),.pointer (some ⟨C.bD,0,none⟩),.int .i64 i,.int .i64 (qE i t.tx),undef,undef,undef,undef,undef,undef,undef,undef,undef,undef,undef,undef,undef,undef,undef,undef,undef,undef,undef,undef,undef,undef,undef,undef,undef,undef,undef,undef,undef,undef,undef,undef,undef,undef,undef,undef,undef,undef,undef,undef,undef,undef,undef,undef,undef,undef,undef,undef,undef,undef,undef,undef,undef,undef,undef,undef,undef,undef,undef,undef,undef],defers:=[]}/\X.heap[b7]?=some (.cells #[.map (some br),.map (some bs)] 135 (0,0))/\Below W.heap.size W X
theorem qV.store (h:qV w C ve us P M) {w1:World} {i b:Nat} {u:Value×Value} {o':Wo} (hu:us[i]?=some u) (hb:mbs u b) (ht:w.mapTurned w1 b) (hw:WoAt w1 C.B u o'):qV w1 C ve us P {M with ws:=M.ws.set i o'}:=
 h.turn (Kd.turned ht) (qp.kd h.cells (Kd.turned (T:=fun _=>False) ht) (fun h=>h)) h.clen (h.wks.store hu hb ht hw)
theorem ceAt_of {cs:List Ce} {k:Nat} {c:Ce} (h:cs[k]?=some c):ceAt cs (k:Int)=c:=by simp[ceAt,h]
theorem la_answer (h:qV w C ve us P M) (i:Nat) (hi:i < P.threads.length) {t:Th} (ht:M.W.ths[i]?=some t) (hd:qP P i t=false) (hbg:t.begun=true) (hl:M.W.evs.length<=100000) {r:MB} {s:MI} (hws:M.ws[i]?=some (some (r,s))) (hcn:WoCan P r s)
  (k:Nat) (ek ex eh eo ey ev er:Int) (hk:k < P.cells.length) (hev:-999999000<=ev/\ev<=999999000) (hb2:∀c ∈ M.cs,-999999000<=c.val/\c.val<=999999000):
  Calls Tryz.prog 65 #[.pointer (some ⟨C.bM,0,none⟩),.int .i64 i,yp ⟨ek,ex,eh,(k:Nat),eo,ey,ev,er⟩] w (yS C P (ansStep P M i t ⟨ek,ex,eh,(k:Nat),eo,ey,ev,er⟩ r s) .nilFunc w):=by
 have hk4:k < 4:=by have:=h.ok.cells.2;omega
 have hn4:=h.ok.threads.2;have hkd:dI (k:Int):=dI_small (by omega) (by omega);obtain⟨gC,cc,hce⟩:=h.ceForm;obtain⟨br,bs,hu,hwo,hgW,w0,w1⟩:=h.woAt hi hws;obtain⟨hgC,c,hc,c0,c1⟩:=h.ceAt hce hk;have d0:=qd h.row 0;have d1:=qd h.row 1;have d2:=qd h.row 2;rw[hce] at d1;have lM:=qg h.row;have hbv:=hb2 c (List.mem_of_getElem? hc);have hat:=ceAt_of hc;have H:=qh h;have HU:=qh hu;have HT:=qh ht;have HC:=qh hc;have HCN:=qh hcn;have HWS:=qh hws;have HCE:=qh hce;have lkd:=qh hkd;have HAT:=qh hat;have HD:=qh (And.intro hd hbg);have HP:=qh hwo;have hst:ansStep P M i t ⟨ek,ex,eh,(k:Nat),eo,ey,ev,er⟩ r s=if taken i t c=true then abortStep P M i t r s else if eo=2 then {M with W:=M.W.putO i (yG P i t ev false),cs:=M.cs.set k ⟨ev,qE i t.tx⟩,ws:=M.ws.set i (some (upd (k:Int) () r,if (yz (k:Int) s).isSome then s else upd (k:Int) c.val s))} else {M with W:=M.W.putO i (yG P i t c.val false),cs:=M.cs.set k ⟨c.val,qE i t.tx⟩,ws:=M.ws.set i (some (upd (k:Int) () r,s))}:=by
  unfold ansStep;simp only[hat,Int.toNat_natCast]
 obtain⟨Y0,hY0⟩:∃Y0:LM,Y0=ansStep P M i t ⟨ek,ex,eh,(k:Nat),eo,ey,ev,er⟩ r s:=⟨_,rfl⟩
 rw[←hY0];rw[hst] at hY0;have HY0:=qh hY0;clear hY0 h hu ht hc hcn hws hce hwo hst hd hbg hb2 hat;go_enter Tryz.func65,Tryz.ntmps65;go_wp2_with fail;have bA:Below w.heap.size w (w.alloc (.cells #[.int .i64 ek,.int .i64 ex,.int .i64 eh,.int .i64 (k:Nat),.int .i64 eo,.int .i64 ey,.int .i64 ev,.int .i64 er] 53)):=(Below.refl _ w).alloc (Nat.le_refl _) _;have rA:=qu w (.cells #[.int .i64 ek,.int .i64 ex,.int .i64 eh,.int .i64 (k:Nat),.int .i64 eo,.int .i64 ey,.int .i64 ev,.int .i64 er] 53);have zA:(w.alloc (.cells #[.int .i64 ek,.int .i64 ex,.int .i64 eh,.int .i64 (k:Nat),.int .i64 eo,.int .i64 ey,.int .i64 ev,.int .i64 er] 53)).heap.size=w.heap.size+1:=by simp
 generalize w.alloc (.cells #[.int .i64 ek,.int .i64 ex,.int .i64 eh,.int .i64 (k:Nat),.int .i64 eo,.int .i64 ey,.int .i64 ev,.int .i64 er] 53)=W at *;have lE:w.heap.size < W.heap.size:=by omega
 have lM':C.bM < W.heap.size:=by omega
 have lW':C.gW < W.heap.size:=by omega
 have lC':gC < W.heap.size:=by omega
 have d0:=qx bA lM d0;have d1:=qx bA lM d1;have d2:=qx bA lM d2;have w0:=qx bA hgW w0;have w1:=qx bA hgW w1;have e3:=qd rA 3;have HA:=qh bA;have RA:=qh rA;have ZA:=qh zA;have HW:=qh (H.o.below bA);clear bA rA zA;refine wp_mono (Q:=AnsMid C P w W i k t ek ex eh eo ey ev er br bs gC cc) ?_ ?_
 ·
  refine qQ (W.heap.size) [0,0,0,1,0,0,1,0,0,0,1,0,1,0,0,0,0,1,0,3,3,3,0,0] (.frk [0,1,2,3,4,5,6,7,8,9,10,11,12,13,14,15,16,17,18] (.fin [19,20,21,22,23]) (.fin [20,19,21,22,23])) (by kernel_rfl) ?_;simp only[yn,qO,qD,sD,sE,sF,sG]
  repeat first|(refine qB fun K hK=>?_;go_simp;refine hK _ _ ?_;clear hK K)|(apply qI;(intro w2 hw2;have hk1:=hw2.cell;have hk3:=hw2.1;clear hw2;go_simp;with_reducible rfl);simp only[Act.put,sA,sB,sC])|refine qy ?_
  refine⟨?_,?_⟩
  ·refine qG (fun K hK=>?_)
   go_simp;refine(la_tx (HW.o.below (Below.refl _ W).drew) i hi HT.o HD.o.1 HD.o.2).mono ?_;rintro e X1 ⟨rfl,b1⟩;have b1:Below W.heap.size W X1:=(Below.refl _ W).drew.trans b1;refine hK _ _ (RN.KeepsN.of_below (show Below W.heap.size W.drew X1 from ‹Below W.drew.heap.size W.drew X1›)) ?_;clear hK K;have z1:=b1.size;refine qG (fun K hK=>?_);go_simp;refine hK _ _ (RN.KeepsN.alloc _ _ z1) ?_;clear hK K;refine qG (fun K hK=>?_);go_simp;refine hK _ _ (KeepsN.both (W:=X1) (RN.KeepsN.alloc _ _ z1) (RN.KeepsN.alloc _ _ z1) (by simp)) ?_;clear hK K
   repeat first|(refine qB fun K hK=>?_;go_simp;refine hK _ _ ?_;clear hK K)|refine qy ?_
   exact⟨X1.heap.size,rfl,rfl,qu X1 _,b1.alloc z1 _⟩
  ·refine qG (fun K hK=>?_)
   go_simp;refine hK _ _ (RN.KeepsN.alloc _ _ (by first|omega|exact Nat.le_refl _)) ?_;clear hK K;refine qG (fun K hK=>?_);go_simp;have b0:Below W.heap.size W (W.drew.alloc (.cells #[.map none,.map none] 135)):=(Below.refl W.heap.size W).drew.alloc (Nat.le_refl _) _;refine(la_tx (HW.o.below b0) i hi HT.o HD.o.1 HD.o.2).mono ?_;rintro e X1 ⟨rfl,b1⟩;have z0:W.heap.size<=(W.drew.alloc (.cells #[.map none,.map none] 135)).heap.size:=b0.size;refine hK _ _ (RN.KeepsN.of_below (b1.mono z0)) ?_;clear hK K;have RZ:=qj (qL (w:=W.drew) (o:=.cells #[.map none,.map none] 135) (g:=W.heap.size) rfl) b1 (by simp);have b1:Below W.heap.size W X1:=b0.trans (b1.mono z0);have z1:=b1.size;have lz:=qg RZ;have yf:∀j,X1.frozen? ⟨W.heap.size,j,none⟩=false:=fun j=>qq RZ j;have y0:X1.cell? ⟨W.heap.size,0,none⟩=some (.map none):=qd RZ 0;have y1:X1.cell? ⟨W.heap.size,1,none⟩=some (.map none):=qd RZ 1;refine qG (fun K hK=>?_);go_simp;have b2:=(b1.setCell (p:=⟨W.heap.size,0,none⟩) (Nat.le_refl _) (.map (some br))).setCell (p:=⟨W.heap.size,1,none⟩) (Nat.le_refl _) (.map (some bs));have b3:=((Below.refl W.heap.size X1).setCell (p:=⟨W.heap.size,0,none⟩) (Nat.le_refl _) (.map (some br))).setCell (p:=⟨W.heap.size,1,none⟩) (Nat.le_refl _) (.map (some bs));have r2:=row2 (u1:=.map (some br)) (u2:=.map (some bs)) RZ;refine hK _ _ (RN.KeepsN.of_below b3) ?_;clear hK K
   repeat first|(refine qB fun K hK=>?_;go_simp;refine hK _ _ ?_;clear hK K)|refine qy ?_
   exact⟨W.heap.size,rfl,rfl,r2,b2⟩
 ·rintro e a' X ⟨b7,rfl,rfl,r7,bX⟩
  have hE:=qx bX lE e3;have e4:=qx bX lE (qd RA.o 4);have e6:=qx bX lE (qd RA.o 6);have lEX:w.heap.size < X.heap.size:=by have:=bX.size;omega
  have x70:=qd r7 0;have x71:=qd r7 1;have l7:=qg r7;have HX:=qh (HW.o.below bX);have hB:=H.o.size;have HY:=qh ((HA.o.trans (bX.mono (by have:=ZA.o;omega))).mono hB);have hb0:=HA.o.trans (bX.mono (by have:=ZA.o;omega));have HQ:=qh (HP.o.keep fun b hb=>by
   obtain⟨-,es,cl,hh⟩:=HP.o.isMap b hb;rw[qj hh hb0 (qg hh),hh])
  have R7:=qh r7;have RE:=qh (qj RA.o bX lE);have hg0:gC < X.heap.size:=by have:=bX.size;omega
  have y0:X.cell? ⟨gC,k*2,none⟩=some (.int .i64 c.val):=qx hb0 hgC c0;have y1:X.cell? ⟨gC,k*2+1,none⟩=some (.int .i64 c.own):=qx hb0 hgC c1;clear r7 bX d0 d1 d2 w0 w1 c0 c1 e3 HA H HP RA HW hb0;obtain⟨br',bs',hu,hbr,hbs,hne,hmr,hms,hcr,hsr,hcs,hss⟩:=HQ.o;simp only[Prod.mk.injEq,Value.map.injEq,Option.some.injEq] at hu;obtain⟨rfl,rfl⟩:=hu;have HMR:=qh hmr;have HMS:=qh hms;have HCR:=qh hcr;have HCS:=qh hcs;have HSR:=qh hsr;have HSS:=qh hss;clear hmr hms hcr hsr hcs hss;cases htk:taken i t c with
  |true=>
   obtain⟨q1,q2⟩:(c.own !=0)=true/\(c.own !=qE i t.tx)=true:=by simpa[taken,bne] using htk
   have hY:=HY0.o;rw[if_pos htk] at hY;go_wp2_with fail;refine(la_mkAbort _ _ _).mono ?_;rintro e X1 ⟨rfl,hX1⟩;have b1:Below X.heap.size X X1:=by rw[hX1];exact((Below.refl _ X).alloc (Nat.le_refl _) _).alloc (by simp) _
   have hbx:BxM X1 C i X.heap.size (X.heap.size+1):=by
    have:=HX.o.size;rw[hX1];exact⟨qF (qu X _),qL (by simp),this,by omega⟩
   have HC1:=qh (la_abort1 (HX.o.below b1) i hi HT.o hl HWS.o HCN.o hbx);have B1:=qh (HY.o.trans (b1.mono HX.o.size));clear hX1 b1 hbx;go_wp2_with fail;refine(HC1.o).mono ?_;rintro e X2 ⟨rfl,hb,ve',us',hla⟩;have B2:=qh (B1.o.trans hb);have L2:=qh hla;clear hb hla HC1;go_wp2;go_ret;exact⟨rfl,B2.o,ve',us',by rw[hY];exact L2.o⟩
  |false=>
   have hq:(c.own !=0&&c.own !=qE i t.tx)=false:=by simpa[taken,bne] using htk
   have hY:=HY0.o;rw[if_neg (by rw[htk];decide)] at hY;have HY1:=qh hY;clear hY HY0;have HQ2:=qh hq;obtain⟨csr,hrC⟩:=HX.o.ceRow HCE.o;have ff1:=qq hrC (k*2+1);obtain⟨L4,hBC,kd1,km1,ro⟩:=HX.o.ceSet HCE.o (k:=k) (j:=1) (c:=c) (u:=⟨c.val,qE i t.tx⟩) (a:=.int .i64 (qE i t.tx)) HC.o (by decide) rfl;have b4:Below C.B w (X.setCell ⟨gC,k*2+1,none⟩ (.int .i64 (qE i t.tx))):=HY.o.setCell (p:=⟨gC,k*2+1,none⟩) hBC _;have mr4:=HMR.o.obj (by
    obtain⟨es,cl,hm,-⟩:=HMR.o;rw[km1 _ _ _ hm,hm])
   have ms4:=HMS.o.obj (by
    obtain⟨es,cl,hm,-⟩:=HMS.o;rw[km1 _ _ _ hm,hm])
   have r74:=kd1 _ _ _ _ R7.o (by decide);have re4:=kd1 _ _ _ _ RE.o (by decide);have rC4:=qA hrC (k*2+1) (.int .i64 (qE i t.tx));have y0v:(X.setCell ⟨gC,k*2+1,none⟩ (.int .i64 (qE i t.tx))).cell? ⟨gC,k*2,none⟩=some (.int .i64 c.val):=by
    obtain⟨-,c',hc',g0,-⟩:=L4.ceAt HCE.o hk;rw[List.getElem?_set_self (by have:=(List.getElem?_eq_some_iff.1 HC.o).1;exact this)] at hc';obtain rfl:=Option.some.inj hc';exact g0
   have x70':=qd r74 0;have x71':=qd r74 1;have f3:=qd re4 3;have f4:=qd re4 4;have f6:=qd re4 6;have l7':=qg r74;have lE':=qg re4;have HL4:=qh L4;have HB4:=qh b4;have MR4:=qh mr4;have MS4:=qh ms4;have R74:=qh r74;have RE4:=qh re4;have RC4:=qh rC4;clear L4 kd1 km1 ro hrC b4 mr4 ms4 r74 re4 rC4;have hq2:c.own=0\/(c.own≠0/\c.own=qE i t.tx):=by
    by_cases h0:c.own=0
    ·exact .inl h0
    ·refine .inr ⟨h0,?_⟩
     simp[h0] at hq;exact hq
   clear hq;rcases hq2 with h0|⟨h0,h1⟩
   ·have qa:(c.own !=0)=false:=by simp[h0]
    have H0:=qh h0;clear h0;go_wp2_with (at_mapUpdate;refine qW.halt ?_)
    refine qW.go ?_;generalize X.setCell ⟨gC,k*2+1,none⟩ (.int .i64 (qE i t.tx))=X4 at *;refine MR4.o.wpList_store keyI elem_bool HCR.o.dom HSR.o Tryz.underlying132 (v:=()) (by have:=HCR.o.len HSR.o;unfold maxLen;omega) hkd rfl rfl (by rfl) (by rfl) (by rfl) ?_;intro X5 h5 t5;have L5:=HL4.o.store (i:=i) HU.o (.inl rfl) t5 (o':=some (upd (k:Int) () r,s)) ⟨br,bs,rfl,hbr,hbs,hne,h5.tight,MS4.o.obj (xb t5 (Ne.symm hne)),HCR.o.upd (by omega) (by omega),yQ HSR.o,HCS.o,HSS.o⟩;have ms5:=MS4.o.obj (xb t5 (Ne.symm hne));have B5:=qh (HB4.o.trans (Below.turned t5 hbr));have kt:=Kd.turned (T:=fun _=>False) t5;have r75:=kt _ _ _ _ R74.o (fun h=>h);have re5:=kt _ _ _ _ RE4.o (fun h=>h);have HMR5:=qh h5;have x70:=qd r75 0;have x71:=qd r75 1;have f3:=qd re5 3;have f4:=qd re5 4;have f6:=qd re5 6;have l7:=qg r75;have lE:=qg re5;have HL5:=qh L5;have MS5:=qh ms5;have R75:=qh r75;have RE5:=qh re5;clear h5 t5 L5 ms5 kt r75 re5 x70' x71' l7' lE' y0 y1 y0v hE e4 e6;by_cases hop:eo=2
    ·subst hop
     have qo:((2:Int)==2)=true:=rfl;cases hf:yz (k:Int) s with
     |some v=>
      have lk:=lookOkI MS5.o HCS.o.dom hkd hf;have HF:=qh (show(yz (k:Int) s).isSome=true from by rw[hf];rfl);clear hf;have hg6:=((HL5.o).cells.lt gC (by rw[HCE.o];rfl)).2;obtain⟨csz,hrz⟩:=HL5.o.ceRow HCE.o;have ffz:=qq hrz (k*2);obtain⟨-,cz,-,gz0,-⟩:=HL5.o.ceAt HCE.o hk;obtain⟨L6,hBC6,kd6,km6,ro6⟩:=HL5.o.ceSet HCE.o (k:=k) (j:=0) (c:=⟨c.val,qE i t.tx⟩) (u:=⟨ev,qE i t.tx⟩) (a:=.int .i64 ev) (by show(M.cs.set k _)[k]?=_;rw[List.getElem?_set_self (List.getElem?_eq_some_iff.1 HC.o).1]) (by decide) rfl;simp only[Nat.add_zero] at L6;have b6:=B5.o.setCell (p:=⟨gC,k*2,none⟩) hBC6 (.int .i64 ev);obtain⟨hg7,c',hc',g0,g1⟩:=L6.ceAt HCE.o hk;have hc':((M.cs.set k ⟨c.val,qE i t.tx⟩).set k ⟨ev,qE i t.tx⟩)[k]?=some c':=hc';rw[List.set_set,List.getElem?_set_self (List.getElem?_eq_some_iff.1 HC.o).1] at hc';obtain rfl:=Option.some.inj hc';have z0:=qd L6.row 0;have lm6:=qg L6.row;have HL6:=qh L6;have HB6:=qh b6;clear L6 kd6 km6 ro6 hrz b6 g1;go_wp2_with fail;refine qM [0,0,0,1,0,0,0,0,1,2] [0,1,2,3,4,5,6,7,8,9] (by kernel_rfl) ?_;simp only[qO,qD,sD,sE,sF,sG]
      repeat first|(refine qB fun K hK=>?_;go_simp;refine hK _ _ ?_;clear hK K)|(apply qI;(intro w2 hw2;have hk1:=hw2.cell;have hk3:=hw2.heap;clear hw2;go_simp;with_reducible rfl);simp only[Act.put,sA,sB,sC])
      refine qK (fun K hK=>?_);go_simp;refine(la_said (HL6.o.below (Below.refl _ _).drew) i hi HT.o ev false hev hl).mono ?_;rintro e X7 ⟨rfl,hb,ve',us',hla⟩;refine hK _ _ ?_;clear hK K;have B7:=qh (HB6.o.drew.trans hb);have L7:=qh hla;clear hb hla g0 z0 ffz gz0
      repeat refine qy ?_
      go_wp2;go_ret;refine⟨rfl,B7.o,ve',us',?_⟩;rw[HY1.o];(first|rw[if_pos trivial]|rw[if_pos rfl]);rw[HF.o];have h9:=L7.o;simp only[List.set_set] at h9
      first|exact h9|(simp only[Bool.false_eq_true,if_false];exact h9)
     |none=>
      have lk:=lookOkI MS5.o HCS.o.dom hkd hf;have HF:=qh (show(yz (k:Int) s).isSome=false from by rw[hf];rfl);clear hf;obtain⟨hg7,c',hc',g0,g1⟩:=HL5.o.ceAt HCE.o hk;have hc':(M.cs.set k ⟨c.val,qE i t.tx⟩)[k]?=some c':=hc';rw[List.getElem?_set_self (List.getElem?_eq_some_iff.1 HC.o).1] at hc';obtain rfl:=Option.some.inj hc';go_wp2_with fail;refine qM [0,1,0,1,0,0,0,1,2] [0,1,2,3,4,5,6,7,8] (by kernel_rfl) ?_;simp only[qO,qD,sD,sE,sF,sG]
      repeat first|(refine qB fun K hK=>?_;go_simp;refine hK _ _ ?_;clear hK K)|(apply qI;(intro w2 hw2;have hk1:=hw2.cell;have hk3:=hw2.heap;clear hw2;go_simp;with_reducible rfl);simp only[Act.put,sA,sB,sC])
      refine qK (fun K hK=>?_);refine(MS5.o.drew).wp_store keyI elem_int HCS.o.dom HSS.o Tryz.underlying133 (v:=c.val) (by have:=HCS.o.len HSS.o;unfold maxLen;omega) hkd rfl (by rfl) (by rfl) (by rfl) ?_;intro X6 h6 t6;refine hK _ _ ?_;clear hK K;have L6:=(HL5.o.below (Below.refl _ _).drew).store (i:=i) HU.o (.inr rfl) t6 (o':=some (upd (k:Int) () r,upd (k:Int) c.val s)) ⟨br,bs,rfl,hbr,hbs,hne,(xg.tight HMR5.o).drew.obj (xb t6 hne),h6.tight,HCR.o.upd (by omega) (by omega),yQ HSR.o,HCS.o.upd (by omega) (by omega),yQ HSS.o⟩;have B6:=qh (B5.o.drew.trans (Below.turned t6 hbs));have kt:=Kd.turned (T:=fun _=>False) t6;have r76:=kt _ _ _ _ R75.o (fun h=>h);have re6:=kt _ _ _ _ RE5.o (fun h=>h);have f6:=qd re6 6;have lE:=qg re6;have HL6:=qh L6;clear h6 t6 L6 kt r76 re6 x70 x71 f3 f4 lk g0 g1 hg7 l7
      repeat refine qy ?_
      have hg6:=((HL6.o).cells.lt gC (by rw[HCE.o];rfl)).2;obtain⟨csz,hrz⟩:=HL6.o.ceRow HCE.o;have ffz:=qq hrz (k*2);obtain⟨-,cz,-,gz0,-⟩:=HL6.o.ceAt HCE.o hk;obtain⟨L6,hBC6,kd6,km6,ro6⟩:=HL6.o.ceSet HCE.o (k:=k) (j:=0) (c:=⟨c.val,qE i t.tx⟩) (u:=⟨ev,qE i t.tx⟩) (a:=.int .i64 ev) (by show(M.cs.set k _)[k]?=_;rw[List.getElem?_set_self (List.getElem?_eq_some_iff.1 HC.o).1]) (by decide) rfl;simp only[Nat.add_zero] at L6;have b6:=B6.o.setCell (p:=⟨gC,k*2,none⟩) hBC6 (.int .i64 ev);obtain⟨hg7,c',hc',g0,g1⟩:=L6.ceAt HCE.o hk;have hc':((M.cs.set k ⟨c.val,qE i t.tx⟩).set k ⟨ev,qE i t.tx⟩)[k]?=some c':=hc';rw[List.set_set,List.getElem?_set_self (List.getElem?_eq_some_iff.1 HC.o).1] at hc';obtain rfl:=Option.some.inj hc';have z0:=qd L6.row 0;have lm6:=qg L6.row;have HLx:=qh L6;have HBx:=qh b6;clear L6 kd6 km6 ro6 hrz b6 g1;go_wp2_with fail;refine qM [0,0,0,1,0,0,0,0,1,2] [0,1,2,3,4,5,6,7,8,9] (by kernel_rfl) ?_;simp only[qO,qD,sD,sE,sF,sG]
      repeat first|(refine qB fun K hK=>?_;go_simp;refine hK _ _ ?_;clear hK K)|(apply qI;(intro w2 hw2;have hk1:=hw2.cell;have hk3:=hw2.heap;clear hw2;go_simp;with_reducible rfl);simp only[Act.put,sA,sB,sC])
      refine qK (fun K hK=>?_);go_simp;refine(la_said (HLx.o.below (Below.refl _ _).drew) i hi HT.o ev false hev hl).mono ?_;rintro e X7 ⟨rfl,hb,ve',us',hla⟩;refine hK _ _ ?_;clear hK K;have B7:=qh (HBx.o.drew.trans hb);have L7:=qh hla;clear hb hla g0 z0 ffz gz0
      repeat refine qy ?_
      go_wp2;go_ret;refine⟨rfl,B7.o,ve',us',?_⟩;rw[HY1.o];(first|rw[if_pos trivial]|rw[if_pos rfl]);rw[HF.o];have h9:=L7.o;simp only[List.set_set] at h9
      first|exact h9|(simp only[Bool.false_eq_true,if_false];exact h9)
    ·have qo:(eo==2)=false:=by simpa using hop
     obtain⟨hg7,c',hc',g0,g1⟩:=HL5.o.ceAt HCE.o hk;have hc':(M.cs.set k ⟨c.val,qE i t.tx⟩)[k]?=some c':=hc';rw[List.getElem?_set_self (List.getElem?_eq_some_iff.1 HC.o).1] at hc';obtain rfl:=Option.some.inj hc';have z0:=qd HL5.o.row 0;have lm6:=qg HL5.o.row;go_wp2_with fail;refine qM [0,0,0,1,0,0,0,0,1,2] [0,1,2,3,4,5,6,7,8,9] (by kernel_rfl) ?_;simp only[qO,qD,sD,sE,sF,sG]
     repeat first|(refine qB fun K hK=>?_;go_simp;refine hK _ _ ?_;clear hK K)|(apply qI;(intro w2 hw2;have hk1:=hw2.cell;have hk3:=hw2.heap;clear hw2;go_simp;with_reducible rfl);simp only[Act.put,sA,sB,sC])
     refine qK (fun K hK=>?_);go_simp;refine(la_said (HL5.o.below (Below.refl _ _).drew) i hi HT.o c.val false hbv hl).mono ?_;rintro e X7 ⟨rfl,hb,ve',us',hla⟩;refine hK _ _ ?_;clear hK K;have B7:=qh (B5.o.drew.trans hb);have L7:=qh hla;clear hb hla g0 z0
     repeat refine qy ?_
     go_wp2;go_ret;refine⟨rfl,B7.o,ve',us',?_⟩;rw[HY1.o,if_neg hop];exact L7.o
   ·have qa:(c.own !=0)=true:=by simp[h0]
    have qb:(c.own !=qE i t.tx)=false:=by simp[h1]
    have H0:=qh (And.intro h0 h1);clear h0 h1;go_wp2_with (at_mapUpdate;refine qW.halt ?_)
    refine qW.go ?_;generalize X.setCell ⟨gC,k*2+1,none⟩ (.int .i64 (qE i t.tx))=X4 at *;refine MR4.o.wpList_store keyI elem_bool HCR.o.dom HSR.o Tryz.underlying132 (v:=()) (by have:=HCR.o.len HSR.o;unfold maxLen;omega) hkd rfl rfl (by rfl) (by rfl) (by rfl) ?_;intro X5 h5 t5;have L5:=HL4.o.store (i:=i) HU.o (.inl rfl) t5 (o':=some (upd (k:Int) () r,s)) ⟨br,bs,rfl,hbr,hbs,hne,h5.tight,MS4.o.obj (xb t5 (Ne.symm hne)),HCR.o.upd (by omega) (by omega),yQ HSR.o,HCS.o,HSS.o⟩;have ms5:=MS4.o.obj (xb t5 (Ne.symm hne));have B5:=qh (HB4.o.trans (Below.turned t5 hbr));have kt:=Kd.turned (T:=fun _=>False) t5;have r75:=kt _ _ _ _ R74.o (fun h=>h);have re5:=kt _ _ _ _ RE4.o (fun h=>h);have HMR5:=qh h5;have x70:=qd r75 0;have x71:=qd r75 1;have f3:=qd re5 3;have f4:=qd re5 4;have f6:=qd re5 6;have l7:=qg r75;have lE:=qg re5;have HL5:=qh L5;have MS5:=qh ms5;have R75:=qh r75;have RE5:=qh re5;clear h5 t5 L5 ms5 kt r75 re5 x70' x71' l7' lE' y0 y1 y0v hE e4 e6;by_cases hop:eo=2
    ·subst hop
     have qo:((2:Int)==2)=true:=rfl;cases hf:yz (k:Int) s with
     |some v=>
      have lk:=lookOkI MS5.o HCS.o.dom hkd hf;have HF:=qh (show(yz (k:Int) s).isSome=true from by rw[hf];rfl);clear hf;have hg6:=((HL5.o).cells.lt gC (by rw[HCE.o];rfl)).2;obtain⟨csz,hrz⟩:=HL5.o.ceRow HCE.o;have ffz:=qq hrz (k*2);obtain⟨-,cz,-,gz0,-⟩:=HL5.o.ceAt HCE.o hk;obtain⟨L6,hBC6,kd6,km6,ro6⟩:=HL5.o.ceSet HCE.o (k:=k) (j:=0) (c:=⟨c.val,qE i t.tx⟩) (u:=⟨ev,qE i t.tx⟩) (a:=.int .i64 ev) (by show(M.cs.set k _)[k]?=_;rw[List.getElem?_set_self (List.getElem?_eq_some_iff.1 HC.o).1]) (by decide) rfl;simp only[Nat.add_zero] at L6;have b6:=B5.o.setCell (p:=⟨gC,k*2,none⟩) hBC6 (.int .i64 ev);obtain⟨hg7,c',hc',g0,g1⟩:=L6.ceAt HCE.o hk;have hc':((M.cs.set k ⟨c.val,qE i t.tx⟩).set k ⟨ev,qE i t.tx⟩)[k]?=some c':=hc';rw[List.set_set,List.getElem?_set_self (List.getElem?_eq_some_iff.1 HC.o).1] at hc';obtain rfl:=Option.some.inj hc';have z0:=qd L6.row 0;have lm6:=qg L6.row;have HL6:=qh L6;have HB6:=qh b6;clear L6 kd6 km6 ro6 hrz b6 g1;go_wp2_with fail;refine qM [0,0,0,1,0,0,0,0,1,2] [0,1,2,3,4,5,6,7,8,9] (by kernel_rfl) ?_;simp only[qO,qD,sD,sE,sF,sG]
      repeat first|(refine qB fun K hK=>?_;go_simp;refine hK _ _ ?_;clear hK K)|(apply qI;(intro w2 hw2;have hk1:=hw2.cell;have hk3:=hw2.heap;clear hw2;go_simp;with_reducible rfl);simp only[Act.put,sA,sB,sC])
      refine qK (fun K hK=>?_);go_simp;refine(la_said (HL6.o.below (Below.refl _ _).drew) i hi HT.o ev false hev hl).mono ?_;rintro e X7 ⟨rfl,hb,ve',us',hla⟩;refine hK _ _ ?_;clear hK K;have B7:=qh (HB6.o.drew.trans hb);have L7:=qh hla;clear hb hla g0 z0 ffz gz0
      repeat refine qy ?_
      go_wp2;go_ret;refine⟨rfl,B7.o,ve',us',?_⟩;rw[HY1.o];(first|rw[if_pos trivial]|rw[if_pos rfl]);rw[HF.o];have h9:=L7.o;simp only[List.set_set] at h9
      first|exact h9|(simp only[Bool.false_eq_true,if_false];exact h9)
     |none=>
      have lk:=lookOkI MS5.o HCS.o.dom hkd hf;have HF:=qh (show(yz (k:Int) s).isSome=false from by rw[hf];rfl);clear hf;obtain⟨hg7,c',hc',g0,g1⟩:=HL5.o.ceAt HCE.o hk;have hc':(M.cs.set k ⟨c.val,qE i t.tx⟩)[k]?=some c':=hc';rw[List.getElem?_set_self (List.getElem?_eq_some_iff.1 HC.o).1] at hc';obtain rfl:=Option.some.inj hc';go_wp2_with fail;refine qM [0,1,0,1,0,0,0,1,2] [0,1,2,3,4,5,6,7,8] (by kernel_rfl) ?_;simp only[qO,qD,sD,sE,sF,sG]
      repeat first|(refine qB fun K hK=>?_;go_simp;refine hK _ _ ?_;clear hK K)|(apply qI;(intro w2 hw2;have hk1:=hw2.cell;have hk3:=hw2.heap;clear hw2;go_simp;with_reducible rfl);simp only[Act.put,sA,sB,sC])
      refine qK (fun K hK=>?_);refine(MS5.o.drew).wp_store keyI elem_int HCS.o.dom HSS.o Tryz.underlying133 (v:=c.val) (by have:=HCS.o.len HSS.o;unfold maxLen;omega) hkd rfl (by rfl) (by rfl) (by rfl) ?_;intro X6 h6 t6;refine hK _ _ ?_;clear hK K;have L6:=(HL5.o.below (Below.refl _ _).drew).store (i:=i) HU.o (.inr rfl) t6 (o':=some (upd (k:Int) () r,upd (k:Int) c.val s)) ⟨br,bs,rfl,hbr,hbs,hne,(xg.tight HMR5.o).drew.obj (xb t6 hne),h6.tight,HCR.o.upd (by omega) (by omega),yQ HSR.o,HCS.o.upd (by omega) (by omega),yQ HSS.o⟩;have B6:=qh (B5.o.drew.trans (Below.turned t6 hbs));have kt:=Kd.turned (T:=fun _=>False) t6;have r76:=kt _ _ _ _ R75.o (fun h=>h);have re6:=kt _ _ _ _ RE5.o (fun h=>h);have f6:=qd re6 6;have lE:=qg re6;have HL6:=qh L6;clear h6 t6 L6 kt r76 re6 x70 x71 f3 f4 lk g0 g1 hg7 l7
      repeat refine qy ?_
      have hg6:=((HL6.o).cells.lt gC (by rw[HCE.o];rfl)).2;obtain⟨csz,hrz⟩:=HL6.o.ceRow HCE.o;have ffz:=qq hrz (k*2);obtain⟨-,cz,-,gz0,-⟩:=HL6.o.ceAt HCE.o hk;obtain⟨L6,hBC6,kd6,km6,ro6⟩:=HL6.o.ceSet HCE.o (k:=k) (j:=0) (c:=⟨c.val,qE i t.tx⟩) (u:=⟨ev,qE i t.tx⟩) (a:=.int .i64 ev) (by show(M.cs.set k _)[k]?=_;rw[List.getElem?_set_self (List.getElem?_eq_some_iff.1 HC.o).1]) (by decide) rfl;simp only[Nat.add_zero] at L6;have b6:=B6.o.setCell (p:=⟨gC,k*2,none⟩) hBC6 (.int .i64 ev);obtain⟨hg7,c',hc',g0,g1⟩:=L6.ceAt HCE.o hk;have hc':((M.cs.set k ⟨c.val,qE i t.tx⟩).set k ⟨ev,qE i t.tx⟩)[k]?=some c':=hc';rw[List.set_set,List.getElem?_set_self (List.getElem?_eq_some_iff.1 HC.o).1] at hc';obtain rfl:=Option.some.inj hc';have z0:=qd L6.row 0;have lm6:=qg L6.row;have HLx:=qh L6;have HBx:=qh b6;clear L6 kd6 km6 ro6 hrz b6 g1;go_wp2_with fail;refine qM [0,0,0,1,0,0,0,0,1,2] [0,1,2,3,4,5,6,7,8,9] (by kernel_rfl) ?_;simp only[qO,qD,sD,sE,sF,sG]
      repeat first|(refine qB fun K hK=>?_;go_simp;refine hK _ _ ?_;clear hK K)|(apply qI;(intro w2 hw2;have hk1:=hw2.cell;have hk3:=hw2.heap;clear hw2;go_simp;with_reducible rfl);simp only[Act.put,sA,sB,sC])
      refine qK (fun K hK=>?_);go_simp;refine(la_said (HLx.o.below (Below.refl _ _).drew) i hi HT.o ev false hev hl).mono ?_;rintro e X7 ⟨rfl,hb,ve',us',hla⟩;refine hK _ _ ?_;clear hK K;have B7:=qh (HBx.o.drew.trans hb);have L7:=qh hla;clear hb hla g0 z0 ffz gz0
      repeat refine qy ?_
      go_wp2;go_ret;refine⟨rfl,B7.o,ve',us',?_⟩;rw[HY1.o];(first|rw[if_pos trivial]|rw[if_pos rfl]);rw[HF.o];have h9:=L7.o;simp only[List.set_set] at h9
      first|exact h9|(simp only[Bool.false_eq_true,if_false];exact h9)
    ·have qo:(eo==2)=false:=by simpa using hop
     obtain⟨hg7,c',hc',g0,g1⟩:=HL5.o.ceAt HCE.o hk;have hc':(M.cs.set k ⟨c.val,qE i t.tx⟩)[k]?=some c':=hc';rw[List.getElem?_set_self (List.getElem?_eq_some_iff.1 HC.o).1] at hc';obtain rfl:=Option.some.inj hc';have z0:=qd HL5.o.row 0;have lm6:=qg HL5.o.row;go_wp2_with fail;refine qM [0,0,0,1,0,0,0,0,1,2] [0,1,2,3,4,5,6,7,8,9] (by kernel_rfl) ?_;simp only[qO,qD,sD,sE,sF,sG]
     repeat first|(refine qB fun K hK=>?_;go_simp;refine hK _ _ ?_;clear hK K)|(apply qI;(intro w2 hw2;have hk1:=hw2.cell;have hk3:=hw2.heap;clear hw2;go_simp;with_reducible rfl);simp only[Act.put,sA,sB,sC])
     refine qK (fun K hK=>?_);go_simp;refine(la_said (HL5.o.below (Below.refl _ _).drew) i hi HT.o c.val false hbv hl).mono ?_;rintro e X7 ⟨rfl,hb,ve',us',hla⟩;refine hK _ _ ?_;clear hK K;have B7:=qh (B5.o.drew.trans hb);have L7:=qh hla;clear hb hla g0 z0
     repeat refine qy ?_
     go_wp2;go_ret;refine⟨rfl,B7.o,ve',us',?_⟩;rw[HY1.o,if_neg hop];exact L7.o
end
end
section
variable {P:Pg} {S S':yq} {A:Au}
theorem acts_kinds (hok:PgOk P) {i:Nat} (hi:i < P.threads.length) {t:Th} (hd:qP P i t=false) (htk:ThOk P i t) {a:Ac} (ha:(P.acts i t.tx)[t.act]?=some a) (hk:a.kind≠4):(a.kind=1/\a.val=0\/a.kind=2\/a.kind=3)/\0<=a.cell/\a.cell < P.cells.length/\-1000<=a.val/\a.val<=1000:=by
 have htx:=yX hok hi htk hd;rcases hok.at hi htx ha with⟨hk',-⟩|h
 ·exact absurd hk' hk
 ·exact h
def BInv (P:Pg) (S:yq):Prop:=∀(i:Nat) (t:Th),S.ths[i]?=some t->t.begun=true->t.tx < (P.txs i).length
theorem bstep (hok:PgOk P) (hB:BInv P S) {i:Nat} (hi:i < P.threads.length) {t:Th} (ht:S.ths[i]?=some t) (hd:qP P i t=false) (htk:ThOk P i t) (hs:Wk1 P S i t S'):BInv P S':=by
 have hlt:=yX hok hi htk hd;have e1:∀u:Th,(xM u).begun=false:=fun _=>rfl;cases hs with
 |same=>exact hB
 |begin hw hb=>exact bput hB fun _=>hlt
 |call a hw hb ha hk=>exact bput hB fun _=>hlt
 |cancel a hw hb ha hk=>exact bput hB fun _=>hlt
 |try_ hw hb ha=>exact bput hB fun _=>hlt
 |wrote a hw hb ha hk=>exact bput hB fun _=>hlt
 |read a v hw hb ha hk hv=>exact bput hB fun _=>by unfold rdTh;split <;> exact hlt
 |abort hw hb=>exact bput hB fun h=>by rw[e1] at h;cases h
 |commit hw hb=>exact bput hB fun h=>by rw[e1] at h;cases h
theorem jzero (P:Pg):yW P ⟨List.replicate P.threads.length Th.zero,[]⟩ []:=by
 have hz:∀(i:Nat) (t:Th),(List.replicate P.threads.length Th.zero)[i]?=some t->t=Th.zero:=fun i t ht=>List.eq_of_mem_replicate (List.mem_of_getElem? ht);refine⟨.nil,fun e he=>(nomatch he),Nat.zero_le _,fun i t ht k hk=>?_,fun i t ht hb=>?_,fun s hs=>(nomatch hs),List.nodup_nil,fun i t ht=>?_,fun i t ht=>?_,fun s hs=>(nomatch hs),fun i t s d a ht hs=>(nomatch hs)⟩
 ·rw [hz i t ht] at hk;cases hk
 ·rw [hz i t ht] at hb;cases hb
 ·rw [hz i t ht];exact⟨.inl rfl,fun _=>⟨rfl,rfl⟩,fun h=>by cases h⟩
 ·rw [hz i t ht];exact⟨Nat.zero_le _,fun h=>by cases h⟩
theorem bzero (P:Pg):BInv P ⟨List.replicate P.threads.length Th.zero,[]⟩:=fun i t ht hb=>by
 have:t=Th.zero:=List.eq_of_mem_replicate (List.mem_of_getElem? ht);rw[this] at hb;cases hb
theorem jevs (hJ:yW P S A) (hok:PgOk P) (hthl:S.ths.length=P.threads.length) (htk:∀(i:Nat) (t:Th),S.ths[i]?=some t->ThOk P i t):S.evs.length<=400:=by
 have h1:=hJ.cnt;have h2:∀t ∈ S.ths,hTh t<=99:=fun t ht=>by
  obtain⟨i,hi⟩:=List.mem_iff_getElem?.1 ht;have h3:=hJ.bt i t hi;have h4:=(htk i t hi).act;have h5:(P.acts i t.tx).length<=6:=acts_le hok (by rw[←hthl];exact(List.getElem?_eq_some_iff.1 hi).1) _;have h6:=(hJ.wt i t hi).2.1;unfold hTh;cases hb:t.begun with
  |false=>
   obtain⟨h7,h8⟩:=h6 hb;rw[h7,h8];simp
   split <;> omega
  |true=>
   have:=h3.2 hb;simp
   split <;> split <;> omega
 have h3:∀(l:List Th),(∀t ∈ l,hTh t<=99)->sumTh l<=99*l.length:=fun l=>by
  induction l with
  |nil=>intro _;simp[sumTh]
  |cons x l ih=>
   intro hl;have:=ih fun t ht=>hl t (List.mem_cons_of_mem _ ht);have:=hl x (List.mem_cons_self ..);simp only[sumTh,List.map_cons,List.sum_cons,List.length_cons] at *;omega
 have:=h3 _ h2;rw[hthl] at this;have:=hok.threads.2;omega
end
structure GlobT (w:World):Prop where
 prog:GlobP w
 words:qX w
 ans:ErrAt 15 w
theorem GlobT.below {w w':World} (h:GlobT w) (hb:Below w.heap.size w w'):GlobT w':=⟨h.prog.below hb,h.words.below hb,h.ans.below hb⟩
