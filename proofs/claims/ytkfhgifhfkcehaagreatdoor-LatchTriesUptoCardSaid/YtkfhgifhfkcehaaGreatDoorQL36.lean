/- Parts of the proof, merged by program out of 2 texts (ToP, TaL): the first: The engine latch: it answers. Conditions: those of each theorem, as typed. -/
import Derived.Test.YtkfhgifhfkcehaaGreatDoorQL35
import Derived.Test.YtkfhgifhfkcehaaGreatDoorQL27
set_option linter.unusedVariables false
set_option linter.unusedSimpArgs false
set_option linter.unusedSectionVars false
set_option maxRecDepth 100000
set_option maxHeartbeats 4000000
namespace Go.Proofs.YtkfhgifhfkcehaaGreatDoor
open Go.Maps Go.RowKit
section
attribute [local irreducible] wpL
section
variable {w:World} {C:LC} {ve:Value} {P:Pg} {M:LM} {us:List (Value×Value)}
def AnsMid (C:LC) (P:Pg) (w W:World) (i k:Nat) (t:Th) (ek ex eh eo ey ev er:Int) (br bs gC cc:Nat):Exit→Act→World→Prop:=fun e a' X=>
 ∃b7:Nat,e=.normal∧a'={tmps:=#[.pointer (some ⟨C.bM,0,none⟩),.int .i64 i,evV ⟨ek,ex,eh,(k:Nat),eo,ey,ev,er⟩,undef,undef,.pointer (some ⟨w.heap.size,0,none⟩),.nilFunc,.pointer (some ⟨b7,0,none⟩),.pointer (some ⟨gC,k*2,none⟩),.int .i64 (idOf i t.tx),undef,undef,.pointer (some ⟨C.bM,0,none⟩),.pointer (some ⟨C.bM,0,none⟩),.pointer (some ⟨C.bM,2,none⟩),.slice (some ⟨C.gW,0,none⟩) P.threads.length P.threads.length,.int .i64 i,.pointer (some ⟨C.gW,i*2,none⟩),.agg #[.map (some br),.map (some bs)],.pointer (some ⟨C.bM,0,none⟩),.pointer (some ⟨C.bM,0,none⟩),.pointer (some ⟨C.bM,1,none⟩),.slice (some ⟨gC,0,none⟩) P.cells.length cc,.pointer (some ⟨w.heap.size,3,none⟩),.int .i64 (k:Nat),.pointer (some ⟨gC,k*2,none⟩),.pointer (some ⟨C.bM,0,none⟩),.pointer (some ⟨C.bM,0,none⟩),.pointer (some ⟨C.bM,0,none⟩),.pointer (some ⟨C.bD,0,none⟩),.int .i64 i,.int .i64 (idOf i t.tx),undef,undef,undef,undef,undef,undef,undef,undef,undef,undef,undef,undef,undef,undef,undef,undef,undef,undef,undef,undef,undef,undef,undef,undef,undef,undef,undef,undef,undef,undef,undef,undef,undef,undef,undef,undef,undef,undef,undef,undef,undef,undef,undef,undef,undef,undef,undef,undef,undef,undef,undef,undef,undef,undef,undef,undef,undef,undef,undef,undef,undef],defers:=[]}∧X.heap[b7]?=some (.cells #[.map (some br),.map (some bs)] 135 (0,0))∧Below W.heap.size W X
theorem LaAt.store (h:LaAt w C ve us P M) {w1:World} {i b:Nat} {u:Value×Value} {o':Wo} (hu:us[i]?=some u) (hb:mbs u b) (ht:w.mapTurned w1 b) (hw:WoAt w1 C.B u o'):LaAt w1 C ve us P {M with ws:=M.ws.set i o'}:=
 h.turn (Kd.turned ht) (OwnF.kd h.cells (Kd.turned (T:=fun _=>False) ht) (fun h=>h)) h.clen (h.wks.store hu hb ht hw)
theorem ceAt_of {cs:List Ce} {k:Nat} {c:Ce} (h:cs[k]?=some c):ceAt cs (k:Int)=c:=by simp[ceAt,h]
theorem la_answer (h:LaAt w C ve us P M) (i:Nat) (hi:i < P.threads.length) {t:Th} (ht:M.W.ths[i]?=some t) (hd:thDone P i t=false) (hbg:t.begun=true) (hl:M.W.evs.length≤100000) {r:MB} {s:MI} (hws:M.ws[i]?=some (some (r,s))) (hcn:WoCan P r s)
  (k:Nat) (ek ex eh eo ey ev er:Int) (hk:k < P.cells.length) (hev:-999999000≤ev∧ev≤999999000) (hb2:∀c ∈ M.cs,-999999000≤c.val∧c.val≤999999000):
  Calls Tryz.prog 65 #[.pointer (some ⟨C.bM,0,none⟩),.int .i64 i,evV ⟨ek,ex,eh,(k:Nat),eo,ey,ev,er⟩] w (LaPost C P (ansStep P M i t ⟨ek,ex,eh,(k:Nat),eo,ey,ev,er⟩ r s) .nilFunc w):=by
 have hk4:k < 4:=by have:=h.ok.cells.2;omega
 have hn4:=h.ok.threads.2
 have hkd:dI (k:Int):=dI_small (by omega) (by omega)
 obtain⟨gC,cc,hce⟩:=h.ceForm
 obtain⟨br,bs,hu,hwo,hgW,w0,w1⟩:=h.woAt hi hws
 obtain⟨hgC,c,hc,c0,c1⟩:=h.ceAt hce hk
 have d0:=row_cell h.row 0
 have d1:=row_cell h.row 1
 have d2:=row_cell h.row 2
 rw[hce] at d1
 have lM:=row_lt h.row
 have hbv:=hb2 c (List.mem_of_getElem? hc)
 have hat:=ceAt_of hc
 have H:=hid h
 have HU:=hid hu
 have HT:=hid ht
 have HC:=hid hc
 have HCN:=hid hcn
 have HWS:=hid hws
 have HCE:=hid hce
 have lkd:=hid hkd
 have HAT:=hid hat
 have HD:=hid (And.intro hd hbg)
 have HP:=hid hwo
 have hst:ansStep P M i t ⟨ek,ex,eh,(k:Nat),eo,ey,ev,er⟩ r s=if taken i t c=true then abortStep P M i t r s else if eo=2 then {M with W:=M.W.putO i (ansOf P i t ev false),cs:=M.cs.set k ⟨ev,idOf i t.tx⟩,ws:=M.ws.set i (some (upd (k:Int) () r,if (fnd (k:Int) s).isSome then s else upd (k:Int) c.val s))} else {M with W:=M.W.putO i (ansOf P i t c.val false),cs:=M.cs.set k ⟨c.val,idOf i t.tx⟩,ws:=M.ws.set i (some (upd (k:Int) () r,s))}:=by
  unfold ansStep
  simp only[hat,Int.toNat_natCast]
 obtain⟨Y0,hY0⟩:∃Y0:LM,Y0=ansStep P M i t ⟨ek,ex,eh,(k:Nat),eo,ey,ev,er⟩ r s:=⟨_,rfl⟩
 rw[←hY0]
 rw[hst] at hY0
 have HY0:=hid hY0
 clear hY0 h hu ht hc hcn hws hce hwo hst hd hbg hb2 hat
 go_enter Tryz.func65,Tryz.ntmps65
 go_wp2_with fail
 have bA:Below w.heap.size w (w.alloc (.cells #[.int .i64 ek,.int .i64 ex,.int .i64 eh,.int .i64 (k:Nat),.int .i64 eo,.int .i64 ey,.int .i64 ev,.int .i64 er] 53)):=(Below.refl _ w).alloc (Nat.le_refl _) _
 have rA:=row_new w (.cells #[.int .i64 ek,.int .i64 ex,.int .i64 eh,.int .i64 (k:Nat),.int .i64 eo,.int .i64 ey,.int .i64 ev,.int .i64 er] 53)
 have zA:(w.alloc (.cells #[.int .i64 ek,.int .i64 ex,.int .i64 eh,.int .i64 (k:Nat),.int .i64 eo,.int .i64 ey,.int .i64 ev,.int .i64 er] 53)).heap.size=w.heap.size+1:=by simp
 generalize w.alloc (.cells #[.int .i64 ek,.int .i64 ex,.int .i64 eh,.int .i64 (k:Nat),.int .i64 eo,.int .i64 ey,.int .i64 ev,.int .i64 er] 53)=W at *
 have lE:w.heap.size < W.heap.size:=by omega
 have lM':C.bM < W.heap.size:=by omega
 have lW':C.gW < W.heap.size:=by omega
 have lC':gC < W.heap.size:=by omega
 have d0:=cell_below bA lM d0
 have d1:=cell_below bA lM d1
 have d2:=cell_below bA lM d2
 have w0:=cell_below bA hgW w0
 have w1:=cell_below bA hgW w1
 have e3:=row_cell rA 3
 have HA:=hid bA
 have RA:=hid rA
 have ZA:=hid zA
 have HW:=hid (H.out.below bA)
 clear bA rA zA
 refine wp_mono (Q:=AnsMid C P w W i k t ek ex eh eo ey ev er br bs gC cc) ?_ ?_
 ·
  refine wp_rN (W.heap.size) [0,0,0,1,0,0,1,0,0,0,1,0,1,0,0,0,0,1,0,3,3,3,0,0] (.frk [0,1,2,3,4,5,6,7,8,9,10,11,12,13,14,15,16,17,18] (.fin [19,20,21,22,23]) (.fin [20,19,21,22,23])) (by kernel_rfl) ?_
  simp only[wpT,selX,guardAt,sD,sE,sF,sG]
  repeat first|(refine wpL_p fun K hK=>?_;go_simp;refine hK _ _ ?_;clear hK K)|(apply wpL_s;(intro w2 hw2;have hk1:=hw2.cell;have hk3:=hw2.1;clear hw2;go_simp;with_reducible rfl);simp only[Act.put,sA,sB,sC])|refine wpL_yes rfl rfl ?_|(refine wpL_no rfl rfl fun K hK=>?_;simp only[Act.put,sA,sB,sC];refine hK _ _ ?_;clear hK K)|refine wpL_nil ?_
  refine⟨?_,?_⟩
  ·refine wpL_k (fun K hK=>?_)
   go_simp
   refine(la_tx (HW.out.below (Below.refl _ W).drew) i hi HT.out HD.out.1 HD.out.2).mono ?_
   rintro e X1 ⟨rfl,b1⟩
   have b1:Below W.heap.size W X1:=(Below.refl _ W).drew.trans b1
   refine hK _ _ (RN.KeepsN.of_below (show Below W.heap.size W.drew X1 from ‹Below W.drew.heap.size W.drew X1›)) ?_
   clear hK K
   have z1:=b1.size
   repeat first|(refine wpL_p fun K hK=>?_;go_simp;refine hK _ _ ?_;clear hK K)|(apply wpL_s;(intro w2 hw2;have hk1:=hw2.cell;have hk3:=hw2.1;clear hw2;go_simp;with_reducible rfl);simp only[Act.put,sA,sB,sC])|refine wpL_yes rfl rfl ?_|(refine wpL_no rfl rfl fun K hK=>?_;simp only[Act.put,sA,sB,sC];refine hK _ _ ?_;clear hK K)|refine wpL_nil ?_
   refine wpL_k (fun K hK=>?_)
   go_simp
   refine hK _ _ (RN.KeepsN.alloc _ _ z1) ?_
   clear hK K
   refine wpL_k (fun K hK=>?_)
   go_simp
   refine hK _ _ (KeepsN.both (W:=X1) (RN.KeepsN.alloc _ _ z1) (RN.KeepsN.alloc _ _ z1) (by simp)) ?_
   clear hK K
   repeat first|(refine wpL_p fun K hK=>?_;go_simp;refine hK _ _ ?_;clear hK K)|(apply wpL_s;(intro w2 hw2;have hk1:=hw2.cell;have hk3:=hw2.1;clear hw2;go_simp;with_reducible rfl);simp only[Act.put,sA,sB,sC])|refine wpL_yes rfl rfl ?_|(refine wpL_no rfl rfl fun K hK=>?_;simp only[Act.put,sA,sB,sC];refine hK _ _ ?_;clear hK K)|refine wpL_nil ?_
   exact⟨X1.heap.size,rfl,rfl,row_new X1 _,b1.alloc z1 _⟩
  ·refine wpL_k (fun K hK=>?_)
   go_simp
   refine hK _ _ (RN.KeepsN.alloc _ _ (by first|omega|exact Nat.le_refl _)) ?_
   clear hK K
   refine wpL_k (fun K hK=>?_)
   go_simp
   have b0:Below W.heap.size W (W.drew.alloc (.cells #[.map none,.map none] 135)):=(Below.refl W.heap.size W).drew.alloc (Nat.le_refl _) _
   refine(la_tx (HW.out.below b0) i hi HT.out HD.out.1 HD.out.2).mono ?_
   rintro e X1 ⟨rfl,b1⟩
   have z0:W.heap.size≤(W.drew.alloc (.cells #[.map none,.map none] 135)).heap.size:=b0.size
   refine hK _ _ (RN.KeepsN.of_below (b1.mono z0)) ?_
   clear hK K
   have RZ:=row_below (row_new' (w:=W.drew) (o:=.cells #[.map none,.map none] 135) (g:=W.heap.size) rfl) b1 (by simp)
   have b1:Below W.heap.size W X1:=b0.trans (b1.mono z0)
   have z1:=b1.size
   have lz:=row_lt RZ
   have yf:∀j,X1.frozen? ⟨W.heap.size,j,none⟩=false:=fun j=>row_free RZ j
   have y0:X1.cell? ⟨W.heap.size,0,none⟩=some (.map none):=row_cell RZ 0
   have y1:X1.cell? ⟨W.heap.size,1,none⟩=some (.map none):=row_cell RZ 1
   repeat first|(refine wpL_p fun K hK=>?_;go_simp;refine hK _ _ ?_;clear hK K)|(apply wpL_s;(intro w2 hw2;have hk1:=hw2.cell;have hk3:=hw2.1;clear hw2;go_simp;with_reducible rfl);simp only[Act.put,sA,sB,sC])|refine wpL_yes rfl rfl ?_|(refine wpL_no rfl rfl fun K hK=>?_;simp only[Act.put,sA,sB,sC];refine hK _ _ ?_;clear hK K)|refine wpL_nil ?_
   refine wpL_k (fun K hK=>?_)
   go_simp
   have b2:=(b1.setCell (p:=⟨W.heap.size,0,none⟩) (Nat.le_refl _) (.map (some br))).setCell (p:=⟨W.heap.size,1,none⟩) (Nat.le_refl _) (.map (some bs))
   have b3:=((Below.refl W.heap.size X1).setCell (p:=⟨W.heap.size,0,none⟩) (Nat.le_refl _) (.map (some br))).setCell (p:=⟨W.heap.size,1,none⟩) (Nat.le_refl _) (.map (some bs))
   have r2:=row2 (u1:=.map (some br)) (u2:=.map (some bs)) RZ
   refine hK _ _ (RN.KeepsN.of_below b3) ?_
   clear hK K
   repeat first|(refine wpL_p fun K hK=>?_;go_simp;refine hK _ _ ?_;clear hK K)|(apply wpL_s;(intro w2 hw2;have hk1:=hw2.cell;have hk3:=hw2.1;clear hw2;go_simp;with_reducible rfl);simp only[Act.put,sA,sB,sC])|refine wpL_yes rfl rfl ?_|(refine wpL_no rfl rfl fun K hK=>?_;simp only[Act.put,sA,sB,sC];refine hK _ _ ?_;clear hK K)|refine wpL_nil ?_
   exact⟨W.heap.size,rfl,rfl,r2,b2⟩
 ·rintro e a' X ⟨b7,rfl,rfl,r7,bX⟩
  have hE:=cell_below bX lE e3
  have e4:=cell_below bX lE (row_cell RA.out 4)
  have e6:=cell_below bX lE (row_cell RA.out 6)
  have lEX:w.heap.size < X.heap.size:=by have:=bX.size;omega
  have x70:=row_cell r7 0
  have x71:=row_cell r7 1
  have l7:=row_lt r7
  have HX:=hid (HW.out.below bX)
  have hB:=H.out.size
  have HY:=hid ((HA.out.trans (bX.mono (by have:=ZA.out;omega))).mono hB)
  have hb0:=HA.out.trans (bX.mono (by have:=ZA.out;omega))
  have HQ:=hid (HP.out.keep fun b hb=>by
   obtain⟨-,es,cl,hh⟩:=HP.out.isMap b hb
   rw[row_below hh hb0 (row_lt hh),hh])
  have R7:=hid r7
  have RE:=hid (row_below RA.out bX lE)
  have hg0:gC < X.heap.size:=by have:=bX.size;omega
  have y0:X.cell? ⟨gC,k*2,none⟩=some (.int .i64 c.val):=cell_below hb0 hgC c0
  have y1:X.cell? ⟨gC,k*2+1,none⟩=some (.int .i64 c.own):=cell_below hb0 hgC c1
  clear r7 bX d0 d1 d2 w0 w1 c0 c1 e3 HA H HP RA HW hb0
  obtain⟨br',bs',hu,hbr,hbs,hne,hmr,hms,hcr,hsr,hcs,hss⟩:=HQ.out
  simp only[Prod.mk.injEq,Value.map.injEq,Option.some.injEq] at hu
  obtain⟨rfl,rfl⟩:=hu
  have HMR:=hid hmr
  have HMS:=hid hms
  have HCR:=hid hcr
  have HCS:=hid hcs
  have HSR:=hid hsr
  have HSS:=hid hss
  clear hmr hms hcr hsr hcs hss
  cases htk:taken i t c with
  |true=>
   obtain⟨q1,q2⟩:(c.own !=0)=true∧(c.own !=idOf i t.tx)=true:=by simpa[taken,bne] using htk
   have hY:=HY0.out
   rw[if_pos htk] at hY
   go_wp2_with fail
   refine(la_mkAbort _ _ _).mono ?_
   rintro e X1 ⟨rfl,hX1⟩
   have b1:Below X.heap.size X X1:=by rw[hX1];exact((Below.refl _ X).alloc (Nat.le_refl _) _).alloc (by simp) _
   have hbx:BxM X1 C i X.heap.size (X.heap.size+1):=by
    have:=HX.out.size
    rw[hX1]
    exact⟨row_old (row_new X _),row_new' (by simp),this,by omega⟩
   have HC1:=hid (la_abort1 (HX.out.below b1) i hi HT.out hl HWS.out HCN.out hbx)
   have B1:=hid (HY.out.trans (b1.mono HX.out.size))
   clear hX1 b1 hbx
   go_wp2_with fail
   refine(HC1.out).mono ?_
   rintro e X2 ⟨rfl,hb,ve',us',hla⟩
   have B2:=hid (B1.out.trans hb)
   have L2:=hid hla
   clear hb hla HC1
   go_wp2
   go_ret
   exact⟨rfl,B2.out,ve',us',by rw[hY];exact L2.out⟩
  |false=>
   have hq:(c.own !=0&&c.own !=idOf i t.tx)=false:=by simpa[taken,bne] using htk
   have hY:=HY0.out
   rw[if_neg (by rw[htk];decide)] at hY
   have HY1:=hid hY
   clear hY HY0
   have HQ2:=hid hq
   obtain⟨csr,hrC⟩:=HX.out.ceRow HCE.out
   have ff1:=row_free hrC (k*2+1)
   obtain⟨L4,hBC,kd1,km1,ro⟩:=HX.out.ceSet HCE.out (k:=k) (j:=1) (c:=c) (u:=⟨c.val,idOf i t.tx⟩) (a:=.int .i64 (idOf i t.tx)) HC.out (by decide) rfl
   have b4:Below C.B w (X.setCell ⟨gC,k*2+1,none⟩ (.int .i64 (idOf i t.tx))):=HY.out.setCell (p:=⟨gC,k*2+1,none⟩) hBC _
   have mr4:=HMR.out.obj (by
    obtain⟨es,cl,hm,-⟩:=HMR.out
    rw[km1 _ _ _ hm,hm])
   have ms4:=HMS.out.obj (by
    obtain⟨es,cl,hm,-⟩:=HMS.out
    rw[km1 _ _ _ hm,hm])
   have r74:=kd1 _ _ _ _ R7.out (by decide)
   have re4:=kd1 _ _ _ _ RE.out (by decide)
   have rC4:=row_set hrC (k*2+1) (.int .i64 (idOf i t.tx))
   have y0v:(X.setCell ⟨gC,k*2+1,none⟩ (.int .i64 (idOf i t.tx))).cell? ⟨gC,k*2,none⟩=some (.int .i64 c.val):=by
    obtain⟨-,c',hc',g0,-⟩:=L4.ceAt HCE.out hk
    rw[List.getElem?_set_self (by have:=(List.getElem?_eq_some_iff.1 HC.out).1;exact this)] at hc'
    obtain rfl:=Option.some.inj hc'
    exact g0
   have x70':=row_cell r74 0
   have x71':=row_cell r74 1
   have f3:=row_cell re4 3
   have f4:=row_cell re4 4
   have f6:=row_cell re4 6
   have l7':=row_lt r74
   have lE':=row_lt re4
   have HL4:=hid L4
   have HB4:=hid b4
   have MR4:=hid mr4
   have MS4:=hid ms4
   have R74:=hid r74
   have RE4:=hid re4
   have RC4:=hid rC4
   clear L4 kd1 km1 ro hrC b4 mr4 ms4 r74 re4 rC4
   have hq2:c.own=0∨(c.own≠0∧c.own=idOf i t.tx):=by
    by_cases h0:c.own=0
    ·exact .inl h0
    ·refine .inr ⟨h0,?_⟩
     simp[h0] at hq
     exact hq
   clear hq
   rcases hq2 with h0|⟨h0,h1⟩
   ·have qa:(c.own !=0)=false:=by simp[h0]
    have H0:=hid h0
    clear h0
    go_wp2_with (at_mapUpdate;refine Stop.halt ?_)
    refine Stop.go ?_
    generalize X.setCell ⟨gC,k*2+1,none⟩ (.int .i64 (idOf i t.tx))=X4 at *
    refine MR4.out.wpList_store keyI elem_bool HCR.out.dom HSR.out Tryz.underlying132 (v:=()) (by have:=HCR.out.len HSR.out;unfold maxLen;omega) hkd rfl rfl (by rfl) (by rfl) (by rfl) ?_
    intro X5 h5 t5
    have L5:=HL4.out.store (i:=i) HU.out (.inl rfl) t5 (o':=some (upd (k:Int) () r,s)) ⟨br,bs,rfl,hbr,hbs,hne,h5.tight,MS4.out.obj (turned_other t5 (Ne.symm hne)),HCR.out.upd (by omega) (by omega),srt_upd HSR.out,HCS.out,HSS.out⟩
    have ms5:=MS4.out.obj (turned_other t5 (Ne.symm hne))
    have B5:=hid (HB4.out.trans (Below.turned t5 hbr))
    have kt:=Kd.turned (T:=fun _=>False) t5
    have r75:=kt _ _ _ _ R74.out (fun h=>h)
    have re5:=kt _ _ _ _ RE4.out (fun h=>h)
    have HMR5:=hid h5
    have x70:=row_cell r75 0
    have x71:=row_cell r75 1
    have f3:=row_cell re5 3
    have f4:=row_cell re5 4
    have f6:=row_cell re5 6
    have l7:=row_lt r75
    have lE:=row_lt re5
    have HL5:=hid L5
    have MS5:=hid ms5
    have R75:=hid r75
    have RE5:=hid re5
    clear h5 t5 L5 ms5 kt r75 re5 x70' x71' l7' lE' y0 y1 y0v hE e4 e6
    by_cases hop:eo=2
    ·subst hop
     have qo:((2:Int)==2)=true:=rfl
     cases hf:fnd (k:Int) s with
     |some v=>
      have lk:=lookOkI MS5.out HCS.out.dom hkd hf
      have HF:=hid (show(fnd (k:Int) s).isSome=true from by rw[hf];rfl)
      clear hf
      have hg6:=((HL5.out).cells.lt gC (by rw[HCE.out];rfl)).2
      obtain⟨csz,hrz⟩:=HL5.out.ceRow HCE.out
      have ffz:=row_free hrz (k*2)
      obtain⟨-,cz,-,gz0,-⟩:=HL5.out.ceAt HCE.out hk
      obtain⟨L6,hBC6,kd6,km6,ro6⟩:=HL5.out.ceSet HCE.out (k:=k) (j:=0) (c:=⟨c.val,idOf i t.tx⟩) (u:=⟨ev,idOf i t.tx⟩) (a:=.int .i64 ev) (by show(M.cs.set k _)[k]?=_;rw[List.getElem?_set_self (List.getElem?_eq_some_iff.1 HC.out).1]) (by decide) rfl
      simp only[Nat.add_zero] at L6
      have b6:=B5.out.setCell (p:=⟨gC,k*2,none⟩) hBC6 (.int .i64 ev)
      obtain⟨hg7,c',hc',g0,g1⟩:=L6.ceAt HCE.out hk
      have hc':((M.cs.set k ⟨c.val,idOf i t.tx⟩).set k ⟨ev,idOf i t.tx⟩)[k]?=some c':=hc'
      rw[List.set_set,List.getElem?_set_self (List.getElem?_eq_some_iff.1 HC.out).1] at hc'
      obtain rfl:=Option.some.inj hc'
      have z0:=row_cell L6.row 0
      have lm6:=row_lt L6.row
      have HL6:=hid L6
      have HB6:=hid b6
      clear L6 kd6 km6 ro6 hrz b6 g1
      go_wp2_with fail
      refine wp_region_x [0,0,0,1,0,0,0,0,1,2] [0,1,2,3,4,5,6,7,8,9] (by kernel_rfl) ?_
      simp only[selX,guardAt,sD,sE,sF,sG]
      repeat first|(refine wpL_p fun K hK=>?_;go_simp;refine hK _ _ ?_;clear hK K)|(apply wpL_s;(intro w2 hw2;have hk1:=hw2.cell;have hk3:=hw2.heap;clear hw2;go_simp;with_reducible rfl);simp only[Act.put,sA,sB,sC])|refine wpL_yes rfl rfl ?_|(refine wpL_no rfl rfl fun K hK=>?_;simp only[Act.put,sA,sB,sC];refine hK _ _ ?_;clear hK K)|refine wpL_nil ?_
      refine wpL_e (fun K hK=>?_)
      go_simp
      refine(la_said (HL6.out.below (Below.refl _ _).drew) i hi HT.out ev false hev hl).mono ?_
      rintro e X7 ⟨rfl,hb,ve',us',hla⟩
      refine hK _ _ ?_
      clear hK K
      have B7:=hid (HB6.out.drew.trans hb)
      have L7:=hid hla
      clear hb hla g0 z0 ffz gz0
      repeat first|(refine wpL_p fun K hK=>?_;go_simp;refine hK _ _ ?_;clear hK K)|(apply wpL_s;(intro w2 hw2;have hk1:=hw2.cell;have hk3:=hw2.heap;clear hw2;go_simp;with_reducible rfl);simp only[Act.put,sA,sB,sC])|refine wpL_yes rfl rfl ?_|(refine wpL_no rfl rfl fun K hK=>?_;simp only[Act.put,sA,sB,sC];refine hK _ _ ?_;clear hK K)|refine wpL_nil ?_
      go_wp2
      go_ret
      refine⟨rfl,B7.out,ve',us',?_⟩
      rw[HY1.out];(first|rw[if_pos trivial]|rw[if_pos rfl]);rw[HF.out]
      have h9:=L7.out
      simp only[List.set_set] at h9
      first|exact h9|(simp only[Bool.false_eq_true,if_false];exact h9)
     |none=>
      have lk:=lookOkI MS5.out HCS.out.dom hkd hf
      have HF:=hid (show(fnd (k:Int) s).isSome=false from by rw[hf];rfl)
      clear hf
      obtain⟨hg7,c',hc',g0,g1⟩:=HL5.out.ceAt HCE.out hk
      have hc':(M.cs.set k ⟨c.val,idOf i t.tx⟩)[k]?=some c':=hc'
      rw[List.getElem?_set_self (List.getElem?_eq_some_iff.1 HC.out).1] at hc'
      obtain rfl:=Option.some.inj hc'
      go_wp2_with fail
      refine wp_region_x [0,1,0,1,0,0,0,1,2] [0,1,2,3,4,5,6,7,8] (by kernel_rfl) ?_
      simp only[selX,guardAt,sD,sE,sF,sG]
      repeat first|(refine wpL_p fun K hK=>?_;go_simp;refine hK _ _ ?_;clear hK K)|(apply wpL_s;(intro w2 hw2;have hk1:=hw2.cell;have hk3:=hw2.heap;clear hw2;go_simp;with_reducible rfl);simp only[Act.put,sA,sB,sC])|refine wpL_yes rfl rfl ?_|(refine wpL_no rfl rfl fun K hK=>?_;simp only[Act.put,sA,sB,sC];refine hK _ _ ?_;clear hK K)|refine wpL_nil ?_
      refine wpL_e (fun K hK=>?_)
      refine(MS5.out.drew).wp_store keyI elem_int HCS.out.dom HSS.out Tryz.underlying133 (v:=c.val) (by have:=HCS.out.len HSS.out;unfold maxLen;omega) hkd rfl (by rfl) (by rfl) (by rfl) ?_
      intro X6 h6 t6
      refine hK _ _ ?_
      clear hK K
      have L6:=(HL5.out.below (Below.refl _ _).drew).store (i:=i) HU.out (.inr rfl) t6 (o':=some (upd (k:Int) () r,upd (k:Int) c.val s)) ⟨br,bs,rfl,hbr,hbs,hne,(IsMapK.tight HMR5.out).drew.obj (turned_other t6 hne),h6.tight,HCR.out.upd (by omega) (by omega),srt_upd HSR.out,HCS.out.upd (by omega) (by omega),srt_upd HSS.out⟩
      have B6:=hid (B5.out.drew.trans (Below.turned t6 hbs))
      have kt:=Kd.turned (T:=fun _=>False) t6
      have r76:=kt _ _ _ _ R75.out (fun h=>h)
      have re6:=kt _ _ _ _ RE5.out (fun h=>h)
      have f6:=row_cell re6 6
      have lE:=row_lt re6
      have HL6:=hid L6
      clear h6 t6 L6 kt r76 re6 x70 x71 f3 f4 lk g0 g1 hg7 l7
      repeat first|(refine wpL_p fun K hK=>?_;go_simp;refine hK _ _ ?_;clear hK K)|(apply wpL_s;(intro w2 hw2;have hk1:=hw2.cell;have hk3:=hw2.heap;clear hw2;go_simp;with_reducible rfl);simp only[Act.put,sA,sB,sC])|refine wpL_yes rfl rfl ?_|(refine wpL_no rfl rfl fun K hK=>?_;simp only[Act.put,sA,sB,sC];refine hK _ _ ?_;clear hK K)|refine wpL_nil ?_
      have hg6:=((HL6.out).cells.lt gC (by rw[HCE.out];rfl)).2
      obtain⟨csz,hrz⟩:=HL6.out.ceRow HCE.out
      have ffz:=row_free hrz (k*2)
      obtain⟨-,cz,-,gz0,-⟩:=HL6.out.ceAt HCE.out hk
      obtain⟨L6,hBC6,kd6,km6,ro6⟩:=HL6.out.ceSet HCE.out (k:=k) (j:=0) (c:=⟨c.val,idOf i t.tx⟩) (u:=⟨ev,idOf i t.tx⟩) (a:=.int .i64 ev) (by show(M.cs.set k _)[k]?=_;rw[List.getElem?_set_self (List.getElem?_eq_some_iff.1 HC.out).1]) (by decide) rfl
      simp only[Nat.add_zero] at L6
      have b6:=B6.out.setCell (p:=⟨gC,k*2,none⟩) hBC6 (.int .i64 ev)
      obtain⟨hg7,c',hc',g0,g1⟩:=L6.ceAt HCE.out hk
      have hc':((M.cs.set k ⟨c.val,idOf i t.tx⟩).set k ⟨ev,idOf i t.tx⟩)[k]?=some c':=hc'
      rw[List.set_set,List.getElem?_set_self (List.getElem?_eq_some_iff.1 HC.out).1] at hc'
      obtain rfl:=Option.some.inj hc'
      have z0:=row_cell L6.row 0
      have lm6:=row_lt L6.row
      have HLx:=hid L6
      have HBx:=hid b6
      clear L6 kd6 km6 ro6 hrz b6 g1
      go_wp2_with fail
      refine wp_region_x [0,0,0,1,0,0,0,0,1,2] [0,1,2,3,4,5,6,7,8,9] (by kernel_rfl) ?_
      simp only[selX,guardAt,sD,sE,sF,sG]
      repeat first|(refine wpL_p fun K hK=>?_;go_simp;refine hK _ _ ?_;clear hK K)|(apply wpL_s;(intro w2 hw2;have hk1:=hw2.cell;have hk3:=hw2.heap;clear hw2;go_simp;with_reducible rfl);simp only[Act.put,sA,sB,sC])|refine wpL_yes rfl rfl ?_|(refine wpL_no rfl rfl fun K hK=>?_;simp only[Act.put,sA,sB,sC];refine hK _ _ ?_;clear hK K)|refine wpL_nil ?_
      refine wpL_e (fun K hK=>?_)
      go_simp
      refine(la_said (HLx.out.below (Below.refl _ _).drew) i hi HT.out ev false hev hl).mono ?_
      rintro e X7 ⟨rfl,hb,ve',us',hla⟩
      refine hK _ _ ?_
      clear hK K
      have B7:=hid (HBx.out.drew.trans hb)
      have L7:=hid hla
      clear hb hla g0 z0 ffz gz0
      repeat first|(refine wpL_p fun K hK=>?_;go_simp;refine hK _ _ ?_;clear hK K)|(apply wpL_s;(intro w2 hw2;have hk1:=hw2.cell;have hk3:=hw2.heap;clear hw2;go_simp;with_reducible rfl);simp only[Act.put,sA,sB,sC])|refine wpL_yes rfl rfl ?_|(refine wpL_no rfl rfl fun K hK=>?_;simp only[Act.put,sA,sB,sC];refine hK _ _ ?_;clear hK K)|refine wpL_nil ?_
      go_wp2
      go_ret
      refine⟨rfl,B7.out,ve',us',?_⟩
      rw[HY1.out];(first|rw[if_pos trivial]|rw[if_pos rfl]);rw[HF.out]
      have h9:=L7.out
      simp only[List.set_set] at h9
      first|exact h9|(simp only[Bool.false_eq_true,if_false];exact h9)
    ·have qo:(eo==2)=false:=by simpa using hop
     obtain⟨hg7,c',hc',g0,g1⟩:=HL5.out.ceAt HCE.out hk
     have hc':(M.cs.set k ⟨c.val,idOf i t.tx⟩)[k]?=some c':=hc'
     rw[List.getElem?_set_self (List.getElem?_eq_some_iff.1 HC.out).1] at hc'
     obtain rfl:=Option.some.inj hc'
     have z0:=row_cell HL5.out.row 0
     have lm6:=row_lt HL5.out.row
     go_wp2_with fail
     refine wp_region_x [0,0,0,1,0,0,0,0,1,2] [0,1,2,3,4,5,6,7,8,9] (by kernel_rfl) ?_
     simp only[selX,guardAt,sD,sE,sF,sG]
     repeat first|(refine wpL_p fun K hK=>?_;go_simp;refine hK _ _ ?_;clear hK K)|(apply wpL_s;(intro w2 hw2;have hk1:=hw2.cell;have hk3:=hw2.heap;clear hw2;go_simp;with_reducible rfl);simp only[Act.put,sA,sB,sC])|refine wpL_yes rfl rfl ?_|(refine wpL_no rfl rfl fun K hK=>?_;simp only[Act.put,sA,sB,sC];refine hK _ _ ?_;clear hK K)|refine wpL_nil ?_
     refine wpL_e (fun K hK=>?_)
     go_simp
     refine(la_said (HL5.out.below (Below.refl _ _).drew) i hi HT.out c.val false hbv hl).mono ?_
     rintro e X7 ⟨rfl,hb,ve',us',hla⟩
     refine hK _ _ ?_
     clear hK K
     have B7:=hid (B5.out.drew.trans hb)
     have L7:=hid hla
     clear hb hla g0 z0
     repeat first|(refine wpL_p fun K hK=>?_;go_simp;refine hK _ _ ?_;clear hK K)|(apply wpL_s;(intro w2 hw2;have hk1:=hw2.cell;have hk3:=hw2.heap;clear hw2;go_simp;with_reducible rfl);simp only[Act.put,sA,sB,sC])|refine wpL_yes rfl rfl ?_|(refine wpL_no rfl rfl fun K hK=>?_;simp only[Act.put,sA,sB,sC];refine hK _ _ ?_;clear hK K)|refine wpL_nil ?_
     go_wp2
     go_ret
     refine⟨rfl,B7.out,ve',us',?_⟩
     rw[HY1.out,if_neg hop]
     exact L7.out
   ·have qa:(c.own !=0)=true:=by simp[h0]
    have qb:(c.own !=idOf i t.tx)=false:=by simp[h1]
    have H0:=hid (And.intro h0 h1)
    clear h0 h1
    go_wp2_with (at_mapUpdate;refine Stop.halt ?_)
    refine Stop.go ?_
    generalize X.setCell ⟨gC,k*2+1,none⟩ (.int .i64 (idOf i t.tx))=X4 at *
    refine MR4.out.wpList_store keyI elem_bool HCR.out.dom HSR.out Tryz.underlying132 (v:=()) (by have:=HCR.out.len HSR.out;unfold maxLen;omega) hkd rfl rfl (by rfl) (by rfl) (by rfl) ?_
    intro X5 h5 t5
    have L5:=HL4.out.store (i:=i) HU.out (.inl rfl) t5 (o':=some (upd (k:Int) () r,s)) ⟨br,bs,rfl,hbr,hbs,hne,h5.tight,MS4.out.obj (turned_other t5 (Ne.symm hne)),HCR.out.upd (by omega) (by omega),srt_upd HSR.out,HCS.out,HSS.out⟩
    have ms5:=MS4.out.obj (turned_other t5 (Ne.symm hne))
    have B5:=hid (HB4.out.trans (Below.turned t5 hbr))
    have kt:=Kd.turned (T:=fun _=>False) t5
    have r75:=kt _ _ _ _ R74.out (fun h=>h)
    have re5:=kt _ _ _ _ RE4.out (fun h=>h)
    have HMR5:=hid h5
    have x70:=row_cell r75 0
    have x71:=row_cell r75 1
    have f3:=row_cell re5 3
    have f4:=row_cell re5 4
    have f6:=row_cell re5 6
    have l7:=row_lt r75
    have lE:=row_lt re5
    have HL5:=hid L5
    have MS5:=hid ms5
    have R75:=hid r75
    have RE5:=hid re5
    clear h5 t5 L5 ms5 kt r75 re5 x70' x71' l7' lE' y0 y1 y0v hE e4 e6
    by_cases hop:eo=2
    ·subst hop
     have qo:((2:Int)==2)=true:=rfl
     cases hf:fnd (k:Int) s with
     |some v=>
      have lk:=lookOkI MS5.out HCS.out.dom hkd hf
      have HF:=hid (show(fnd (k:Int) s).isSome=true from by rw[hf];rfl)
      clear hf
      have hg6:=((HL5.out).cells.lt gC (by rw[HCE.out];rfl)).2
      obtain⟨csz,hrz⟩:=HL5.out.ceRow HCE.out
      have ffz:=row_free hrz (k*2)
      obtain⟨-,cz,-,gz0,-⟩:=HL5.out.ceAt HCE.out hk
      obtain⟨L6,hBC6,kd6,km6,ro6⟩:=HL5.out.ceSet HCE.out (k:=k) (j:=0) (c:=⟨c.val,idOf i t.tx⟩) (u:=⟨ev,idOf i t.tx⟩) (a:=.int .i64 ev) (by show(M.cs.set k _)[k]?=_;rw[List.getElem?_set_self (List.getElem?_eq_some_iff.1 HC.out).1]) (by decide) rfl
      simp only[Nat.add_zero] at L6
      have b6:=B5.out.setCell (p:=⟨gC,k*2,none⟩) hBC6 (.int .i64 ev)
      obtain⟨hg7,c',hc',g0,g1⟩:=L6.ceAt HCE.out hk
      have hc':((M.cs.set k ⟨c.val,idOf i t.tx⟩).set k ⟨ev,idOf i t.tx⟩)[k]?=some c':=hc'
      rw[List.set_set,List.getElem?_set_self (List.getElem?_eq_some_iff.1 HC.out).1] at hc'
      obtain rfl:=Option.some.inj hc'
      have z0:=row_cell L6.row 0
      have lm6:=row_lt L6.row
      have HL6:=hid L6
      have HB6:=hid b6
      clear L6 kd6 km6 ro6 hrz b6 g1
      go_wp2_with fail
      refine wp_region_x [0,0,0,1,0,0,0,0,1,2] [0,1,2,3,4,5,6,7,8,9] (by kernel_rfl) ?_
      simp only[selX,guardAt,sD,sE,sF,sG]
      repeat first|(refine wpL_p fun K hK=>?_;go_simp;refine hK _ _ ?_;clear hK K)|(apply wpL_s;(intro w2 hw2;have hk1:=hw2.cell;have hk3:=hw2.heap;clear hw2;go_simp;with_reducible rfl);simp only[Act.put,sA,sB,sC])|refine wpL_yes rfl rfl ?_|(refine wpL_no rfl rfl fun K hK=>?_;simp only[Act.put,sA,sB,sC];refine hK _ _ ?_;clear hK K)|refine wpL_nil ?_
      refine wpL_e (fun K hK=>?_)
      go_simp
      refine(la_said (HL6.out.below (Below.refl _ _).drew) i hi HT.out ev false hev hl).mono ?_
      rintro e X7 ⟨rfl,hb,ve',us',hla⟩
      refine hK _ _ ?_
      clear hK K
      have B7:=hid (HB6.out.drew.trans hb)
      have L7:=hid hla
      clear hb hla g0 z0 ffz gz0
      repeat first|(refine wpL_p fun K hK=>?_;go_simp;refine hK _ _ ?_;clear hK K)|(apply wpL_s;(intro w2 hw2;have hk1:=hw2.cell;have hk3:=hw2.heap;clear hw2;go_simp;with_reducible rfl);simp only[Act.put,sA,sB,sC])|refine wpL_yes rfl rfl ?_|(refine wpL_no rfl rfl fun K hK=>?_;simp only[Act.put,sA,sB,sC];refine hK _ _ ?_;clear hK K)|refine wpL_nil ?_
      go_wp2
      go_ret
      refine⟨rfl,B7.out,ve',us',?_⟩
      rw[HY1.out];(first|rw[if_pos trivial]|rw[if_pos rfl]);rw[HF.out]
      have h9:=L7.out
      simp only[List.set_set] at h9
      first|exact h9|(simp only[Bool.false_eq_true,if_false];exact h9)
     |none=>
      have lk:=lookOkI MS5.out HCS.out.dom hkd hf
      have HF:=hid (show(fnd (k:Int) s).isSome=false from by rw[hf];rfl)
      clear hf
      obtain⟨hg7,c',hc',g0,g1⟩:=HL5.out.ceAt HCE.out hk
      have hc':(M.cs.set k ⟨c.val,idOf i t.tx⟩)[k]?=some c':=hc'
      rw[List.getElem?_set_self (List.getElem?_eq_some_iff.1 HC.out).1] at hc'
      obtain rfl:=Option.some.inj hc'
      go_wp2_with fail
      refine wp_region_x [0,1,0,1,0,0,0,1,2] [0,1,2,3,4,5,6,7,8] (by kernel_rfl) ?_
      simp only[selX,guardAt,sD,sE,sF,sG]
      repeat first|(refine wpL_p fun K hK=>?_;go_simp;refine hK _ _ ?_;clear hK K)|(apply wpL_s;(intro w2 hw2;have hk1:=hw2.cell;have hk3:=hw2.heap;clear hw2;go_simp;with_reducible rfl);simp only[Act.put,sA,sB,sC])|refine wpL_yes rfl rfl ?_|(refine wpL_no rfl rfl fun K hK=>?_;simp only[Act.put,sA,sB,sC];refine hK _ _ ?_;clear hK K)|refine wpL_nil ?_
      refine wpL_e (fun K hK=>?_)
      refine(MS5.out.drew).wp_store keyI elem_int HCS.out.dom HSS.out Tryz.underlying133 (v:=c.val) (by have:=HCS.out.len HSS.out;unfold maxLen;omega) hkd rfl (by rfl) (by rfl) (by rfl) ?_
      intro X6 h6 t6
      refine hK _ _ ?_
      clear hK K
      have L6:=(HL5.out.below (Below.refl _ _).drew).store (i:=i) HU.out (.inr rfl) t6 (o':=some (upd (k:Int) () r,upd (k:Int) c.val s)) ⟨br,bs,rfl,hbr,hbs,hne,(IsMapK.tight HMR5.out).drew.obj (turned_other t6 hne),h6.tight,HCR.out.upd (by omega) (by omega),srt_upd HSR.out,HCS.out.upd (by omega) (by omega),srt_upd HSS.out⟩
      have B6:=hid (B5.out.drew.trans (Below.turned t6 hbs))
      have kt:=Kd.turned (T:=fun _=>False) t6
      have r76:=kt _ _ _ _ R75.out (fun h=>h)
      have re6:=kt _ _ _ _ RE5.out (fun h=>h)
      have f6:=row_cell re6 6
      have lE:=row_lt re6
      have HL6:=hid L6
      clear h6 t6 L6 kt r76 re6 x70 x71 f3 f4 lk g0 g1 hg7 l7
      repeat first|(refine wpL_p fun K hK=>?_;go_simp;refine hK _ _ ?_;clear hK K)|(apply wpL_s;(intro w2 hw2;have hk1:=hw2.cell;have hk3:=hw2.heap;clear hw2;go_simp;with_reducible rfl);simp only[Act.put,sA,sB,sC])|refine wpL_yes rfl rfl ?_|(refine wpL_no rfl rfl fun K hK=>?_;simp only[Act.put,sA,sB,sC];refine hK _ _ ?_;clear hK K)|refine wpL_nil ?_
      have hg6:=((HL6.out).cells.lt gC (by rw[HCE.out];rfl)).2
      obtain⟨csz,hrz⟩:=HL6.out.ceRow HCE.out
      have ffz:=row_free hrz (k*2)
      obtain⟨-,cz,-,gz0,-⟩:=HL6.out.ceAt HCE.out hk
      obtain⟨L6,hBC6,kd6,km6,ro6⟩:=HL6.out.ceSet HCE.out (k:=k) (j:=0) (c:=⟨c.val,idOf i t.tx⟩) (u:=⟨ev,idOf i t.tx⟩) (a:=.int .i64 ev) (by show(M.cs.set k _)[k]?=_;rw[List.getElem?_set_self (List.getElem?_eq_some_iff.1 HC.out).1]) (by decide) rfl
      simp only[Nat.add_zero] at L6
      have b6:=B6.out.setCell (p:=⟨gC,k*2,none⟩) hBC6 (.int .i64 ev)
      obtain⟨hg7,c',hc',g0,g1⟩:=L6.ceAt HCE.out hk
      have hc':((M.cs.set k ⟨c.val,idOf i t.tx⟩).set k ⟨ev,idOf i t.tx⟩)[k]?=some c':=hc'
      rw[List.set_set,List.getElem?_set_self (List.getElem?_eq_some_iff.1 HC.out).1] at hc'
      obtain rfl:=Option.some.inj hc'
      have z0:=row_cell L6.row 0
      have lm6:=row_lt L6.row
      have HLx:=hid L6
      have HBx:=hid b6
      clear L6 kd6 km6 ro6 hrz b6 g1
      go_wp2_with fail
      refine wp_region_x [0,0,0,1,0,0,0,0,1,2] [0,1,2,3,4,5,6,7,8,9] (by kernel_rfl) ?_
      simp only[selX,guardAt,sD,sE,sF,sG]
      repeat first|(refine wpL_p fun K hK=>?_;go_simp;refine hK _ _ ?_;clear hK K)|(apply wpL_s;(intro w2 hw2;have hk1:=hw2.cell;have hk3:=hw2.heap;clear hw2;go_simp;with_reducible rfl);simp only[Act.put,sA,sB,sC])|refine wpL_yes rfl rfl ?_|(refine wpL_no rfl rfl fun K hK=>?_;simp only[Act.put,sA,sB,sC];refine hK _ _ ?_;clear hK K)|refine wpL_nil ?_
      refine wpL_e (fun K hK=>?_)
      go_simp
      refine(la_said (HLx.out.below (Below.refl _ _).drew) i hi HT.out ev false hev hl).mono ?_
      rintro e X7 ⟨rfl,hb,ve',us',hla⟩
      refine hK _ _ ?_
      clear hK K
      have B7:=hid (HBx.out.drew.trans hb)
      have L7:=hid hla
      clear hb hla g0 z0 ffz gz0
      repeat first|(refine wpL_p fun K hK=>?_;go_simp;refine hK _ _ ?_;clear hK K)|(apply wpL_s;(intro w2 hw2;have hk1:=hw2.cell;have hk3:=hw2.heap;clear hw2;go_simp;with_reducible rfl);simp only[Act.put,sA,sB,sC])|refine wpL_yes rfl rfl ?_|(refine wpL_no rfl rfl fun K hK=>?_;simp only[Act.put,sA,sB,sC];refine hK _ _ ?_;clear hK K)|refine wpL_nil ?_
      go_wp2
      go_ret
      refine⟨rfl,B7.out,ve',us',?_⟩
      rw[HY1.out];(first|rw[if_pos trivial]|rw[if_pos rfl]);rw[HF.out]
      have h9:=L7.out
      simp only[List.set_set] at h9
      first|exact h9|(simp only[Bool.false_eq_true,if_false];exact h9)
    ·have qo:(eo==2)=false:=by simpa using hop
     obtain⟨hg7,c',hc',g0,g1⟩:=HL5.out.ceAt HCE.out hk
     have hc':(M.cs.set k ⟨c.val,idOf i t.tx⟩)[k]?=some c':=hc'
     rw[List.getElem?_set_self (List.getElem?_eq_some_iff.1 HC.out).1] at hc'
     obtain rfl:=Option.some.inj hc'
     have z0:=row_cell HL5.out.row 0
     have lm6:=row_lt HL5.out.row
     go_wp2_with fail
     refine wp_region_x [0,0,0,1,0,0,0,0,1,2] [0,1,2,3,4,5,6,7,8,9] (by kernel_rfl) ?_
     simp only[selX,guardAt,sD,sE,sF,sG]
     repeat first|(refine wpL_p fun K hK=>?_;go_simp;refine hK _ _ ?_;clear hK K)|(apply wpL_s;(intro w2 hw2;have hk1:=hw2.cell;have hk3:=hw2.heap;clear hw2;go_simp;with_reducible rfl);simp only[Act.put,sA,sB,sC])|refine wpL_yes rfl rfl ?_|(refine wpL_no rfl rfl fun K hK=>?_;simp only[Act.put,sA,sB,sC];refine hK _ _ ?_;clear hK K)|refine wpL_nil ?_
     refine wpL_e (fun K hK=>?_)
     go_simp
     refine(la_said (HL5.out.below (Below.refl _ _).drew) i hi HT.out c.val false hbv hl).mono ?_
     rintro e X7 ⟨rfl,hb,ve',us',hla⟩
     refine hK _ _ ?_
     clear hK K
     have B7:=hid (B5.out.drew.trans hb)
     have L7:=hid hla
     clear hb hla g0 z0
     repeat first|(refine wpL_p fun K hK=>?_;go_simp;refine hK _ _ ?_;clear hK K)|(apply wpL_s;(intro w2 hw2;have hk1:=hw2.cell;have hk3:=hw2.heap;clear hw2;go_simp;with_reducible rfl);simp only[Act.put,sA,sB,sC])|refine wpL_yes rfl rfl ?_|(refine wpL_no rfl rfl fun K hK=>?_;simp only[Act.put,sA,sB,sC];refine hK _ _ ?_;clear hK K)|refine wpL_nil ?_
     go_wp2
     go_ret
     refine⟨rfl,B7.out,ve',us',?_⟩
     rw[HY1.out,if_neg hop]
     exact L7.out
end
end
section
attribute [local irreducible] wpL
def SmallRet (P:Pg) (w:World) (e:Ending) (w':World):Prop:=∃b:Bool,e=.returned (.bool b)∧(b=true→P.threads.length≤20)∧Below w.heap.size w w'
theorem l_small20 (vc vt:Value) (P:Pg) (w:World) (h:PgIs w w.heap.size vc vt P):
  Calls Tryz.prog 8 #[.agg #[vc,vt]] w (SmallRet P w):=by
 obtain⟨ac,cc,rfl,mc⟩:=h.cells.ex
 obtain⟨at',ct,rfl,mt⟩:=h.thr.ex
 have r0:=row_new w (.cells #[.slice ac P.cells.length cc,.slice at' P.threads.length ct] 25)
 have b0:Below w.heap.size w (w.alloc (.cells #[.slice ac P.cells.length cc,.slice at' P.threads.length ct] 25)):=(Below.refl _ w).alloc (Nat.le_refl _) _
 have H0:=hid ((h.below b0).more b0.size)
 have B0:=hid b0
 have z0:=row_lt r0
 clear h b0
 go_enter Tryz.func8,Tryz.ntmps8
 go_wp2_with fail
 generalize w.alloc (.cells #[.slice ac P.cells.length cc,.slice at' P.threads.length ct] 25)=W at *
 have d0:W.cell? ⟨w.heap.size,0,none⟩=some (.slice ac P.cells.length cc):=row_cell r0 0
 have d1:W.cell? ⟨w.heap.size,1,none⟩=some (.slice at' P.threads.length ct):=row_cell r0 1
 clear r0
 go_loop [3,4] (fun n i=>∃(k:Nat) (m:Int),k≤P.threads.length∧k≤21∧i=.int .i64 k∧n=.int .i64 m) (fun _ i=>21 - (intOf i).toNat)
 case atStart=>exact⟨0,0,by omega,by omega,by go_num,rfl⟩
 case round=>
  obtain⟨k,m,hk,hk2,rfl,rfl⟩:=hrel
  by_cases hlt:k < P.threads.length
  ·by_cases h20:k≤20
   ·obtain ⟨b,off,u,t,hat,hb,ht,hu,hut⟩:=H0.out.thr.at rfl hlt
    obtain⟨au,cu,rfl,mu⟩:=hut.ex
    have HUT:=hid hut
    subst hat
    clear hut ht
    obtain⟨q,hmin⟩:∃q:Int,∀(ts:Array TypeId) (ty:TypeId) (X:World),(Builtin.min_ ts ty #[.int .i64 (t.length:Int),.int .i64 100]).run Tryz.prog X=.ok (.int .i64 q) X:=⟨_,fun ts ty X=>run_min_int2 ..⟩
    go_wp2_with fail
    clear hmin
    go_loop [3,5] (fun n i=>∃(j:Nat) (m:Int),j≤t.length∧j≤21∧i=.int .i64 j∧n=.int .i64 m) (fun _ i=>21 - (intOf i).toNat)
    case atStart=>exact⟨0,_,by omega,by omega,by go_num,rfl⟩
    case round=>
     obtain⟨j,m2,hj,hj2,rfl,rfl⟩:=hrel
     by_cases hlj:j < t.length
     ·by_cases h20j:j≤20
      ·obtain ⟨b2,off2,u2,l,hal,hb2,hl2,hu2,hul⟩:=HUT.out.at rfl hlj
       obtain⟨al,cl,rfl,ml⟩:=Sl.ex (show Sl W W.heap.size 3 u2 l.length (l.flatMap Ac.cells) from hul)
       subst hal
       clear hul hl2
       obtain⟨q2,hmin⟩:∃q:Int,∀(ts:Array TypeId) (ty:TypeId) (X:World),(Builtin.min_ ts ty #[.int .i64 (l.length:Int),.int .i64 100]).run Tryz.prog X=.ok (.int .i64 q) X:=⟨_,fun ts ty X=>run_min_int2 ..⟩
       go_wp2_with fail
       go_round
       case rel=>exact⟨j+1,_,by omega,by omega,by go_num,rfl⟩
       case measure=>simp[intOf];omega
      ·obtain rfl:j=21:=by omega
       go_wp2_with fail
       go_round
       case rel=>exact⟨k+1,_,by omega,by omega,by go_num,rfl⟩
       case measure=>simp[intOf];omega
     ·obtain rfl:j=t.length:=by omega
      go_wp2_with fail
      go_round
      case rel=>exact⟨k+1,_,by omega,by omega,by go_num,rfl⟩
      case measure=>simp[intOf];omega
   ·obtain rfl:k=21:=by omega
    have q:decide (P.threads.length≤20)=false:=by simp;omega
    go_wp2
    go_ret
    exact⟨_,rfl,fun h=>by simp at h,B0.out⟩
  ·obtain rfl:k=P.threads.length:=by omega
   by_cases h20:P.threads.length≤20
   ·by_cases hc1:P.cells.length≤100
    ·go_wp2
     go_ret
     exact⟨_,rfl,fun _=>h20,B0.out⟩
    ·have q:decide (P.cells.length≤100)=false:=by simp;omega
     go_wp2
     go_ret
     exact⟨_,rfl,fun _=>h20,B0.out⟩
   ·have q:decide (P.threads.length≤20)=false:=by simp;omega
    go_wp2
    go_ret
    exact⟨_,rfl,fun h=>by simp at h,B0.out⟩
end
