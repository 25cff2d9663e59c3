/- Parts of the proof, merged by program out of 1 texts (EoC): the first: The engine late: it answers. Conditions: those of each theorem, as typed. -/
import Derived.Test.YtkfhgifhfkcehaaGreatDoorQL41
set_option linter.unusedVariables false
set_option linter.unusedSimpArgs false
set_option linter.unusedSectionVars false
set_option maxRecDepth 100000
set_option maxHeartbeats 4000000
namespace Go.Proofs.YtkfhgifhfkcehaaGreatDoor
open Go.Maps Go.RowKit
section
attribute [local irreducible] wpL
section
variable {w:World} {C:LC} {ve:Value} {P:Pg} {M:LM} {us:List (Value×Value)}
def AnsMid (C:LC) (P:Pg) (w W:World) (i k:Nat) (ek ex eh eo ey ev er:Int) (br bs gC nc cc:Nat) (c:Ce):Exit→Act→World→Prop:=fun e a' X=>
 ∃b7 b8:Nat,e=.normal∧a'={tmps:=#[.pointer (some ⟨C.bM,0,none⟩),.int .i64 i,evV ⟨ek,ex,eh,(k:Nat),eo,ey,ev,er⟩,undef,undef,.pointer (some ⟨w.heap.size,0,none⟩),.nilFunc,.pointer (some ⟨b7,0,none⟩),.pointer (some ⟨b8,0,none⟩),undef,undef,undef,undef,.pointer (some ⟨C.bM,0,none⟩),.pointer (some ⟨C.bM,0,none⟩),.pointer (some ⟨C.bM,2,none⟩),.slice (some ⟨C.gW,0,none⟩) P.threads.length P.threads.length,.int .i64 i,.pointer (some ⟨C.gW,i*2,none⟩),.agg #[.map (some br),.map (some bs)],.pointer (some ⟨C.bM,0,none⟩),.pointer (some ⟨C.bM,0,none⟩),.pointer (some ⟨C.bM,1,none⟩),.slice (some ⟨gC,0,none⟩) nc cc,.pointer (some ⟨w.heap.size,3,none⟩),.int .i64 (k:Nat),.pointer (some ⟨gC,k*2,none⟩),.agg #[.int .i64 c.val,.int .i64 c.ver],undef,undef,undef,undef,undef,undef,undef,undef,undef,undef,undef,undef,undef,undef,undef,undef,undef,undef,undef,undef,undef,undef,undef,undef,undef,undef,undef,undef,undef,undef,undef,undef,undef,undef,undef,undef,undef,undef,undef,undef,undef,undef,undef,undef,undef,undef,undef,undef,undef,undef,undef,undef,undef,undef,undef,undef,undef],defers:=[]}∧X.heap[b7]?=some (.cells #[.map (some br),.map (some bs)] 308 (0,0))∧X.heap[b8]?=some (.cells #[.int .i64 c.val,.int .i64 c.ver] 253 (0,0))∧Below W.heap.size W X
theorem LaAt.store (h:LaAt w C ve us P M) {w1:World} {i b:Nat} {u:Value×Value} {o':Wo} (hu:us[i]?=some u) (hb:mbs u b) (ht:w.mapTurned w1 b) (hw:WoAt w1 C.B u o'):LaAt w1 C ve us P {M with ws:=M.ws.set i o'}:=
 h.turn (Kd.turned ht) (OwnF.kd h.cells (Kd.turned (T:=fun _=>False) ht) (fun h=>h)) h.clen (h.wks.store hu hb ht hw)
theorem la_answer (h:LaAt w C ve us P M) (i:Nat) (hi:i < P.threads.length) {t:Th} (ht:M.W.ths[i]?=some t) (hl:M.W.evs.length≤100000) {r s:MI} (hws:M.ws[i]?=some (some (r,s)))
  (k:Nat) (ek ex eh eo ey ev er:Int) (hk:k < P.cells.length) (hb1:∀v,fnd (k:Int) s=some v→-999999000≤v∧v≤999999000) (hb2:∀c,M.cs[k]?=some c→-999999000≤c.val∧c.val≤999999000):
  Calls Tryz.prog 183 #[.pointer (some ⟨C.bM,0,none⟩),.int .i64 i,evV ⟨ek,ex,eh,(k:Nat),eo,ey,ev,er⟩] w (LaPost C P (ansStep P M i t ⟨ek,ex,eh,(k:Nat),eo,ey,ev,er⟩ r s) .nilFunc w):=by
 have hk4:k < 4:=by have:=h.ok.cells.2;omega
 have hn4:=h.ok.threads.2
 have hkd:dI (k:Int):=dI_small (by omega) (by omega)
 obtain⟨u,hu⟩:∃u,us[i]?=some u:=⟨_,List.getElem?_eq_getElem (by have:=h.wks.own.len;omega)⟩
 obtain⟨o,ho,hwo⟩:=h.wks.at hu
 rw[hws] at ho
 obtain rfl:=Option.some.inj ho
 obtain⟨br,bs,rfl,hbr,hbs,hne,hmr,hms,hcr,hsr,hcs,hss⟩:=hwo
 obtain⟨gW',off,x,hb,hgW,hx,hcw⟩:=Sl.atF moC_len (show Sl w w.heap.size 2 (.slice (some ⟨C.gW,0,none⟩) P.threads.length P.threads.length) P.threads.length (us.flatMap moC) from by have h2:=h.wks.own;have h3:=h2.len;rw[←h3] at h2 ⊢;exact h2.sl) h.wks.own.len hi
 simp only[Option.some.injEq,Addr.mk.injEq,and_true] at hb
 obtain⟨rfl,rfl⟩:=hb
 rw[hu] at hx
 obtain rfl:=Option.some.inj hx
 have w0:w.cell? ⟨C.gW,i*2,none⟩=some (.map (some br)):=by have:=hcw 0 (by decide);simpa[moC] using this
 have w1:w.cell? ⟨C.gW,i*2+1,none⟩=some (.map (some bs)):=by have:=hcw 1 (by decide);simpa[moC] using this
 obtain⟨aC,cc,hce,-⟩:=h.cells.form2
 have hcl:=h.clen
 obtain⟨gC,off,c,hb,hgC,hc,hcc⟩:=Sl.atF Ce.len (show Sl w w.heap.size 2 (.slice aC M.cs.length cc) M.cs.length (M.cs.flatMap Ce.cells) from by rw[←hce];exact h.cells.sl) rfl (k:=k) (by omega)
 have hg0:off=0:=by
  rcases h.cells.form with⟨hv,-⟩|⟨g,cap,hv,-⟩
  ·rw [hce,hb] at hv;cases hv
  ·rw [hce,hb] at hv;simp only[Value.slice.injEq,Option.some.injEq,Addr.mk.injEq,and_true] at hv;exact hv.1.2
 subst hg0
 subst hb
 have c0:w.cell? ⟨gC,k*2,none⟩=some (.int .i64 c.val):=by have:=hcc 0 (by decide);simpa[Ce.cells] using this
 have c1:w.cell? ⟨gC,k*2+1,none⟩=some (.int .i64 c.ver):=by have:=hcc 1 (by decide);simpa[Ce.cells] using this
 have d1:=row_cell h.row 1
 have d2:=row_cell h.row 2
 rw[hce] at d1
 have lM:=row_lt h.row
 have hbv:=hb2 c hc
 have hval:valAt M.cs (k:Int)=c.val:=by simp[valAt,hc]
 have hver:verAt M.cs (k:Int)=c.ver:=by simp[verAt,hc]
 generalize hnc:M.cs.length=nc at *
 have hkn:k < nc:=by omega
 have H:=hid h
 have HU:=hid hu
 have HT:=hid ht
 have HC:=hid hc
 have HB1:=hid hb1
 have HWS:=hid hws
 have lkd:=hid hkd
 have HP:=hid (show WoAt w C.B (.map (some br),.map (some bs)) (some (r,s)) from⟨br,bs,rfl,hbr,hbs,hne,hmr,hms,hcr,hsr,hcs,hss⟩)
 clear h hu ht hc hb1 hws hcw hcc hce hmr hms hcr hsr hcs hss hb2
 go_enter Tryz.func183,Tryz.ntmps183
 go_wp2_with fail
 have bA:Below w.heap.size w (w.alloc (.cells #[.int .i64 ek,.int .i64 ex,.int .i64 eh,.int .i64 (k:Nat),.int .i64 eo,.int .i64 ey,.int .i64 ev,.int .i64 er] 53)):=(Below.refl _ w).alloc (Nat.le_refl _) _
 have rA:=row_new w (.cells #[.int .i64 ek,.int .i64 ex,.int .i64 eh,.int .i64 (k:Nat),.int .i64 eo,.int .i64 ey,.int .i64 ev,.int .i64 er] 53)
 have zA:(w.alloc (.cells #[.int .i64 ek,.int .i64 ex,.int .i64 eh,.int .i64 (k:Nat),.int .i64 eo,.int .i64 ey,.int .i64 ev,.int .i64 er] 53)).heap.size=w.heap.size+1:=by simp
 generalize w.alloc (.cells #[.int .i64 ek,.int .i64 ex,.int .i64 eh,.int .i64 (k:Nat),.int .i64 eo,.int .i64 ey,.int .i64 ev,.int .i64 er] 53)=W at *
 have lE:w.heap.size < W.heap.size:=by omega
 have lM':C.bM < W.heap.size:=by omega
 have lW':C.gW < W.heap.size:=by omega
 have lC':gC < W.heap.size:=by omega
 have d1:=cell_below bA lM d1
 have d2:=cell_below bA lM d2
 have w0:=cell_below bA hgW w0
 have w1:=cell_below bA hgW w1
 have c0:=cell_below bA hgC c0
 have c1:=cell_below bA hgC c1
 have e3:=row_cell rA 3
 have HA:=hid bA
 have RA:=hid rA
 have ZA:=hid zA
 clear bA rA zA
 refine wp_mono (Q:=AnsMid C P w W i k ek ex eh eo ey ev er br bs gC P.cells.length cc c) ?_ ?_
 ·
  refine wp_rN (W.heap.size) [0,0,0,1,0,0,1,0,0,0,1,0,1,0,1,3,3,3,3] (.frk [0,1,2,3,4,5,6,7,8,9,10,11,12,13,14] (.fin [15,16,17,18]) (.fin [16,15,17,18])) (by kernel_rfl) ?_
  simp only[wpT,selX,guardAt,sD,sE,sF,sG]
  repeat first|(refine wpL_p fun K hK=>?_;go_simp;refine hK _ _ ?_;clear hK K)|(apply wpL_s;(intro w2 hw2;have hk1:=hw2.cell;have hk3:=hw2.1;clear hw2;go_simp;with_reducible rfl);simp only[Act.put,sA,sB,sC])|refine wpL_nil ?_
  refine⟨?_,?_⟩
  ·refine wpL_k (fun K hK=>?_)
   go_simp
   refine hK _ _ (RN.KeepsN.alloc _ _ (by first|omega|exact Nat.le_refl _)) ?_
   clear hK K
   refine wpL_k (fun K hK=>?_)
   go_simp
   refine hK _ _ (RN.KeepsN.alloc _ _ (by simp)) ?_
   clear hK K
   refine wpL_k (fun K hK=>?_)
   go_simp
   refine hK _ _ (KeepsN.both (W:=W) ((RN.KeepsN.alloc _ _ (Nat.le_refl _)).trans (RN.KeepsN.alloc _ _ (by simp))) ((RN.KeepsN.alloc _ _ (Nat.le_refl _)).trans (RN.KeepsN.alloc _ _ (by simp))) (by simp)) ?_
   clear hK K
   refine wpL_k (fun K hK=>?_)
   go_simp
   refine hK _ _ (KeepsN.both (W:=W) ((RN.KeepsN.alloc _ _ (Nat.le_refl _)).trans (RN.KeepsN.alloc _ _ (by simp))) ((RN.KeepsN.alloc _ _ (Nat.le_refl _)).trans (RN.KeepsN.alloc _ _ (by simp))) (by simp)) ?_
   clear hK K
   repeat refine wpL_nil ?_
   exact⟨W.heap.size,W.heap.size+1,rfl,rfl,row_old (row_new W _),row_new' (by simp),(((Below.refl W.heap.size W).alloc (Nat.le_refl _) _).alloc (by simp) _).drew⟩
  ·refine wpL_k (fun K hK=>?_)
   go_simp
   refine hK _ _ (RN.KeepsN.alloc _ _ (by first|omega|exact Nat.le_refl _)) ?_
   clear hK K
   refine wpL_k (fun K hK=>?_)
   go_simp
   refine hK _ _ (RN.KeepsN.alloc _ _ (by simp)) ?_
   clear hK K
   refine wpL_k (fun K hK=>?_)
   go_simp
   refine hK _ _ (KeepsN.both (W:=W) ((RN.KeepsN.alloc _ _ (Nat.le_refl _)).trans (RN.KeepsN.alloc _ _ (by simp))) ((RN.KeepsN.alloc _ _ (Nat.le_refl _)).trans (RN.KeepsN.alloc _ _ (by simp))) (by simp)) ?_
   clear hK K
   refine wpL_k (fun K hK=>?_)
   go_simp
   refine hK _ _ (KeepsN.both (W:=W) ((RN.KeepsN.alloc _ _ (Nat.le_refl _)).trans (RN.KeepsN.alloc _ _ (by simp))) ((RN.KeepsN.alloc _ _ (Nat.le_refl _)).trans (RN.KeepsN.alloc _ _ (by simp))) (by simp)) ?_
   clear hK K
   repeat refine wpL_nil ?_
   exact⟨W.heap.size+1,W.heap.size,rfl,rfl,row_new' (by simp),row_old (row_new W _),(((Below.refl W.heap.size W).alloc (Nat.le_refl _) _).alloc (by simp) _).drew⟩
 ·rintro e a' X ⟨b7,b8,rfl,rfl,r7,r8,bX⟩
  have hE:=cell_below bX lE e3
  have e4:=cell_below bX lE (row_cell RA.out 4)
  have e6:=cell_below bX lE (row_cell RA.out 6)
  have x70:=row_cell r7 0
  have x71:=row_cell r7 1
  have x80:=row_cell r8 0
  have x81:=row_cell r8 1
  have l7:=row_lt r7
  have l8:=row_lt r8
  have lX:=bX.size
  have HX:=hid ((H.out.below HA.out).below bX)
  have HY:=hid (HA.out.trans (bX.mono (by have:=ZA.out;omega)))
  have hB:=H.out.size
  have HQ:=hid (HP.out.keep fun b hb=>by
   obtain⟨-,es,cl,hh⟩:=HP.out.isMap b hb
   rw[row_below hh HY.out (row_lt hh),hh])
  have R7:=hid r7
  have R8:=hid r8
  have x0:X.cell? ⟨C.bM,0,none⟩=some (.pointer (some ⟨C.bD,0,none⟩)):=row_cell HX.out.row 0
  clear r7 r8 bX d1 d2 w0 w1 c0 c1 e3 HA H HP RA
  obtain⟨br',bs',hu,-,-,-,hmr,hms,hcr,hsr,hcs,hss⟩:=HQ.out
  simp only[Prod.mk.injEq,Value.map.injEq,Option.some.injEq] at hu
  obtain⟨rfl,rfl⟩:=hu
  have HMR:=hid hmr
  have HMS:=hid hms
  have HCR:=hid hcr
  have HCS:=hid hcs
  have HSR:=hid hsr
  have HSS:=hid hss
  clear hmr hms hcr hsr hcs hss
  by_cases hop:eo=2
  ·subst hop
   have q1:((2:Int)==2)=true:=rfl
   have lk:=lookOkI HMS.out HCS.out.dom hkd rfl
   go_wp2_with (at_mapUpdate;refine Stop.halt ?_)
   refine Stop.go ?_
   refine HMS.out.wpList_store keyI elem_int HCS.out.dom HSS.out Tryz.underlying133 (v:=ev) (by have:=HCS.out.len HSS.out;unfold maxLen;omega) hkd rfl rfl (by rfl) (by rfl) (by rfl) ?_
   intro X1 h1 t1
   have L1:=HX.out.store (i:=i) HU.out (.inr rfl) t1 (o':=some (r,upd (k:Int) ev s)) ⟨br,bs,rfl,hbr,hbs,hne,HMR.out.obj (turned_other t1 hne),h1.tight,HCR.out,HSR.out,HCS.out.upd (by omega) (by omega),srt_upd HSS.out⟩
   have B1:=hid ((HY.out.mono hB).trans (Below.turned t1 hbs))
   have x0':=row_cell L1.row 0
   have lM2:=row_lt L1.row
   have L1:=hid L1
   clear h1 t1 lk x0
   go_wp2_with fail
   refine(la_said L1.out i hi HT.out 0 false (by omega) hl).mono ?_
   rintro e X2 ⟨rfl,hb,ve',us',hla⟩
   have B2:=hid (B1.out.trans hb)
   have L2:=hid hla
   clear hb hla x0'
   go_wp2
   go_ret
   refine⟨rfl,B2.out,ve',us',?_⟩
   unfold ansStep
   rw[if_pos rfl]
   exact L2.out
  ·have q1:(eo==2)=false:=by simpa using hop
   cases hf:fnd (k:Int) s with
   |some v=>
    have lk:=lookOkI HMS.out HCS.out.dom hkd hf
    have hv:=HB1.out v hf
    have HF:=hid hf
    clear hf
    go_wp2_with fail
    refine(la_said HX.out i hi HT.out v false hv hl).mono ?_
    rintro e X2 ⟨rfl,hb,ve',us',hla⟩
    have B2:=hid ((HY.out.mono hB).trans hb)
    have L2:=hid hla
    clear hb hla x0 lk
    go_wp2
    go_ret
    refine⟨rfl,B2.out,ve',us',?_⟩
    unfold ansStep
    simp only[if_neg hop,HF.out]
    exact L2.out
   |none=>
    have lk:=lookOkI HMS.out HCS.out.dom hkd hf
    have HF:=hid hf
    clear hf
    cases hr:fnd (k:Int) r with
    |some q=>
     have lkr:=lookOkI HMR.out HCR.out.dom hkd hr
     have HR:=hid hr
     clear hr
     go_wp2_with fail
     refine wp_region_x [0,0,0,1,0,0,1,2] [0,1,2,3,4,5,6,7] (by kernel_rfl) ?_
     simp only[selX,guardAt,sD,sE,sF,sG]
     repeat first|(refine wpL_p fun K hK=>?_;go_simp;refine hK _ _ ?_;clear hK K)|(apply wpL_s;(intro w2 hw2;have hk1:=hw2.cell;have hk3:=hw2.heap;clear hw2;go_simp;with_reducible rfl);simp only[Act.put,sA,sB,sC])
     refine wpL_e (fun K hK=>?_)
     go_simp
     refine(la_said (HX.out.below (Below.refl _ X).drew) i hi HT.out c.val false hbv hl).mono ?_
     rintro e X2 ⟨rfl,hb,ve',us',hla⟩
     refine hK _ _ ?_
     clear hK K
     have B2:=hid ((HY.out.mono hB).drew.trans hb)
     have L2:=hid hla
     clear hb hla x0 lk
     repeat refine wpL_nil ?_
     go_wp2
     go_ret
     refine⟨rfl,B2.out,ve',us',?_⟩
     unfold ansStep
     simp only[if_neg hop,HF.out,HR.out,hval,Option.isSome_some,if_true]
     exact L2.out
    |none=>
     have lkr:=lookOkI HMR.out HCR.out.dom hkd hr
     have HR:=hid hr
     clear hr
     go_wp2_with (at_mapUpdate;refine Stop.halt ?_)
     refine Stop.go ?_
     refine HMR.out.wpList_store keyI elem_int HCR.out.dom HSR.out Tryz.underlying133 (v:=c.ver) (by have:=HCR.out.len HSR.out;unfold maxLen;omega) hkd rfl rfl (by rfl) (by rfl) (by rfl) ?_
     intro X1 h1 t1
     have L1:=HX.out.store (i:=i) HU.out (.inl rfl) t1 (o':=some (upd (k:Int) c.ver r,s)) ⟨br,bs,rfl,hbr,hbs,hne,h1.tight,HMS.out.obj (turned_other t1 (Ne.symm hne)),HCR.out.upd (by omega) (by omega),srt_upd HSR.out,HCS.out,HSS.out⟩
     have B1:=hid ((HY.out.mono hB).trans (Below.turned t1 hbr))
     have x0':=row_cell L1.row 0
     have lM2:=row_lt L1.row
     have r8':=(turned_other t1 (show b8≠br from by
      rintro rfl
      obtain⟨es,cl,es',cl',hb,-⟩:=t1
      rw[R8.out] at hb
      cases hb)).trans R8.out
     have x80':=row_cell r8' 0
     have l8':=row_lt r8'
     have L1:=hid L1
     clear h1 t1 lk lkr x0 x80 x81 r8' l8
     go_wp2_with fail
     refine wp_region_x [0,0,0,1,0,0,1,2] [0,1,2,3,4,5,6,7] (by kernel_rfl) ?_
     simp only[selX,guardAt,sD,sE,sF,sG]
     repeat first|(refine wpL_p fun K hK=>?_;go_simp;refine hK _ _ ?_;clear hK K)|(apply wpL_s;(intro w2 hw2;have hk1:=hw2.cell;have hk3:=hw2.heap;clear hw2;go_simp;with_reducible rfl);simp only[Act.put,sA,sB,sC])
     refine wpL_e (fun K hK=>?_)
     go_simp
     refine(la_said (L1.out.below (Below.refl _ X1).drew) i hi HT.out c.val false hbv hl).mono ?_
     rintro e X2 ⟨rfl,hb,ve',us',hla⟩
     refine hK _ _ ?_
     clear hK K
     have B2:=hid (B1.out.drew.trans hb)
     have L2:=hid hla
     clear hb hla x0'
     repeat refine wpL_nil ?_
     go_wp2
     go_ret
     refine⟨rfl,B2.out,ve',us',?_⟩
     unfold ansStep
     simp only[if_neg hop,HF.out,HR.out,hval,hver,Option.isSome_none,Bool.false_eq_true,if_false]
     exact L2.out
end
end
