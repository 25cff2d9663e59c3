/- Parts of the proof, merged by program out of 2 texts (EoC, EoD): the first: The engine late: it answers. Conditions: those of each theorem, as typed. -/
import Derived.Test.YtkfhgifhfkcehaaGreatDoorQL43
import Derived.Deep.LoopGhost
set_option linter.unusedVariables false
set_option linter.unusedSimpArgs false
set_option linter.unusedSectionVars false
set_option maxRecDepth 100000
set_option maxHeartbeats 4000000
namespace Go.Proofs.YtkfhgifhfkcehaaGreatDoor
open Go.Maps Go.RowKit
section
attribute [local irreducible] wpL
section
variable {w:World} {C:LC} {ve:Value} {P:Pg} {M:LM} {us:List (Value×Value)}
def AnsMid (C:LC) (P:Pg) (w W:World) (i k:Nat) (ek ex eh eo ey ev er:Int) (br bs gC nc cc:Nat) (c:Ce):Exit→Act→World→Prop:=fun e a' X=>
 ∃b7 b8:Nat,e=.normal∧a'={tmps:=#[.pointer (some ⟨C.bM,0,none⟩),.int .i64 i,evV ⟨ek,ex,eh,(k:Nat),eo,ey,ev,er⟩,undef,undef,.pointer (some ⟨w.heap.size,0,none⟩),.nilFunc,.pointer (some ⟨b7,0,none⟩),.pointer (some ⟨b8,0,none⟩),undef,undef,undef,undef,.pointer (some ⟨C.bM,0,none⟩),.pointer (some ⟨C.bM,0,none⟩),.pointer (some ⟨C.bM,2,none⟩),.slice (some ⟨C.gW,0,none⟩) P.threads.length P.threads.length,.int .i64 i,.pointer (some ⟨C.gW,i*2,none⟩),.agg #[.map (some br),.map (some bs)],.pointer (some ⟨C.bM,0,none⟩),.pointer (some ⟨C.bM,0,none⟩),.pointer (some ⟨C.bM,1,none⟩),.slice (some ⟨gC,0,none⟩) nc cc,.pointer (some ⟨w.heap.size,3,none⟩),.int .i64 (k:Nat),.pointer (some ⟨gC,k*2,none⟩),.agg #[.int .i64 c.val,.int .i64 c.ver],undef,undef,undef,undef,undef,undef,undef,undef,undef,undef,undef,undef,undef,undef,undef,undef,undef,undef,undef,undef,undef,undef,undef,undef,undef,undef,undef,undef,undef,undef,undef,undef,undef,undef,undef,undef,undef,undef,undef,undef,undef,undef,undef,undef,undef,undef,undef,undef,undef,undef,undef,undef,undef,undef,undef,undef,undef],defers:=[]}∧X.heap[b7]?=some (.cells #[.map (some br),.map (some bs)] 308 (0,0))∧X.heap[b8]?=some (.cells #[.int .i64 c.val,.int .i64 c.ver] 253 (0,0))∧Below W.heap.size W X
theorem LaAt.store (h:LaAt w C ve us P M) {w1:World} {i b:Nat} {u:Value×Value} {o':Wo} (hu:us[i]?=some u) (hb:mbs u b) (ht:w.mapTurned w1 b) (hw:WoAt w1 C.B u o'):LaAt w1 C ve us P {M with ws:=M.ws.set i o'}:=
 h.turn (Kd.turned ht) (OwnF.kd h.cells (Kd.turned (T:=fun _=>False) ht) (fun h=>h)) h.clen (h.wks.store hu hb ht hw)
theorem la_answer (h:LaAt w C ve us P M) (i:Nat) (hi:i < P.threads.length) {t:Th} (ht:M.W.ths[i]?=some t) (hl:M.W.evs.length≤100000) {r s:MI} (hws:M.ws[i]?=some (some (r,s)))
  (k:Nat) (ek ex eh eo ey ev er:Int) (hk:k < P.cells.length) (hb1:∀v,fnd (k:Int) s=some v→-999999000≤v∧v≤999999000) (hb2:∀c,M.cs[k]?=some c→-999999000≤c.val∧c.val≤999999000):
  Calls Tryz.prog 183 #[.pointer (some ⟨C.bM,0,none⟩),.int .i64 i,evV ⟨ek,ex,eh,(k:Nat),eo,ey,ev,er⟩] w (LaPost C P (ansStep P M i t ⟨ek,ex,eh,(k:Nat),eo,ey,ev,er⟩ r s) .nilFunc w):=by
 have hk4:k < 4:=by have:=h.ok.cells.2;omega
 have hn4:=h.ok.threads.2
 have hkd:dI (k:Int):=dI_small (by omega) (by omega)
 obtain⟨u,hu⟩:∃u,us[i]?=some u:=⟨_,List.getElem?_eq_getElem (by have:=h.wks.own.len;omega)⟩
 obtain⟨o,ho,hwo⟩:=h.wks.at hu
 rw[hws] at ho
 obtain rfl:=Option.some.inj ho
 obtain⟨br,bs,rfl,hbr,hbs,hne,hmr,hms,hcr,hsr,hcs,hss⟩:=hwo
 obtain⟨gW',off,x,hb,hgW,hx,hcw⟩:=Sl.atF moC_len (show Sl w w.heap.size 2 (.slice (some ⟨C.gW,0,none⟩) P.threads.length P.threads.length) P.threads.length (us.flatMap moC) from by have h2:=h.wks.own;have h3:=h2.len;rw[←h3] at h2 ⊢;exact h2.sl) h.wks.own.len hi
 simp only[Option.some.injEq,Addr.mk.injEq,and_true] at hb
 obtain⟨rfl,rfl⟩:=hb
 rw[hu] at hx
 obtain rfl:=Option.some.inj hx
 have w0:w.cell? ⟨C.gW,i*2,none⟩=some (.map (some br)):=by have:=hcw 0 (by decide);simpa[moC] using this
 have w1:w.cell? ⟨C.gW,i*2+1,none⟩=some (.map (some bs)):=by have:=hcw 1 (by decide);simpa[moC] using this
 obtain⟨aC,cc,hce,-⟩:=h.cells.form2
 have hcl:=h.clen
 obtain⟨gC,off,c,hb,hgC,hc,hcc⟩:=Sl.atF Ce.len (show Sl w w.heap.size 2 (.slice aC M.cs.length cc) M.cs.length (M.cs.flatMap Ce.cells) from by rw[←hce];exact h.cells.sl) rfl (k:=k) (by omega)
 have hg0:off=0:=by
  rcases h.cells.form with⟨hv,-⟩|⟨g,cap,hv,-⟩
  ·rw [hce,hb] at hv;cases hv
  ·rw [hce,hb] at hv;simp only[Value.slice.injEq,Option.some.injEq,Addr.mk.injEq,and_true] at hv;exact hv.1.2
 subst hg0
 subst hb
 have c0:w.cell? ⟨gC,k*2,none⟩=some (.int .i64 c.val):=by have:=hcc 0 (by decide);simpa[Ce.cells] using this
 have c1:w.cell? ⟨gC,k*2+1,none⟩=some (.int .i64 c.ver):=by have:=hcc 1 (by decide);simpa[Ce.cells] using this
 have d1:=row_cell h.row 1
 have d2:=row_cell h.row 2
 rw[hce] at d1
 have lM:=row_lt h.row
 have hbv:=hb2 c hc
 have hval:valAt M.cs (k:Int)=c.val:=by simp[valAt,hc]
 have hver:verAt M.cs (k:Int)=c.ver:=by simp[verAt,hc]
 generalize hnc:M.cs.length=nc at *
 have hkn:k < nc:=by omega
 have H:=hid h
 have HU:=hid hu
 have HT:=hid ht
 have HC:=hid hc
 have HB1:=hid hb1
 have HWS:=hid hws
 have lkd:=hid hkd
 have HP:=hid (show WoAt w C.B (.map (some br),.map (some bs)) (some (r,s)) from⟨br,bs,rfl,hbr,hbs,hne,hmr,hms,hcr,hsr,hcs,hss⟩)
 clear h hu ht hc hb1 hws hcw hcc hce hmr hms hcr hsr hcs hss hb2
 go_enter Tryz.func183,Tryz.ntmps183
 go_wp2_with fail
 have bA:Below w.heap.size w (w.alloc (.cells #[.int .i64 ek,.int .i64 ex,.int .i64 eh,.int .i64 (k:Nat),.int .i64 eo,.int .i64 ey,.int .i64 ev,.int .i64 er] 53)):=(Below.refl _ w).alloc (Nat.le_refl _) _
 have rA:=row_new w (.cells #[.int .i64 ek,.int .i64 ex,.int .i64 eh,.int .i64 (k:Nat),.int .i64 eo,.int .i64 ey,.int .i64 ev,.int .i64 er] 53)
 have zA:(w.alloc (.cells #[.int .i64 ek,.int .i64 ex,.int .i64 eh,.int .i64 (k:Nat),.int .i64 eo,.int .i64 ey,.int .i64 ev,.int .i64 er] 53)).heap.size=w.heap.size+1:=by simp
 generalize w.alloc (.cells #[.int .i64 ek,.int .i64 ex,.int .i64 eh,.int .i64 (k:Nat),.int .i64 eo,.int .i64 ey,.int .i64 ev,.int .i64 er] 53)=W at *
 have lE:w.heap.size < W.heap.size:=by omega
 have lM':C.bM < W.heap.size:=by omega
 have lW':C.gW < W.heap.size:=by omega
 have lC':gC < W.heap.size:=by omega
 have d1:=cell_below bA lM d1
 have d2:=cell_below bA lM d2
 have w0:=cell_below bA hgW w0
 have w1:=cell_below bA hgW w1
 have c0:=cell_below bA hgC c0
 have c1:=cell_below bA hgC c1
 have e3:=row_cell rA 3
 have HA:=hid bA
 have RA:=hid rA
 have ZA:=hid zA
 clear bA rA zA
 refine wp_mono (Q:=AnsMid C P w W i k ek ex eh eo ey ev er br bs gC P.cells.length cc c) ?_ ?_
 ·
  refine wp_rN (W.heap.size) [0,0,0,1,0,0,1,0,0,0,1,0,1,0,1,3,3,3,3] (.frk [0,1,2,3,4,5,6,7,8,9,10,11,12,13,14] (.fin [15,16,17,18]) (.fin [16,15,17,18])) (by kernel_rfl) ?_
  simp only[wpT,selX,guardAt,sD,sE,sF,sG]
  repeat first|(refine wpL_p fun K hK=>?_;go_simp;refine hK _ _ ?_;clear hK K)|(apply wpL_s;(intro w2 hw2;have hk1:=hw2.cell;have hk3:=hw2.1;clear hw2;go_simp;with_reducible rfl);simp only[Act.put,sA,sB,sC])|refine wpL_nil ?_
  refine⟨?_,?_⟩
  ·refine wpL_k (fun K hK=>?_)
   go_simp
   refine hK _ _ (RN.KeepsN.alloc _ _ (by first|omega|exact Nat.le_refl _)) ?_
   clear hK K
   refine wpL_k (fun K hK=>?_)
   go_simp
   refine hK _ _ (RN.KeepsN.alloc _ _ (by simp)) ?_
   clear hK K
   refine wpL_k (fun K hK=>?_)
   go_simp
   refine hK _ _ (KeepsN.both (W:=W) ((RN.KeepsN.alloc _ _ (Nat.le_refl _)).trans (RN.KeepsN.alloc _ _ (by simp))) ((RN.KeepsN.alloc _ _ (Nat.le_refl _)).trans (RN.KeepsN.alloc _ _ (by simp))) (by simp)) ?_
   clear hK K
   refine wpL_k (fun K hK=>?_)
   go_simp
   refine hK _ _ (KeepsN.both (W:=W) ((RN.KeepsN.alloc _ _ (Nat.le_refl _)).trans (RN.KeepsN.alloc _ _ (by simp))) ((RN.KeepsN.alloc _ _ (Nat.le_refl _)).trans (RN.KeepsN.alloc _ _ (by simp))) (by simp)) ?_
   clear hK K
   repeat refine wpL_nil ?_
   exact⟨W.heap.size,W.heap.size+1,rfl,rfl,row_old (row_new W _),row_new' (by simp),(((Below.refl W.heap.size W).alloc (Nat.le_refl _) _).alloc (by simp) _).drew⟩
  ·refine wpL_k (fun K hK=>?_)
   go_simp
   refine hK _ _ (RN.KeepsN.alloc _ _ (by first|omega|exact Nat.le_refl _)) ?_
   clear hK K
   refine wpL_k (fun K hK=>?_)
   go_simp
   refine hK _ _ (RN.KeepsN.alloc _ _ (by simp)) ?_
   clear hK K
   refine wpL_k (fun K hK=>?_)
   go_simp
   refine hK _ _ (KeepsN.both (W:=W) ((RN.KeepsN.alloc _ _ (Nat.le_refl _)).trans (RN.KeepsN.alloc _ _ (by simp))) ((RN.KeepsN.alloc _ _ (Nat.le_refl _)).trans (RN.KeepsN.alloc _ _ (by simp))) (by simp)) ?_
   clear hK K
   refine wpL_k (fun K hK=>?_)
   go_simp
   refine hK _ _ (KeepsN.both (W:=W) ((RN.KeepsN.alloc _ _ (Nat.le_refl _)).trans (RN.KeepsN.alloc _ _ (by simp))) ((RN.KeepsN.alloc _ _ (Nat.le_refl _)).trans (RN.KeepsN.alloc _ _ (by simp))) (by simp)) ?_
   clear hK K
   repeat refine wpL_nil ?_
   exact⟨W.heap.size+1,W.heap.size,rfl,rfl,row_new' (by simp),row_old (row_new W _),(((Below.refl W.heap.size W).alloc (Nat.le_refl _) _).alloc (by simp) _).drew⟩
 ·rintro e a' X ⟨b7,b8,rfl,rfl,r7,r8,bX⟩
  have hE:=cell_below bX lE e3
  have e4:=cell_below bX lE (row_cell RA.out 4)
  have e6:=cell_below bX lE (row_cell RA.out 6)
  have x70:=row_cell r7 0
  have x71:=row_cell r7 1
  have x80:=row_cell r8 0
  have x81:=row_cell r8 1
  have l7:=row_lt r7
  have l8:=row_lt r8
  have lX:=bX.size
  have HX:=hid ((H.out.below HA.out).below bX)
  have HY:=hid (HA.out.trans (bX.mono (by have:=ZA.out;omega)))
  have hB:=H.out.size
  have HQ:=hid (HP.out.keep fun b hb=>by
   obtain⟨-,es,cl,hh⟩:=HP.out.isMap b hb
   rw[row_below hh HY.out (row_lt hh),hh])
  have R7:=hid r7
  have R8:=hid r8
  have x0:X.cell? ⟨C.bM,0,none⟩=some (.pointer (some ⟨C.bD,0,none⟩)):=row_cell HX.out.row 0
  clear r7 r8 bX d1 d2 w0 w1 c0 c1 e3 HA H HP RA
  obtain⟨br',bs',hu,-,-,-,hmr,hms,hcr,hsr,hcs,hss⟩:=HQ.out
  simp only[Prod.mk.injEq,Value.map.injEq,Option.some.injEq] at hu
  obtain⟨rfl,rfl⟩:=hu
  have HMR:=hid hmr
  have HMS:=hid hms
  have HCR:=hid hcr
  have HCS:=hid hcs
  have HSR:=hid hsr
  have HSS:=hid hss
  clear hmr hms hcr hsr hcs hss
  by_cases hop:eo=2
  ·subst hop
   have q1:((2:Int)==2)=true:=rfl
   have lk:=lookOkI HMS.out HCS.out.dom hkd rfl
   go_wp2_with (at_mapUpdate;refine Stop.halt ?_)
   refine Stop.go ?_
   refine HMS.out.wpList_store keyI elem_int HCS.out.dom HSS.out Tryz.underlying133 (v:=ev) (by have:=HCS.out.len HSS.out;unfold maxLen;omega) hkd rfl rfl (by rfl) (by rfl) (by rfl) ?_
   intro X1 h1 t1
   have L1:=HX.out.store (i:=i) HU.out (.inr rfl) t1 (o':=some (r,upd (k:Int) ev s)) ⟨br,bs,rfl,hbr,hbs,hne,HMR.out.obj (turned_other t1 hne),h1.tight,HCR.out,HSR.out,HCS.out.upd (by omega) (by omega),srt_upd HSS.out⟩
   have B1:=hid ((HY.out.mono hB).trans (Below.turned t1 hbs))
   have x0':=row_cell L1.row 0
   have lM2:=row_lt L1.row
   have L1:=hid L1
   clear h1 t1 lk x0
   go_wp2_with fail
   refine(la_said L1.out i hi HT.out 0 false (by omega) hl).mono ?_
   rintro e X2 ⟨rfl,hb,ve',us',hla⟩
   have B2:=hid (B1.out.trans hb)
   have L2:=hid hla
   clear hb hla x0'
   go_wp2
   go_ret
   refine⟨rfl,B2.out,ve',us',?_⟩
   unfold ansStep
   rw[if_pos rfl]
   exact L2.out
  ·have q1:(eo==2)=false:=by simpa using hop
   cases hf:fnd (k:Int) s with
   |some v=>
    have lk:=lookOkI HMS.out HCS.out.dom hkd hf
    have hv:=HB1.out v hf
    have HF:=hid hf
    clear hf
    go_wp2_with fail
    refine(la_said HX.out i hi HT.out v false hv hl).mono ?_
    rintro e X2 ⟨rfl,hb,ve',us',hla⟩
    have B2:=hid ((HY.out.mono hB).trans hb)
    have L2:=hid hla
    clear hb hla x0 lk
    go_wp2
    go_ret
    refine⟨rfl,B2.out,ve',us',?_⟩
    unfold ansStep
    simp only[if_neg hop,HF.out]
    exact L2.out
   |none=>
    have lk:=lookOkI HMS.out HCS.out.dom hkd hf
    have HF:=hid hf
    clear hf
    cases hr:fnd (k:Int) r with
    |some q=>
     have lkr:=lookOkI HMR.out HCR.out.dom hkd hr
     have HR:=hid hr
     clear hr
     go_wp2_with fail
     refine wp_region_x [0,0,0,1,0,0,1,2] [0,1,2,3,4,5,6,7] (by kernel_rfl) ?_
     simp only[selX,guardAt,sD,sE,sF,sG]
     repeat first|(refine wpL_p fun K hK=>?_;go_simp;refine hK _ _ ?_;clear hK K)|(apply wpL_s;(intro w2 hw2;have hk1:=hw2.cell;have hk3:=hw2.heap;clear hw2;go_simp;with_reducible rfl);simp only[Act.put,sA,sB,sC])
     refine wpL_e (fun K hK=>?_)
     go_simp
     refine(la_said (HX.out.below (Below.refl _ X).drew) i hi HT.out c.val false hbv hl).mono ?_
     rintro e X2 ⟨rfl,hb,ve',us',hla⟩
     refine hK _ _ ?_
     clear hK K
     have B2:=hid ((HY.out.mono hB).drew.trans hb)
     have L2:=hid hla
     clear hb hla x0 lk
     repeat refine wpL_nil ?_
     go_wp2
     go_ret
     refine⟨rfl,B2.out,ve',us',?_⟩
     unfold ansStep
     simp only[if_neg hop,HF.out,HR.out,hval,Option.isSome_some,if_true]
     exact L2.out
    |none=>
     have lkr:=lookOkI HMR.out HCR.out.dom hkd hr
     have HR:=hid hr
     clear hr
     go_wp2_with (at_mapUpdate;refine Stop.halt ?_)
     refine Stop.go ?_
     refine HMR.out.wpList_store keyI elem_int HCR.out.dom HSR.out Tryz.underlying133 (v:=c.ver) (by have:=HCR.out.len HSR.out;unfold maxLen;omega) hkd rfl rfl (by rfl) (by rfl) (by rfl) ?_
     intro X1 h1 t1
     have L1:=HX.out.store (i:=i) HU.out (.inl rfl) t1 (o':=some (upd (k:Int) c.ver r,s)) ⟨br,bs,rfl,hbr,hbs,hne,h1.tight,HMS.out.obj (turned_other t1 (Ne.symm hne)),HCR.out.upd (by omega) (by omega),srt_upd HSR.out,HCS.out,HSS.out⟩
     have B1:=hid ((HY.out.mono hB).trans (Below.turned t1 hbr))
     have x0':=row_cell L1.row 0
     have lM2:=row_lt L1.row
     have r8':=(turned_other t1 (show b8≠br from by
      rintro rfl
      obtain⟨es,cl,es',cl',hb,-⟩:=t1
      rw[R8.out] at hb
      cases hb)).trans R8.out
     have x80':=row_cell r8' 0
     have l8':=row_lt r8'
     have L1:=hid L1
     clear h1 t1 lk lkr x0 x80 x81 r8' l8
     go_wp2_with fail
     refine wp_region_x [0,0,0,1,0,0,1,2] [0,1,2,3,4,5,6,7] (by kernel_rfl) ?_
     simp only[selX,guardAt,sD,sE,sF,sG]
     repeat first|(refine wpL_p fun K hK=>?_;go_simp;refine hK _ _ ?_;clear hK K)|(apply wpL_s;(intro w2 hw2;have hk1:=hw2.cell;have hk3:=hw2.heap;clear hw2;go_simp;with_reducible rfl);simp only[Act.put,sA,sB,sC])
     refine wpL_e (fun K hK=>?_)
     go_simp
     refine(la_said (L1.out.below (Below.refl _ X1).drew) i hi HT.out c.val false hbv hl).mono ?_
     rintro e X2 ⟨rfl,hb,ve',us',hla⟩
     refine hK _ _ ?_
     clear hK K
     have B2:=hid (B1.out.drew.trans hb)
     have L2:=hid hla
     clear hb hla x0'
     repeat refine wpL_nil ?_
     go_wp2
     go_ret
     refine⟨rfl,B2.out,ve',us',?_⟩
     unfold ansStep
     simp only[if_neg hop,HF.out,HR.out,hval,hver,Option.isSome_none,Bool.false_eq_true,if_false]
     exact L2.out
end
end
section
attribute [local irreducible] wpL
def LaNext (C:LC) (P:Pg) (i:Nat) (y:LM×Nx) (w:World) (e:Ending) (w':World):Prop:=∃v ve' us',e=.returned v∧Below C.B w w'∧LaAt w' C ve' us' P y.1∧NxAt w' C i ve' v y.2
theorem wrS_len (s:MI) (S:Int→Bool) (cs:List Ce):(wrS s S cs).length=cs.length:=by simp[wrS]
theorem wrS_get (s:MI) (S:Int→Bool) (cs:List Ce) (k:Nat):(wrS s S cs)[k]?=cs[k]?.map fun c=>match fnd (k:Int) s with
  |some v=>if S k then c else⟨v,c.ver+1⟩
  |none=>c:=by simp[wrS,List.getElem?_mapIdx];rfl
theorem wrS_start (s:MI) (cs:List Ce):wrS s (fun _=>true) cs=cs:=by
 apply List.ext_getElem?
 intro k
 rw[wrS_get]
 cases cs[k]? with
 |none=>rfl
 |some c=>cases fnd (k:Int) s <;> simp
theorem wrS_end {s:MI} {S:Int→Bool} (hs:KSrt s) (h:∀p ∈ s,S p.1=false) (cs:List Ce):wrS s S cs=wrS s (fun _=>false) cs:=by
 apply List.ext_getElem?
 intro k
 rw[wrS_get,wrS_get]
 cases cs[k]? with
 |none=>rfl
 |some c=>
  cases hf:fnd (k:Int) s with
  |none=>rfl
  |some v=>have:=h _ ((fnd_some hs).1 hf);simp only at this;simp[this]
theorem wrS_step {s:MI} {S:Int→Bool} (hs:KSrt s) {k:Nat} {u:Int} (hm:((k:Int),u) ∈ s) {cs:List Ce} {c:Ce} (hc:cs[k]?=some c):(wrS s S cs).set k ⟨u,c.ver+1⟩=wrS s (fun z=>S z&&!(z==(k:Int))) cs:=by
 apply List.ext_getElem?
 intro j
 by_cases e:k=j
 ·subst e
  rw[List.getElem?_set_self (by rw[wrS_len];exact(List.getElem?_eq_some_iff.1 hc).1),wrS_get,hc,(fnd_some hs).2 hm]
  simp
 ·rw [List.getElem?_set_ne e,wrS_get,wrS_get]
  have e2:((j:Int)==(k:Int))=false:=by simp;omega
  simp[e2]
section
variable {w w':World} {C:LC} {ve:Value} {P:Pg} {M:LM} {us:List (Value×Value)}
theorem LaAt.still (h:LaAt w C ve us P M) (hk:Kd (fun _=>False) w w') (hm:KmAll w w'):LaAt w' C ve us P M:=
 h.turn (cs':=M.cs) (ws':=M.ws) (fun k cs t fz hb _=>hk k cs t fz hb (fun h=>h)) (OwnF.kd h.cells hk fun h=>h) h.clen (h.wks.keep (OwnF.kd h.wks.own hk fun h=>h) hm)
theorem LaAt.ceForm (h:LaAt w C ve us P M):∃gC cc,C.ce=.slice (some ⟨gC,0,none⟩) P.cells.length cc:=by
 have h1:=h.ok.cells.1
 have h2:=h.clen
 rcases h.cells.form with⟨-,hv⟩|⟨g,cap,hv,-⟩
 ·rw [hv] at h2;simp at h2;omega
 ·exact ⟨g,cap,by rw[hv,h2]⟩
theorem LaAt.ceAt (h:LaAt w C ve us P M) {gC cc:Nat} (hce:C.ce=.slice (some ⟨gC,0,none⟩) P.cells.length cc) {k:Nat} (hk:k < P.cells.length):
  gC < w.heap.size∧∃c,M.cs[k]?=some c∧w.cell? ⟨gC,k*2,none⟩=some (.int .i64 c.val)∧w.cell? ⟨gC,k*2+1,none⟩=some (.int .i64 c.ver):=by
 have h2:=h.clen
 have hcl:=h.cells
 rw[hce,←h2] at hcl
 obtain⟨g,off,c,hb,hgC,hc,hcc⟩:=Sl.atF Ce.len hcl.sl rfl (k:=k) (by omega)
 simp only[Option.some.injEq,Addr.mk.injEq,and_true] at hb
 obtain⟨rfl,rfl⟩:=hb
 refine⟨hgC,c,hc,?_,?_⟩
 ·have:=hcc 0 (by decide);simpa[Ce.cells] using this
 ·have:=hcc 1 (by decide);simpa[Ce.cells] using this
theorem LaAt.ceRow (h:LaAt w C ve us P M) {gC cc:Nat} (hce:C.ce=.slice (some ⟨gC,0,none⟩) P.cells.length cc):∃cs,w.heap[gC]?=some (.cells cs 253 (0,0)):=by
 have hcl:=h.cells
 rw[hce] at hcl
 exact hcl.keepObj gC rfl
theorem LaAt.woAt (h:LaAt w C ve us P M) {i:Nat} (hi:i < P.threads.length) {r s:MI} (hws:M.ws[i]?=some (some (r,s))):∃br bs,us[i]?=some (.map (some br),.map (some bs))∧WoAt w C.B (.map (some br),.map (some bs)) (some (r,s))∧C.gW < w.heap.size∧
  w.cell? ⟨C.gW,i*2,none⟩=some (.map (some br))∧w.cell? ⟨C.gW,i*2+1,none⟩=some (.map (some bs)):=by
 obtain⟨u,hu⟩:∃u,us[i]?=some u:=⟨_,List.getElem?_eq_getElem (by have:=h.wks.own.len;omega)⟩
 obtain⟨o,ho,hwo⟩:=h.wks.at hu
 rw[hws] at ho
 obtain rfl:=Option.some.inj ho
 obtain⟨br,bs,rfl,rest⟩:=id hwo
 obtain⟨gW',off,x,hb,hgW,hx,hcw⟩:=Sl.atF moC_len (show Sl w w.heap.size 2 (.slice (some ⟨C.gW,0,none⟩) P.threads.length P.threads.length) P.threads.length (us.flatMap moC) from by have h2:=h.wks.own;have h3:=h2.len;rw[←h3] at h2 ⊢;exact h2.sl) h.wks.own.len hi
 simp only[Option.some.injEq,Addr.mk.injEq,and_true] at hb
 obtain⟨rfl,rfl⟩:=hb
 rw[hu] at hx
 obtain rfl:=Option.some.inj hx
 refine⟨br,bs,hu,hwo,hgW,?_,?_⟩
 ·have:=hcw 0 (by decide);simpa[moC] using this
 ·have:=hcw 1 (by decide);simpa[moC] using this
theorem la_look (h:LaAt w C ve us P M) (i:Nat) (hi:i < P.threads.length) {t:Th} (ht:M.W.ths[i]?=some t) (hl:M.W.evs.length≤100000) {r s:MI} (hws:M.ws[i]?=some (some (r,s)))
  (hr:∀p ∈ r,p.1 < P.cells.length) (hs:∀p ∈ s,p.1 < P.cells.length) (hv:∀c ∈ M.cs,0≤c.ver∧c.ver≤1000000):
  Calls Tryz.prog 181 #[.pointer (some ⟨C.bM,0,none⟩),.int .i64 i] w (LaNext C P i (lookStep P M i t r s) w):=by
 have hn4:=h.ok.threads.2
 obtain⟨gC,cc,hce⟩:=h.ceForm
 obtain⟨br,bs,hu,hwo,hgW,w0,w1⟩:=h.woAt hi hws
 have d1:=row_cell h.row 1
 have d2:=row_cell h.row 2
 rw[hce] at d1
 have lM:=row_lt h.row
 have H:=hid h
 have HU:=hid hu
 have HT:=hid ht
 have HWS:=hid hws
 have HP:=hid hwo
 have HR:=hid hr
 have HS:=hid hs
 have HV:=hid hv
 have HCE:=hid hce
 clear h hu ht hws hwo hr hs hv hce
 go_enter Tryz.func181,Tryz.ntmps181
 go_wp2_with fail
 have bA:Below w.heap.size w ((w.alloc (.cells #[.pointer (some ⟨C.bM,0,none⟩)] 165)).alloc (.cells #[.int .i64 i] 3)):=((Below.refl w.heap.size w).alloc (Nat.le_refl _) _).alloc (by simp) _
 have rA:=row_old (o:=.cells #[.int .i64 i] 3) (row_new w (.cells #[.pointer (some ⟨C.bM,0,none⟩)] 165))
 have rB:=row_new' (w:=w.alloc (.cells #[.pointer (some ⟨C.bM,0,none⟩)] 165)) (o:=.cells #[.int .i64 i] 3) (g:=w.heap.size+1) (by simp)
 have zA:((w.alloc (.cells #[.pointer (some ⟨C.bM,0,none⟩)] 165)).alloc (.cells #[.int .i64 i] 3)).heap.size=w.heap.size+2:=by simp
 generalize (w.alloc (.cells #[.pointer (some ⟨C.bM,0,none⟩)] 165)).alloc (.cells #[.int .i64 i] 3)=W at *
 have lA:w.heap.size < W.heap.size:=by omega
 have lB:w.heap.size+1 < W.heap.size:=by omega
 have lM':C.bM < W.heap.size:=by omega
 have lW':C.gW < W.heap.size:=by omega
 have d1:=cell_below bA lM d1
 have d2:=cell_below bA lM d2
 have w0:=cell_below bA hgW w0
 have w1:=cell_below bA hgW w1
 have xA:=row_cell rA 0
 have xB:=row_cell rB 0
 have HA:=hid (H.out.below bA)
 have HQ:=hid (HP.out.keep fun b hb=>by
   obtain⟨-,es,cl,hh⟩:=HP.out.isMap b hb
   rw[row_below hh bA (row_lt hh),hh])
 have hBw:=H.out.size
 have BA:=hid (bA.mono hBw)
 have RA:=hid rA
 have RB:=hid rB
 have ZA:=hid zA
 clear bA rA rB zA H HP
 refine wp_rN (W.heap.size) [1,0,0,1,1,0,1,3,3] (.fin [0,1,2,3,4,5,6,7,8]) (by kernel_rfl) ?_
 simp only[wpT,selX,guardAt,sD,sE,sF,sG]
 repeat first|(refine wpL_p fun K hK=>?_;go_simp;refine hK _ _ ?_;clear hK K)|(apply wpL_s;(intro w2 hw2;have hk1:=hw2.cell;have hk3:=hw2.1;clear hw2;go_simp;with_reducible rfl);simp only[Act.put,sA,sB,sC])
 refine wpL_k (fun K hK=>?_)
 go_simp
 refine hK _ _ (RN.KeepsN.alloc _ _ (by first|omega|exact Nat.le_refl _)) ?_
 clear hK K
 refine wpL_k (fun K hK=>?_)
 go_simp
 refine hK _ _ (KeepsN.both (W:=W) (RN.KeepsN.alloc _ _ (Nat.le_refl _)) (RN.KeepsN.alloc _ _ (Nat.le_refl _)) (by simp)) ?_
 clear hK K
 repeat refine wpL_nil ?_
 have bX:Below W.heap.size W (W.alloc (.cells #[.map (some br),.map (some bs)] 308)).drew:=((Below.refl W.heap.size W).alloc (Nat.le_refl _) _).drew
 have rX:(W.alloc (.cells #[.map (some br),.map (some bs)] 308)).drew.heap[W.heap.size]?=some (.cells #[.map (some br),.map (some bs)] 308 (0,0)):=row_new W _
 have zX:(W.alloc (.cells #[.map (some br),.map (some bs)] 308)).drew.heap.size=W.heap.size+1:=by simp
 generalize (W.alloc (.cells #[.map (some br),.map (some bs)] 308)).drew=X at *
 have x70:=row_cell rX 0
 have x71:=row_cell rX 1
 have lXW:=row_lt rX
 have HX:=hid (HA.out.below bX)
 have HQX:=hid (HQ.out.keep fun b hb=>by
   obtain⟨-,es,cl,hh⟩:=HQ.out.isMap b hb
   rw[row_below hh bX (row_lt hh),hh])
 have hBX:C.B≤W.heap.size:=HA.out.size
 have BX:=hid (BA.out.trans (bX.mono hBX))
 have RAX:=hid (row_below RA.out bX lA)
 have RBX:=hid (row_below RB.out bX lB)
 have RX:=hid rX
 have ZX:=hid zX
 clear bX rX zX HA HQ BA RA RB d1 d2 w0 w1 xA xB
 obtain⟨br',bs',hu',hbr,hbs,hne,hmr,hms,hcr,hsr,hcs,hss⟩:=HQX.out
 simp only[Prod.mk.injEq,Value.map.injEq,Option.some.injEq] at hu'
 obtain⟨rfl,rfl⟩:=hu'
 have HMR:=hid hmr
 have HMS:=hid hms
 have HCR:=hid hcr
 have HCS:=hid hcs
 have HSR:=hid hsr
 have HSS:=hid hss
 clear hmr hms hcr hsr hcs hss HQX
 go_wp2_with (at_range;refine Stop.halt ?_)
 refine Stop.go ?_
 refine HMR.out.wpList_range keyI HCR.out.dom HSR.out Tryz.underlying133 rfl rfl (by rfl) ?_
 intro Y hrg hg hz
 have HG:=hid hrg
 have BY:=hid (below_ranged (Below.refl X.heap.size X) hg (Nat.le_refl _))
 have hzY:X.heap.size+1≤Y.heap.size:=by omega
 clear hrg hg hz x70 x71
 go_wp2_with fail
 go_frame
 go_loopg [20] r.length (fun k _ wr=>∃S,RngI wr br X.heap.size r S k∧Below X.heap.size X wr∧X.heap.size+1≤wr.heap.size∧∀p ∈ r,S p.1=false→verAt M.cs p.1=p.2)
 case atStart=>exact⟨_,HG.out,BY.out,hzY,fun p _ h=>by cases h⟩
 case round=>
  obtain⟨S,hrg,hb,hz,hok⟩:=hrel
  have HG:=hid hrg
  have HB:=hid hb
  have HOK:=hid hok
  clear hrg hb hok BY hzY
  go_wp2_with (at_next;refine Stop.halt ?_)
  refine Stop.go ?_
  refine HG.out.wpList_next keyI elem_int HCR.out.dom HSR.out rfl rfl (by rfl) ?_ ?_
  ·intro hd
   have HST:=hid (show stands r M.cs=true from by
    unfold stands
    rw[List.all_eq_true]
    intro p hp
    simpa using HOK.out p hp (hd p hp))
   clear hd
   have zr:=HB.out.size
   have x71:=cell_below HB.out (by omega) (row_cell RX.out 1)
   have lx7:W.heap.size < wr.heap.size:=by omega
   have hbsX:=HMS.out.lt
   go_wp2_with (at_range;refine Stop.halt ?_)
   refine Stop.go ?_
   refine(HMS.out.below HB.out hbsX).wpList_range keyI HCS.out.dom HSS.out Tryz.underlying133 rfl rfl (by rfl) ?_
   intro Z hrg2 hg2 hz2
   have HG2:=hid hrg2
   have bZ:=below_ranged (Below.refl wr.heap.size wr) hg2 (Nat.le_refl _)
   have LZ:=hid (show LaAt Z C ve us P {M with cs:=wrS s (fun _=>true) M.cs} from by rw[wrS_start];exact(HX.out.below HB.out).below bZ)
   have BZ:=hid (BX.out.trans ((HB.out.trans (bZ.mono zr)).mono (by have:=ZX.out;omega)))
   have RAZ:=hid (row_below (row_below RAX.out HB.out (row_lt RAX.out)) bZ (by omega))
   have RBZ:=hid (row_below (row_below RBX.out HB.out (row_lt RBX.out)) bZ (by omega))
   have hzZ:wr.heap.size+1≤Z.heap.size:=by omega
   obtain⟨w5,rfl⟩:∃w5,w5=wr:=⟨_,rfl⟩
   have hB5:C.B≤w5.heap.size:=by omega
   clear hrg2 hg2 hz2 bZ x71 lx7 hz HB HG HOK RX RAX RBX HX ZX
   go_wp2_with fail
   go_frame
   go_loopg [41] s.length (fun k _ wr=>∃S,RngI wr bs w5.heap.size s S k∧LaAt wr C ve us P {M with cs:=wrS s S M.cs}∧Below C.B w wr∧w5.heap.size+1≤wr.heap.size∧wr.heap[w.heap.size]?=some (.cells #[.pointer (some ⟨C.bM,0,none⟩)] 165 (0,0))∧wr.heap[w.heap.size+1]?=some (.cells #[.int .i64 i] 3 (0,0)))
   case atStart=>exact⟨_,HG2.out,LZ.out,BZ.out,hzZ,RAZ.out,RBZ.out⟩
   case round=>
    obtain⟨S2,hrg,hL,hB,hz,hra,hrb⟩:=hrel
    have HG:=hid hrg
    have HL:=hid hL
    have HB:=hid hB
    have HRA:=hid hra
    have HRB:=hid hrb
    clear hrg hL hB hra hrb hzZ LZ BZ RAZ RBZ
    go_wp2_with (at_next;refine Stop.halt ?_)
    refine Stop.go ?_
    refine HG.out.wpList_next keyI elem_int HCS.out.dom HSS.out rfl rfl (by rfl) ?_ ?_
    ·intro hd
     have HL2:=hid (show LaAt wr C ve us P {M with cs:=wrS s (fun _=>false) M.cs} from by rw[←wrS_end HSS.out hd];exact HL.out)
     clear hd HL
     go_wp2
     go_ret
     refine⟨_,ve,us,rfl,HB.out,?_⟩
     unfold lookStep
     rw[if_pos HST.out]
     exact⟨HL2.out,w.heap.size,w.heap.size+1,rfl,HRA.out,HRB.out,hBw,by omega⟩
    ·intro x u w3 k3 hxm hS hrg3 hlt3 hg3 hz3 hen
     have hit:=HG.out.iter
     have hit':∃b since seen c0,wr.heap[w5.heap.size]?=some (.mapIter b since seen c0):=⟨_,hit⟩
     have L3:=HL.out.still (Kd.next hg3 hit') (KmAll.next hg3 hit')
     have HB3:=hid (below_next HB.out hg3 HL.out.size hB5)
     have ra3:=Kd.next (T:=fun _=>False) hg3 hit' _ _ _ _ HRA.out (fun h=>h)
     have rb3:=Kd.next (T:=fun _=>False) hg3 hit' _ _ _ _ HRB.out (fun h=>h)
     have HG3:=hid hrg3
     have HS3:=hid hS
     have hx0:=HCS.out _ hxm
     have hxn:=HS.out _ hxm
     simp only at hx0 hxn
     obtain⟨k,rfl⟩:∃k:Nat,x=k:=⟨x.toNat,by omega⟩
     have hkn:k < P.cells.length:=by omega
     obtain⟨lC,c',hc',c0,c1⟩:=L3.ceAt HCE.out hkn
     obtain⟨csr,hrC⟩:=L3.ceRow HCE.out
     obtain⟨c,hc⟩:∃c,M.cs[k]?=some c:=by
      have:=(List.getElem?_eq_some_iff.1 hc').1
      rw[wrS_len] at this
      exact⟨_,List.getElem?_eq_getElem this⟩
     have hcc':c'=c:=by
      rw[wrS_get,hc,(fnd_some HSS.out).2 hxm] at hc'
      simpa[HS3.out] using hc'.symm
     subst hcc'
     have hcv:=HV.out _ (List.mem_of_getElem? hc)
     have hwr:wrap64 (c'.ver+1)=c'.ver+1:=IntWalk.wrap64_in _ (by omega)
     have hwr2:IntKind.i64.wrap (c'.ver+1)=c'.ver+1:=IntWalk.i64_in _ (by omega)
     have e1:=row_cell L3.row 1
     rw[HCE.out] at e1
     have lM3:=row_lt L3.row
     have y0:=row_cell ra3 0
     have f3:=row_lt ra3
     have ff0:=row_free hrC (k*2)
     have ff1:=row_free hrC (k*2+1)
     have hz4:w5.heap.size+1≤w3.heap.size:=by omega
     have HXM:=hid hxm
     have HL3:=hid L3
     have HRA3:=hid ra3
     have HRB3:=hid rb3
     have HRC:=hid hrC
     have HC:=hid hc
     clear hrg3 hg3 hS hxm hz3 hc hc' hit hit' L3 ra3 rb3 hrC HL HB HG HRA HRB
     go_wp2_with fail
     refine wp_region_x [1,0,0,1,0,0,1,0,0,1,0,0,0,1,0,0,0,2] [0,1,2,3,4,5,6,7,8,9,10,11,12,13,14,15,16,17] (by kernel_rfl) ?_
     simp only[selX,guardAt,sD,sE,sF,sG]
     repeat first|(refine wpL_p fun K hK=>?_;go_simp;refine hK _ _ ?_;clear hK K)|(apply wpL_s;(intro w2 hw2;have hk1:=hw2.cell;have hk3:=hw2.heap;clear hw2;go_simp;with_reducible rfl);simp only[Act.put,sA,sB,sC])
     refine wpL_e (fun K hK=>?_)
     go_simp
     refine hK _ _ ?_
     clear hK K
     repeat refine wpL_nil ?_
     have hBC:C.B≤gC:=(HL3.out.cells.lt gC (by rw[HCE.out];rfl)).1
     have kd1:Kd (fun t=>t=253) w3 ((w3.setCell ⟨gC,k*2,none⟩ (.int .i64 u)).setCell ⟨gC,k*2+1,none⟩ (.int .i64 (c'.ver+1))).drew:=Kd.trans (T:=fun t=>t=253) (Kd.set (T:=fun t=>t=253) HRC.out rfl _) (Kd.set (T:=fun t=>t=253) (row_set HRC.out (k*2) (.int .i64 u)) rfl _)
     have km1:KmAll w3 ((w3.setCell ⟨gC,k*2,none⟩ (.int .i64 u)).setCell ⟨gC,k*2+1,none⟩ (.int .i64 (c'.ver+1))).drew:=(KmAll.set HRC.out _).trans (KmAll.set (row_set HRC.out (k*2) (.int .i64 u)) _)
     have oc1:OwnF Ce.cells 253 2 ((w3.setCell ⟨gC,k*2,none⟩ (.int .i64 u)).setCell ⟨gC,k*2+1,none⟩ (.int .i64 (c'.ver+1))).drew C.B C.ce (wrS s (fun z=>S2 z&&!(z==(k:Int))) M.cs):=by
      have h1:=HL3.out.cells
      rw[HCE.out] at h1 ⊢
      have h2:=own_set2 h1 Ce.len (u:=⟨u,c'.ver+1⟩) rfl k
      rw[wrS_step HSS.out HXM.out HC.out] at h2
      exact h2
     have ro:∀q,q≠gC→((w3.setCell ⟨gC,k*2,none⟩ (.int .i64 u)).setCell ⟨gC,k*2+1,none⟩ (.int .i64 (c'.ver+1))).drew.heap[q]?=w3.heap[q]?:=fun q hq=>(Below.heap_setCell _ ⟨gC,k*2+1,none⟩ _ q hq).trans (Below.heap_setCell _ ⟨gC,k*2,none⟩ _ q hq)
     have b4:Below C.B w ((w3.setCell ⟨gC,k*2,none⟩ (.int .i64 u)).setCell ⟨gC,k*2+1,none⟩ (.int .i64 (c'.ver+1))).drew:=((HB3.out.setCell (p:=⟨gC,k*2,none⟩) hBC _).setCell (p:=⟨gC,k*2+1,none⟩) hBC _).drew
     have z5:((w3.setCell ⟨gC,k*2,none⟩ (.int .i64 u)).setCell ⟨gC,k*2+1,none⟩ (.int .i64 (c'.ver+1))).drew.heap.size=w3.heap.size:=by simp
     generalize ((w3.setCell ⟨gC,k*2,none⟩ (.int .i64 u)).setCell ⟨gC,k*2+1,none⟩ (.int .i64 (c'.ver+1))).drew=V at *
     have HB4:=hid b4
     have HL4:=hid (show LaAt V C ve us P {M with cs:=wrS s (fun z=>S2 z&&!(z==(k:Int))) M.cs} from HL3.out.turn (ws':=M.ws) (fun k cs t fz h1 h2=>kd1 k cs t fz h1 (fun e=>h2 (.inl e))) oc1 (by rw[wrS_len];exact HL3.out.clen▸(by simp[wrS_len])) (HL3.out.wks.keep (OwnF.kd HL3.out.wks.own kd1 (by decide)) km1))
     have HG4:=hid (HG3.out.obj (ro bs (by
      rintro rfl
      obtain⟨es,cl,hm,-⟩:=HG3.out.owns
      rw[HRC.out] at hm
      cases hm)) (ro w5.heap.size (by
      intro e
      obtain⟨s1,s2,s3,hi⟩:=HG3.out.iter
      rw[e,HRC.out] at hi
      cases hi)))
     have HRA4:=hid (kd1 _ _ _ _ HRA3.out (by decide))
     have HRB4:=hid (kd1 _ _ _ _ HRB3.out (by decide))
     clear b4 kd1 km1 oc1 ro HL3 HRA3 HRB3 HRC hen y0 c0 c1 e1 ff0 ff1
     go_wp2_with fail
     go_roundg k3
     case measure=>exact hlt3
     case rel=>exact⟨_,HG4.out,HL4.out,HB4.out,by omega,HRA4.out,HRB4.out⟩
  ·intro x u w3 k3 hxm hS hrg3 hlt3 hg3 hz3 hen
   have HB3:=hid (below_next HB.out hg3 HB.out.size (Nat.le_refl _))
   have HG3:=hid hrg3
   have HS3:=hid hS
   have hx0:=HCR.out _ hxm
   have hxn:=HR.out _ hxm
   simp only at hx0 hxn
   obtain⟨k,rfl⟩:∃k:Nat,x=k:=⟨x.toNat,by omega⟩
   obtain⟨-,c,hc,c0,c1⟩:=HX.out.ceAt HCE.out (k:=k) (by omega)
   have lC:gC < X.heap.size:=(HX.out.ceAt HCE.out (k:=k) (by omega)).1
   have e1:=row_cell HX.out.row 1
   rw[HCE.out] at e1
   have lM3:=row_lt HX.out.row
   have z3:=HB3.out.size
   have y0:=cell_below HB3.out (by omega) (row_cell RAX.out 0)
   have y1:=cell_below HB3.out (by omega) (row_cell RBX.out 0)
   have e1:=cell_below HB3.out lM3 e1
   have c1:=cell_below HB3.out lC c1
   have f1:C.bM < w3.heap.size:=by omega
   have f2:gC < w3.heap.size:=by omega
   have f3:w.heap.size < w3.heap.size:=by omega
   have f4:w.heap.size+1 < w3.heap.size:=by omega
   have hkn:k < P.cells.length:=by omega
   have hcv:verAt M.cs (k:Int)=c.ver:=by simp[verAt,hc]
   have HXM:=hid hxm
   have hz4:X.heap.size+1≤w3.heap.size:=by omega
   clear hrg3 hg3 hS hxm hz3 c0 hc
   by_cases hvv:c.ver=u
   ·have q1:(c.ver==u)=true:=by simpa using hvv
    have q2:(c.ver !=u)=false:=by simpa using hvv
    go_wp2_with fail
    go_roundg k3
    case measure=>exact hlt3
    case rel=>
     refine⟨_,HG3.out,HB3.out,by omega,fun p hp hq=>?_⟩
     by_cases e:p.1=(k:Int)
     ·rw [e,hcv,hvv]
      have:=(fnd_some HSR.out).2 hp
      rw[e,(fnd_some HSR.out).2 HXM.out] at this
      exact Option.some.inj this
     ·refine HOK.out p hp ?_
      have e2:(p.1==(k:Int))=false:=by simpa using e
      simpa[e2] using hq
   ·have q1:(c.ver==u)=false:=by simpa using hvv
    have q2:(c.ver !=u)=true:=by simpa using hvv
    have HN:=hid (show stands r M.cs=false from by
     unfold stands
     rw[List.all_eq_false]
     exact⟨_,HXM.out,by simp only;rw[hcv,q1];simp⟩)
    go_wp2_with fail
    refine(la_ends (HX.out.below HB3.out) i hi HT.out true hl).mono ?_
    rintro e w4 ⟨rfl,hb,ve',us',hla⟩
    have B4:=hid ((BX.out.trans (HB3.out.mono (by have:=ZX.out;omega))).trans hb)
    have L4:=hid hla
    clear hb hla y0 y1 e1 c1 hen
    go_wp2
    go_ret
    refine⟨_,ve',us',rfl,B4.out,?_⟩
    unfold lookStep
    rw[HN.out]
    exact⟨L4.out,rfl⟩
end
end
