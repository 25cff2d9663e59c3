/- Parts of the proof, merged by program out of 2 texts (FtU, Glb): the first: Law 15, FastEarned. Conditions: those of each theorem, as typed. -/
import Derived.Test.YtcpfbphcldocpaaGreatDoorQF34
import Derived.Test.YtcpfbphcldocpaaGreatDoorQF31
import Derived.Test.YtcpfbphcldocpaaGreatDoorRows
import Derived.Test.YtcpfbphcldocpaaGreatDoorQF32
import Derived.Lib.LaidTab
import Derived.Stop.LaidErr
import Derived.Deep.DeepHandedRow
import Derived.Deep.DeepWitnessRowRef
set_option linter.unusedVariables false
set_option linter.unusedSimpArgs false
set_option linter.unusedSectionVars false
set_option maxRecDepth 100000
set_option maxHeartbeats 4000000
namespace Go.Proofs.YtcpfbphcldocpaaGreatDoor
open Go.ChangeAt Go.ChangeShapes Go.Maps Go.RowKit Go.WideShapes
section
attribute [local irreducible] wpL
theorem lev_in (l:Int):1≤wrap64 ((wrap64 (l.tmod 4+4)).tmod 4+1)∧wrap64 ((wrap64 (l.tmod 4+4)).tmod 4+1)≤4:=by
 have h1:-4 < l.tmod 4∧l.tmod 4 < 4:=by
  rcases Int.le_total 0 l with h|h
  ·rw [Int.tmod_eq_emod_of_nonneg h];omega
  ·have h2:0≤-l:=by omega
   have h3:(-l).tmod 4=-(l.tmod 4):=Int.neg_tmod ..
   rw[Int.tmod_eq_emod_of_nonneg h2] at h3
   omega
 have e1:wrap64 (l.tmod 4+4)=l.tmod 4+4:=by unfold wrap64;omega
 rw[e1,Int.tmod_eq_emod_of_nonneg (by omega)]
 have e2:wrap64 ((l.tmod 4+4) % 4+1)=(l.tmod 4+4) % 4+1:=by unfold wrap64;omega
 rw[e2]
 omega
theorem rem_next {k n:Nat} (hk:k < n) (hn:n≤9223372036854775807):((k:Int)+1).tmod (n:Int)=(((k+1) % n:Nat):Int):=by
 have:((k:Int)+1)=((k+1:Nat):Int):=by omega
 rw[this,Int.tmod_eq_emod_of_nonneg (by omega)]
 rfl
theorem law_earned (ov:Value) (ae:Option Addr) (ce:Nat) (os:List Ob) (es:List Ev) (w:World) (h:HisG w ov (.slice ae es.length ce) os es) (hcap:es.length≤ce) (l:Int) (hl:dI l):
  Calls Tryz.prog 3 #[.agg #[ov,.slice ae es.length ce],.int .i64 l] w fun e w'=>e=.returned (.bool true)∧Below w.heap.size w w':=by
 obtain⟨ao,co,hov,-⟩:=h.ho.ex
 have b0:Below w.heap.size w (w.alloc (.cells #[ov,.slice ae es.length ce] 25)):=(Below.refl _ w).alloc (Nat.le_refl _) _
 have r0:=row_new w (.cells #[ov,.slice ae es.length ce] 25)
 subst hov
 have HH:=hid h
 have B0:=hid b0
 have R0:=hid r0
 have GL:=hid (GlF.mk h.wd h.er h.pr)
 clear h b0 r0
 go_enter Tryz.func3,Tryz.ntmps3
 go_wp2_with fail
 generalize w.alloc (.cells #[.slice ao os.length co,.slice ae es.length ce] 25)=W0 at *
 refine(l_first15 W0 (GL.out.below B0.out)).mono ?_
 rintro e W1 ⟨rfl,b1⟩
 have B1:=hid (B0.out.trans (b1.mono B0.out.size))
 have R1:=hid (row_below R0.out b1 (row_lt R0.out))
 have y0:=row_cell R1.out 0
 have y1:=row_cell R1.out 1
 simp at y0 y1
 have yl:=row_lt R1.out
 have H1:=hid (HH.out.below B1.out)
 have SC:=hid (l_small15 _ _ os es W1 H1.out.ho H1.out.he)
 obtain⟨sm,hsm⟩:∃sm,(decide (os.length≤100)&&decide (es.length≤120))=sm:=⟨_,rfl⟩
 rw[hsm] at SC
 have HSM:=hid hsm
 clear b1 hsm
 go_wp2_with fail
 refine SC.out.mono ?_
 rintro e W2 ⟨rfl,b2⟩
 have B2:=hid (B1.out.trans (b2.mono B1.out.size))
 have R2:=hid (row_below R1.out b2 yl)
 have H2:=hid (HH.out.below B2.out)
 clear b2 SC y0 y1 yl
 have y0:=row_cell R2.out 0
 have y1:=row_cell R2.out 1
 simp at y0 y1
 have yl:=row_lt R2.out
 cases sm with
 |false=>
  go_wp2_with fail
  refine bodyPost_ret (v:=.bool true) (by simp[results,Tryz.results3,go_sem]) rfl ⟨rfl,B2.out⟩
 |true=>
  have hes:es.length≤120:=by have:=HSM.out;simp at this;exact this.2
  have hol:os.length≤100:=by have:=HSM.out;simp at this;exact this.1
  have hlev:=lev_in l
  obtain⟨lv,hlv⟩:∃lv,wrap64 ((wrap64 (l.tmod 4+4)).tmod 4+1)=lv:=⟨_,rfl⟩
  go_wp2_with fail
  rw[hlv] at hlev ⊢
  clear hlv
  cases ep:premR os (tableG os es) with
  |none=>
   refine(f_JudgeN H2.out.toT ep (by omega)).mono ?_
   rintro e W3 ⟨⟨t,x,rfl⟩,b3⟩
   have B3:=hid (B2.out.trans (b3.mono B2.out.size))
   clear b3 ep
   go_wp2_with fail
   refine bodyPost_ret (v:=.bool true) (by simp[results,Tryz.results3,go_sem]) rfl ⟨rfl,B3.out.alloc B3.out.size _⟩
  |some A=>
   have hal:A.length≤200:=by have:=table_len (premR_some ep).1;omega
   by_cases h4:lv=4
   ·subst h4
    refine(f_Judge4 H2.out ep (by omega)).mono ?_
    rintro e W3 ⟨hr,b3⟩
    have hz2:=B2.out.size
    have B3:=hid (B2.out.trans (b3.mono hz2))
    have R3:=hid (row_below R2.out b3 yl)
    clear y0 y1 yl
    have y0:=row_cell R3.out 0
    have y1:=row_cell R3.out 1
    simp at y0 y1
    have yl:=row_lt R3.out
    rcases hr with⟨va,rfl,⟨xa,xn,xc,rfl⟩,-⟩|⟨j,a,vs,vc,hj,⟨A2,hA2,hJ⟩,hk1,rfl,hA⟩
    ·clear b3 ep
     go_wp2_with fail
     refine bodyPost_ret (v:=.bool true) (by simp[results,Tryz.results3,go_sem]) rfl ⟨rfl,B3.out.alloc B3.out.size _⟩
    ·obtain ⟨aS,cS,e1⟩:=OwnF.sli hA.1
     obtain⟨aC,cC,e2⟩:=OwnF.sli hA.2
     subst e1 e2
     obtain⟨n,hn⟩:∃n,a.cyc.length=n:=⟨_,rfl⟩
     have HN:=hid hn
     have CY:=hid (OwnF.base hA.2 hz2)
     have HK1:=hid hk1
     have HJ:=hid hJ
     have EP:=hid hA2
     have hal2:A2.length≤200:=by have:=table_len (premR_some hA2).1;rw[List.length_take] at this;omega
     have hq1:(a.kind==1)=false:=by simp[hk1]
     unfold ansV
     simp only
     rw[hn]
     rw[hn] at CY
     have hnl0:n≤9223372036854775807:=by
      obtain⟨_,_,_,h⟩:=OwnF.form2 CY.out
      rw[hn] at h
      exact h
     have bx:Below W3.heap.size W3 ((W3.alloc (.cells #[.int .i64 a.kind,.slice aS a.steps.length cS,.slice none 0 0,.int .i64 (j:Int),.int .i64 a.tx,.int .i64 a.deed,.slice aC n cC] 32)).alloc (.cells #[.slice ao os.length co,.slice ae es.length ce] 25)):=((Below.refl _ W3).alloc (Nat.le_refl _) _).alloc (by simp) _
     have RA:=hid (row_old (o:=.cells #[.slice ao os.length co,.slice ae es.length ce] 25) (row_new W3 (.cells #[.int .i64 a.kind,.slice aS a.steps.length cS,.slice none 0 0,.int .i64 (j:Int),.int .i64 a.tx,.int .i64 a.deed,.slice aC n cC] 32)))
     have rb:=row_new (W3.alloc (.cells #[.int .i64 a.kind,.slice aS a.steps.length cS,.slice none 0 0,.int .i64 (j:Int),.int .i64 a.tx,.int .i64 a.deed,.slice aC n cC] 32)) (.cells #[.slice ao os.length co,.slice ae es.length ce] 25)
     simp only[World.size_alloc] at rb
     have RB:=hid rb
     have CY:=hid (OwnF.below CY.out bx)
     have BY:=hid (B3.out.trans (bx.mono B3.out.size))
     have hzy:((W3.alloc (.cells #[.int .i64 a.kind,.slice aS a.steps.length cS,.slice none 0 0,.int .i64 (j:Int),.int .i64 a.tx,.int .i64 a.deed,.slice aC n cC] 32)).alloc (.cells #[.slice ao os.length co,.slice ae es.length ce] 25)).heap.size=W3.heap.size+2:=by simp
     have HZY:=hid hzy
     have ZL:=hid (HH.out.below BY.out)
     have PC:=hid (h_Prefix _ ae ce os es j _ ZL.out.ho ZL.out.he hcap (by omega) (by omega))
     have y3:=row_cell RA.out 3
     simp at y3
     have y3l:=row_lt RA.out
     clear hJ hA b3 hk1 hn bx ep hA2 rb hzy
     go_wp2_with fail
     refine PC.out.mono ?_
     rintro e W5 ⟨ov2,vv2,rfl,o2,v2,b5⟩
     have hw35:=b5.size
     rw[HZY.out] at hw35
     obtain⟨a3,c3,e3⟩:=OwnF.sli o2
     subst e3
     obtain⟨m,hm⟩:∃m,(es.take j).length=m:=⟨_,rfl⟩
     obtain⟨a4,c4,e4⟩:=OwnF.sli v2
     rw[hm] at e4
     subst e4
     have rA:=row_below RA.out b5 y3l
     have rB:=row_below RB.out b5 (row_lt RB.out)
     have cy:=OwnF.below CY.out b5
     have bB:=BY.out.trans (b5.mono BY.out.size)
     have RA:=hid (row_other (row_other rA (show W3.heap.size+1≠W3.heap.size by omega) (j:=0) (v:=.slice a3 os.length c3)) (show W3.heap.size+1≠W3.heap.size by omega) (j:=1) (v:=.slice a4 m c4))
     have RB5:=hid (row_set (row_set rB 0 (.slice a3 os.length c3)) 1 (.slice a4 m c4))
     have CY:=hid (OwnF.other (j:=1) (OwnF.other (j:=0) cy (OwnF.neT cy rB (by decide)) (.slice a3 os.length c3)) (OwnF.neT cy rB (by decide)) (.slice a4 m c4))
     have hw3:w.heap.size≤W3.heap.size+1:=by have:=B3.out.size;omega
     have BX:=hid ((bB.setCell (p:=⟨W3.heap.size+1,0,none⟩) hw3 (.slice a3 os.length c3)).setCell (p:=⟨W3.heap.size+1,1,none⟩) hw3 (.slice a4 m c4))
     have o5:=OwnF.other (j:=1) (OwnF.other (j:=0) o2 (OwnF.neT o2 rB (by decide)) (.slice a3 os.length c3)) (OwnF.neT o2 rB (by decide)) (.slice a4 m c4)
     have v5:=OwnF.other (j:=1) (OwnF.other (j:=0) v2 (OwnF.neT v2 rB (by decide)) (.slice a3 os.length c3)) (OwnF.neT v2 rB (by decide)) (.slice a4 m c4)
     have HG:=hid (HH.out.take BX.out (i:=j) (OwnF.sl o5) (by have:=OwnF.sl v5;exact this))
     have RB:=hid (show((W5.setCell ⟨W3.heap.size+1,0,none⟩ (.slice a3 os.length c3)).setCell ⟨W3.heap.size+1,1,none⟩ (.slice a4 m c4)).heap[W3.heap.size+1]?=some (.cells #[.slice a3 os.length c3,.slice a4 m c4] 25 (0,0)) by simpa using RB5.out)
     have yb:=row_free rB
     have yb0':=yb 0
     have yb1':=yb 1
     have ybx:=row_cell rB
     have ybx0:=ybx 0
     have ybx1:=ybx 1
     simp at ybx0 ybx1
     have yblt:=row_lt rB
     have yra:=row_cell rA 0
     simp at yra
     have yral:=row_lt rA
     clear rA rB cy bB RB5 o5 v5 o2 v2 b5 PC y3 y3l yb ybx hm
     have HND:=hid (prem_ids (premR_some EP.out).1 (premR_some EP.out).2)
     rcases earned_cases HJ.out with⟨hk,-⟩|⟨hk,htop,hcy⟩|⟨hk,i,k,s,hs,htx,hdd,hx⟩
     ·exact absurd hk HK1.out
     ·have hec:=earned_circle HND.out htop hcy
      have hcyd:∀x ∈ a.cyc,dI x:=fun x hx=>by
       have hok:=graph_ok (lev:=3) (A:=A2) (T:=takenF 3 A2)
       rcases hcy.ring (fun p q h=>by
        obtain⟨r,hr⟩:=mem_prs.1 h
        exact hok.ends _ hr) with e|hr
       ·rw [e] at hx;cases hx
       ·obtain ⟨q,t,ht,-,e⟩:=graph_node.1 (hr.sub x hx)
        rw[e]
        exact(table_dvOk (premR_some EP.out).1).id t (List.mem_of_getElem? ht)
      have HEC:=hid (show ∀(k:Nat) (x y:Int),a.cyc[k]?=some x→a.cyc[(k+1) % n]?=some y→kindsOf (graphF 3 A2 (takenF 3 A2)).2 x y≠[] by rw[←HN.out];exact hec.2)
      have hn2:2≤n:=by rw[←HN.out];exact hec.1
      have HCD:=hid hcyd
      have hEl:=(graph_size (lev:=3) (A:=A2) (T:=takenF 3 A2) hal2).2
      have q3:(a.kind==3)=true:=by simp[hk]
      clear hk htop hcy hec hcyd
      go_wp2_with fail
      generalize (W5.setCell ⟨W3.heap.size+1,0,none⟩ (.slice a3 os.length c3)).setCell ⟨W3.heap.size+1,1,none⟩ (.slice a4 m c4)=X0 at *
      have GC:=hid (f_GraphS (lev:=3) HG.out.toT EP.out (.inr (.inr rfl)) hal2)
      refine GC.out.mono ?_
      rintro e X1 ⟨p,rfl,hGr,bx1⟩
      have hBX:=BX.out.size
      have B1x:=hid (BX.out.trans (bx1.mono hBX))
      have RA1:=hid (row_below RA.out bx1 (row_lt RA.out))
      have CY1:=hid (OwnF.below CY.out bx1)
      have GR:=hid hGr
      have hc2:decide ((n:Int) < 2)=false:=by simp;omega
      have hz1x:=bx1.size
      clear bx1 hGr GC
      have ya6:=row_cell RA1.out 6
      simp at ya6
      have yla:=row_lt RA1.out
      have hsz1:w.heap.size≤X1.heap.size:=B1x.out.size
      go_wp2_with fail
      go_loopw [11] (fun q wr=>∃k:Nat,k≤n∧q=.int .i64 k∧Below X1.heap.size X1 wr) (fun q _=>n - (intOf q).toNat)
      case atStart=>exact⟨0,by omega,by go_num,Below.refl _ _⟩
      case round=>
       obtain⟨k,hk,rfl,hB⟩:=hrel
       have HB:=hid hB
       have RA2:=row_below RA1.out hB yla
       have y6:=row_cell RA2 6
       simp at y6
       have y6l:=row_lt RA2
       have hwz:=hB.size
       have HGw:=hid (GR.out.below hB (Nat.le_refl _))
       have SL:=hid (sl_ofI (OwnF.below CY1.out hB) HN.out)
       clear hB RA2 ya6
       by_cases hlt:k < n
       ·obtain ⟨b1,o1,x1,rfl,hb1,hx1,hc1⟩:=SL.out.intAt hlt
        have hlt2:(k+1) % n < n:=Nat.mod_lt _ (by omega)
        obtain⟨b2,o2,x2,he2,hb2,hx2,hc2'⟩:=SL.out.intAt hlt2
        simp only[Option.some.injEq,Addr.mk.injEq,and_true] at he2
        obtain⟨rfl,rfl⟩:=he2
        have hnl:n≤9223372036854775807:=hnl0
        have hrem:=rem_next hlt hnl
        have hkw:IntKind.i64.wrap ((k:Int)+1)=(k:Int)+1:=IntWalk.i64_in _ (by omega)
        have hne:=HEC.out k x1 x2 hx1 hx2
        have d1:=HCD.out x1 (List.mem_of_getElem? hx1)
        have d2:=HCD.out x2 (List.mem_of_getElem? hx2)
        have KC:=hid (fun(X:World) (hX:Below wr.heap.size wr X)=>gr_kinds (HGw.out.below hX hwz) (Nat.le_trans hEl (by decide)) x1 x2 d1 d2)
        have HNE:=hid hne
        obtain⟨j2,hj2⟩:∃j:Nat,(k+1) % n=j:=⟨_,rfl⟩
        rw[hj2] at hrem hlt2 hc2'
        have hb1':b1 < wr.heap.size:=hb1
        clear hx1 hx2 hne d1 d2 hj2
        go_wp2_with fail
        have hn0:n≠0:=by omega
        have hn1:((n:Int)==0)=false:=by simp;omega
        refine wp_region_x [0,0,1,0,0,1,0,1,0,0,0,1,0,0,0,1,2,0,0] [0,1,2,3,4,5,6,7,8,9,10,11,12,13,14,15,16,17,18] (by kernel_rfl) ?_
        simp only[selX,guardAt,sD,sE,sF,sG]
        repeat first|(refine wpL_p fun K hK=>?_;go_simp;refine hK _ _ ?_;clear hK K)|(apply wpL_s;(intro w2 hw2;have hk1:=hw2.cell;have hk3:=hw2.heap;clear hw2;go_simp;with_reducible rfl);simp only[Act.put,sA,sB,sC])|refine wpL_yes rfl rfl ?_|(refine wpL_no rfl rfl fun K hK=>?_;simp only[Act.put,sA,sB,sC];refine hK _ _ ?_;clear hK K)|refine wpL_nil ?_
        refine wpL_e (fun K hK=>?_)
        go_simp
        refine(KC.out _ (Below.refl _ wr).drew).mono ?_
        rintro e w5 ⟨kv,rfl,ko,b5⟩
        obtain⟨m,hm⟩:∃m,(kindsOf (graphF 3 A2 (takenF 3 A2)).2 x1 x2).length=m:=⟨_,rfl⟩
        obtain⟨ak,ck,e1⟩:=OwnF.sli ko
        subst e1
        rw[hm]
        have hm1:m≠0:=fun e=>HNE.out (List.length_eq_zero_iff.1 (hm.trans e))
        have hm0:((m:Int)==0)=false:=by simp;exact hm1
        have B5:=hid (HB.out.trans (((Below.refl _ wr).drew.trans b5).mono hwz))
        clear ko b5 hm hm1
        refine hK _ _ ?_
        clear hK K
        repeat first|(refine wpL_p fun K hK=>?_;go_simp;refine hK _ _ ?_;clear hK K)|(apply wpL_s;(intro w2 hw2;have hk1:=hw2.cell;have hk3:=hw2.heap;clear hw2;go_simp;with_reducible rfl);simp only[Act.put,sA,sB,sC])|refine wpL_yes rfl rfl ?_|(refine wpL_no rfl rfl fun K hK=>?_;simp only[Act.put,sA,sB,sC];refine hK _ _ ?_;clear hK K)|refine wpL_nil ?_
        go_wp2_with fail
        go_roundw
        case rel=>exact⟨k+1,by omega,by go_num,B5.out⟩
        case measure=>simp[intOf];omega
       ·obtain rfl:k=n:=by omega
        have hq:decide ((k:Int) < (k:Int))=false:=by simp
        have BF:=hid (B1x.out.trans (HB.out.mono hsz1))
        go_wp2_with fail
        refine bodyPost_ret (v:=.bool true) (by simp[results,Tryz.results3,go_sem]) rfl ⟨rfl,BF.out⟩
     ·obtain ⟨hkl,hex⟩:=earned_read (premR_some EP.out).2 may_taken hs (prem_deeds (premR_some EP.out).1 (premR_some EP.out).2 s (List.mem_of_getElem? hs)) hx
      have HS:=hid hs
      have HEX:=hid hex
      have HKL:=hid hkl
      have q3:(a.kind==3)=false:=by simp[hk]
      have HTX:=hid htx
      have HDD:=hid hdd
      clear hk hs hx hex htx hdd hkl
      go_wp2_with fail
      generalize (W5.setCell ⟨W3.heap.size+1,0,none⟩ (.slice a3 os.length c3)).setCell ⟨W3.heap.size+1,1,none⟩ (.slice a4 m c4)=X0 at *
      have hTC:=HG.out.toT.hT X0 (Below.refl _ _)
      rw[(premR_some EP.out).1] at hTC
      refine hTC.mono ?_
      rintro e X1 ⟨tv,rfl,ht,bx1⟩
      have hBX:=BX.out.size
      have B1x:=hid (BX.out.trans (bx1.mono hBX))
      have RA1:=hid (row_below RA.out bx1 (row_lt RA.out))
      have RB1:=hid (row_below RB.out bx1 (row_lt RB.out))
      have HG1:=hid (HG.out.below bx1)
      have TX1:=hid ht
      have FC:=hid (sh_Find tv A2 s.id _ X1 ht HS.out rfl fun j t hj hjt e=>by have:=id_inj HND.out hjt HS.out e;omega)
      rw[←HTX.out] at FC
      have ya4:=row_cell RA1.out 4
      simp at ya4
      have yla:=row_lt RA1.out
      clear bx1 ht hTC
      go_wp2_with fail
      refine FC.out.mono ?_
      rintro e X2 ⟨rfl,bx2⟩
      have hsz1:w.heap.size≤X1.heap.size:=B1x.out.size
      have B2x:=hid (B1x.out.trans (bx2.mono hsz1))
      have RA2:=hid (row_below RA1.out bx2 (row_lt RA1.out))
      have RB2:=hid (row_below RB1.out bx2 (row_lt RB1.out))
      have HG2:=hid (HG1.out.below bx2)
      have TX2:=hid (TX1.out.below bx2)
      obtain⟨rs,hrs1,hrs2,hrs3⟩:=TX2.out
      obtain⟨at',ct,e1⟩:=OwnF.sli hrs1
      subst e1
      have hil:i < rs.length:=by rw[hrs2];exact(List.getElem?_eq_some_iff.1 HS.out).1
      obtain⟨bt,ot,r,hat,hbt,hr,hct⟩:=(OwnF.sl hrs1).atF TxR.len rfl hil
      subst hat
      obtain⟨dA,dC,hdv⟩:=OwnF.sli (hrs3 i r s hr HS.out).2
      have c6:=hct 6 (by decide)
      simp only[TxR.cells,List.getElem?_cons_zero,List.getElem?_cons_succ] at c6
      rw[hdv] at c6
      obtain⟨dn,hdn⟩:∃dn,s.deeds.length=dn:=⟨_,rfl⟩
      have hkl2:k < dn:=by rw[←hdn];exact HKL.out
      rw[hdn] at c6
      have hrl:rs.length≤400:=by rw[hrs2];exact(table_dvOk (premR_some EP.out).1).len
      have ya5:=row_cell RA2.out 5
      simp at ya5
      rw[HDD.out] at ya5
      have yla2:=row_lt RA2.out
      have hd1:decide ((k:Int) < 0)=false:=by simp
      have hd2:decide ((dn:Int)≤(k:Int))=false:=by simp;omega
      have hbt':bt < X2.heap.size:=hbt
      have HRS:=hid hrs2
      clear bx2 FC hct hr hrs3 hrs1 hrs2 hdv ya4 yla hdn
      go_wp2_with fail
      refine wp_region_x [0,0,0,0,0,0,0,0,1,0,0,0,0,1,0,0,0,0,1,0,0,0] [0,1,2,3,4,5,6,7,8,9,10,11,12,13,14,15,16,17,18,19,20,21] (by kernel_rfl) ?_
      simp only[selX,guardAt,sD,sE,sF,sG,Option.bind_some]
      repeat first|(refine wpL_p fun K hK=>?_;go_simp;refine hK _ _ ?_;clear hK K)|(apply wpL_s;(intro w2 hw2;have hk1:=hw2.cell;have hk3:=hw2.heap;clear hw2;go_simp;with_reducible rfl);simp only[Act.put,sA,sB,sC])|refine wpL_yes rfl rfl ?_|(refine wpL_no rfl rfl fun K hK=>?_;simp only[Act.put,sA,sB,sC];refine hK _ _ ?_;clear hK K)|refine wpL_nil ?_
      have HG3:=hid (HG2.out.below (Below.refl _ X2).drew)
      have TX3:=hid (TX2.out.below (Below.refl _ X2).drew)
      have RA3:=hid (row_drew RA2.out)
      have RB3:=hid (row_drew RB2.out)
      have B3x:=hid B2x.out.drew
      clear c6 ya5 yla2 RA2 RB2 HG2 TX2 hbt' hbt
      generalize X2.drew=X3 at *
      have yb0:=row_cell RB3.out 0
      have yb1:=row_cell RB3.out 1
      have ya5:=row_cell RA3.out 5
      simp at yb0 yb1 ya5
      rw[HDD.out] at ya5
      have yla:=row_lt RA3.out
      have ylb:=row_lt RB3.out
      have WE:=hid (w_explained (lev:=3) HG3.out.toT EP.out (.inr (.inr rfl)) TX3.out HS.out HKL.out HND.out)
      rw[HEX.out] at WE
      have hsz3:w.heap.size≤X3.heap.size:=B3x.out.size
      go_wp2_with fail
      refine WE.out.mono ?_
      rintro e X4 ⟨rfl,bx4⟩
      have BF:=hid (B3x.out.trans (bx4.mono hsz3))
      clear bx4
      go_wp2_with fail
      refine bodyPost_ret (v:=.bool true) (by simp[results,Tryz.results3,go_sem]) rfl ⟨rfl,BF.out⟩
   ·have hl3:lv=1∨lv=2∨lv=3:=by omega
    have EP:=hid ep
    refine(f_JudgeS H2.out.toT ep hl3 hal (prem_ids (premR_some ep).1 (premR_some ep).2)).mono ?_
    rintro e W3 ⟨a,vs,vc,rfl,hJ,hA,b3⟩
    obtain⟨aS,cS,e1⟩:=OwnF.sli hA.1
    obtain⟨aC,cC,e2⟩:=OwnF.sli hA.2
    subst e1 e2
    have hz2:=B2.out.size
    have B3:=hid (B2.out.trans (b3.mono hz2))
    have R3:=hid (row_below R2.out b3 yl)
    clear y0 y1 yl
    have y0:=row_cell R3.out 0
    have y1:=row_cell R3.out 1
    simp at y0 y1
    have yl:=row_lt R3.out
    have HJ:=hid hJ
    by_cases hk1:a.kind=1
    ·rcases earned_cases hJ with⟨-,hcy,htx,hpre⟩|⟨hk,-⟩|⟨hk,-⟩
     ·unfold ansV
      rw[hk1,hcy,htx,hpre,List.length_nil]
      clear hJ hA b3
      go_wp2_with fail
      refine bodyPost_ret (v:=.bool true) (by simp[results,Tryz.results3,go_sem]) rfl ⟨rfl,B3.out.alloc B3.out.size _⟩
     ·omega
     ·omega
    ·obtain ⟨n,hn⟩:∃n,a.cyc.length=n:=⟨_,rfl⟩
     have HN:=hid hn
     have CY:=hid (OwnF.base hA.2 hz2)
     have HK1:=hid hk1
     have hq1:(a.kind==1)=false:=by simp[hk1]
     have hq4:(lv==4)=false:=by simp[h4]
     unfold ansV
     rw[hn]
     rw[hn] at CY
     have hnl0:n≤9223372036854775807:=by
      obtain⟨_,_,_,h⟩:=OwnF.form2 CY.out
      rw[hn] at h
      exact h
     have bx:Below W3.heap.size W3 ((W3.alloc (.cells #[.int .i64 a.kind,.slice aS a.steps.length cS,.slice none 0 0,.int .i64 a.pre,.int .i64 a.tx,.int .i64 a.deed,.slice aC n cC] 32)).alloc (.cells #[.slice ao os.length co,.slice ae es.length ce] 25)):=((Below.refl _ W3).alloc (Nat.le_refl _) _).alloc (by simp) _
     have RA:=hid (row_old (o:=.cells #[.slice ao os.length co,.slice ae es.length ce] 25) (row_new W3 (.cells #[.int .i64 a.kind,.slice aS a.steps.length cS,.slice none 0 0,.int .i64 a.pre,.int .i64 a.tx,.int .i64 a.deed,.slice aC n cC] 32)))
     have RB:=hid (row_new (W3.alloc (.cells #[.int .i64 a.kind,.slice aS a.steps.length cS,.slice none 0 0,.int .i64 a.pre,.int .i64 a.tx,.int .i64 a.deed,.slice aC n cC] 32)) (.cells #[.slice ao os.length co,.slice ae es.length ce] 25))
     have CY:=hid (OwnF.below CY.out bx)
     have BX:=hid (B3.out.trans (bx.mono B3.out.size))
     have HG:=hid (HH.out.below BX.out)
     clear hJ hA b3 hk1 hn bx ep
     have HND:=hid (prem_ids (premR_some EP.out).1 (premR_some EP.out).2)
     rcases earned_cases HJ.out with⟨hk,-⟩|⟨hk,htop,hcy⟩|⟨hk,i,k,s,hs,htx,hdd,hx⟩
     ·exact absurd hk HK1.out
     ·have hec:=earned_circle HND.out htop hcy
      have hcyd:∀x ∈ a.cyc,dI x:=fun x hx=>by
       have hok:=graph_ok (lev:=lv) (A:=A) (T:=takenF lv A)
       rcases hcy.ring (fun p q h=>by
        obtain⟨r,hr⟩:=mem_prs.1 h
        exact hok.ends _ hr) with e|hr
       ·rw [e] at hx;cases hx
       ·obtain ⟨q,t,ht,-,e⟩:=graph_node.1 (hr.sub x hx)
        rw[e]
        exact(table_dvOk (premR_some EP.out).1).id t (List.mem_of_getElem? ht)
      have HEC:=hid (show ∀(k:Nat) (x y:Int),a.cyc[k]?=some x→a.cyc[(k+1) % n]?=some y→kindsOf (graphF lv A (takenF lv A)).2 x y≠[] by rw[←HN.out];exact hec.2)
      have hn2:2≤n:=by rw[←HN.out];exact hec.1
      have HCD:=hid hcyd
      have hEl:=(graph_size (lev:=lv) (A:=A) (T:=takenF lv A) hal).2
      have q3:(a.kind==3)=true:=by simp[hk]
      clear hk htop hcy hec hcyd
      go_wp2_with fail
      generalize (W3.alloc (.cells #[.int .i64 a.kind,.slice aS a.steps.length cS,.slice none 0 0,.int .i64 a.pre,.int .i64 a.tx,.int .i64 a.deed,.slice aC n cC] 32)).alloc (.cells #[.slice ao os.length co,.slice ae es.length ce] 25)=X0 at *
      have GC:=hid (f_GraphS (lev:=lv) HG.out.toT EP.out hl3 hal)
      refine GC.out.mono ?_
      rintro e X1 ⟨p,rfl,hGr,bx1⟩
      have hBX:=BX.out.size
      have B1x:=hid (BX.out.trans (bx1.mono hBX))
      have RA1:=hid (row_below RA.out bx1 (row_lt RA.out))
      have CY1:=hid (OwnF.below CY.out bx1)
      have GR:=hid hGr
      have hc2:decide ((n:Int) < 2)=false:=by simp;omega
      have hz1x:=bx1.size
      clear bx1 hGr GC
      have ya6:=row_cell RA1.out 6
      simp at ya6
      have yla:=row_lt RA1.out
      have hsz1:w.heap.size≤X1.heap.size:=B1x.out.size
      go_wp2_with fail
      go_loopw [11] (fun q wr=>∃k:Nat,k≤n∧q=.int .i64 k∧Below X1.heap.size X1 wr) (fun q _=>n - (intOf q).toNat)
      case atStart=>exact⟨0,by omega,by go_num,Below.refl _ _⟩
      case round=>
       obtain⟨k,hk,rfl,hB⟩:=hrel
       have HB:=hid hB
       have RA2:=row_below RA1.out hB yla
       have y6:=row_cell RA2 6
       simp at y6
       have y6l:=row_lt RA2
       have hwz:=hB.size
       have HGw:=hid (GR.out.below hB (Nat.le_refl _))
       have SL:=hid (sl_ofI (OwnF.below CY1.out hB) HN.out)
       clear hB RA2 ya6
       by_cases hlt:k < n
       ·obtain ⟨b1,o1,x1,rfl,hb1,hx1,hc1⟩:=SL.out.intAt hlt
        have hlt2:(k+1) % n < n:=Nat.mod_lt _ (by omega)
        obtain⟨b2,o2,x2,he2,hb2,hx2,hc2'⟩:=SL.out.intAt hlt2
        simp only[Option.some.injEq,Addr.mk.injEq,and_true] at he2
        obtain⟨rfl,rfl⟩:=he2
        have hnl:n≤9223372036854775807:=hnl0
        have hrem:=rem_next hlt hnl
        have hkw:IntKind.i64.wrap ((k:Int)+1)=(k:Int)+1:=IntWalk.i64_in _ (by omega)
        have hne:=HEC.out k x1 x2 hx1 hx2
        have d1:=HCD.out x1 (List.mem_of_getElem? hx1)
        have d2:=HCD.out x2 (List.mem_of_getElem? hx2)
        have KC:=hid (fun(X:World) (hX:Below wr.heap.size wr X)=>gr_kinds (HGw.out.below hX hwz) (Nat.le_trans hEl (by decide)) x1 x2 d1 d2)
        have HNE:=hid hne
        obtain⟨j2,hj2⟩:∃j:Nat,(k+1) % n=j:=⟨_,rfl⟩
        rw[hj2] at hrem hlt2 hc2'
        have hb1':b1 < wr.heap.size:=hb1
        clear hx1 hx2 hne d1 d2 hj2
        go_wp2_with fail
        have hn0:n≠0:=by omega
        have hn1:((n:Int)==0)=false:=by simp;omega
        refine wp_region_x [0,0,1,0,0,1,0,1,0,0,0,1,0,0,0,1,2,0,0] [0,1,2,3,4,5,6,7,8,9,10,11,12,13,14,15,16,17,18] (by kernel_rfl) ?_
        simp only[selX,guardAt,sD,sE,sF,sG]
        repeat first|(refine wpL_p fun K hK=>?_;go_simp;refine hK _ _ ?_;clear hK K)|(apply wpL_s;(intro w2 hw2;have hk1:=hw2.cell;have hk3:=hw2.heap;clear hw2;go_simp;with_reducible rfl);simp only[Act.put,sA,sB,sC])|refine wpL_yes rfl rfl ?_|(refine wpL_no rfl rfl fun K hK=>?_;simp only[Act.put,sA,sB,sC];refine hK _ _ ?_;clear hK K)|refine wpL_nil ?_
        refine wpL_e (fun K hK=>?_)
        go_simp
        refine(KC.out _ (Below.refl _ wr).drew).mono ?_
        rintro e w5 ⟨kv,rfl,ko,b5⟩
        obtain⟨m,hm⟩:∃m,(kindsOf (graphF lv A (takenF lv A)).2 x1 x2).length=m:=⟨_,rfl⟩
        obtain⟨ak,ck,e1⟩:=OwnF.sli ko
        subst e1
        rw[hm]
        have hm1:m≠0:=fun e=>HNE.out (List.length_eq_zero_iff.1 (hm.trans e))
        have hm0:((m:Int)==0)=false:=by simp;exact hm1
        have B5:=hid (HB.out.trans (((Below.refl _ wr).drew.trans b5).mono hwz))
        clear ko b5 hm hm1
        refine hK _ _ ?_
        clear hK K
        repeat first|(refine wpL_p fun K hK=>?_;go_simp;refine hK _ _ ?_;clear hK K)|(apply wpL_s;(intro w2 hw2;have hk1:=hw2.cell;have hk3:=hw2.heap;clear hw2;go_simp;with_reducible rfl);simp only[Act.put,sA,sB,sC])|refine wpL_yes rfl rfl ?_|(refine wpL_no rfl rfl fun K hK=>?_;simp only[Act.put,sA,sB,sC];refine hK _ _ ?_;clear hK K)|refine wpL_nil ?_
        go_wp2_with fail
        go_roundw
        case rel=>exact⟨k+1,by omega,by go_num,B5.out⟩
        case measure=>simp[intOf];omega
       ·obtain rfl:k=n:=by omega
        have hq:decide ((k:Int) < (k:Int))=false:=by simp
        have BF:=hid (B1x.out.trans (HB.out.mono hsz1))
        go_wp2_with fail
        refine bodyPost_ret (v:=.bool true) (by simp[results,Tryz.results3,go_sem]) rfl ⟨rfl,BF.out⟩
     ·obtain ⟨hkl,hex⟩:=earned_read (premR_some EP.out).2 may_taken hs (prem_deeds (premR_some EP.out).1 (premR_some EP.out).2 s (List.mem_of_getElem? hs)) hx
      have HS:=hid hs
      have HEX:=hid hex
      have HKL:=hid hkl
      have q3:(a.kind==3)=false:=by simp[hk]
      have HTX:=hid htx
      have HDD:=hid hdd
      clear hk hs hx hex htx hdd hkl
      go_wp2_with fail
      generalize (W3.alloc (.cells #[.int .i64 a.kind,.slice aS a.steps.length cS,.slice none 0 0,.int .i64 a.pre,.int .i64 a.tx,.int .i64 a.deed,.slice aC n cC] 32)).alloc (.cells #[.slice ao os.length co,.slice ae es.length ce] 25)=X0 at *
      have hTC:=HG.out.toT.hT X0 (Below.refl _ _)
      rw[(premR_some EP.out).1] at hTC
      refine hTC.mono ?_
      rintro e X1 ⟨tv,rfl,ht,bx1⟩
      have hBX:=BX.out.size
      have B1x:=hid (BX.out.trans (bx1.mono hBX))
      have RA1:=hid (row_below RA.out bx1 (row_lt RA.out))
      have RB1:=hid (row_below RB.out bx1 (row_lt RB.out))
      have HG1:=hid (HG.out.below bx1)
      have TX1:=hid ht
      have FC:=hid (sh_Find tv A s.id _ X1 ht HS.out rfl fun j t hj hjt e=>by have:=id_inj HND.out hjt HS.out e;omega)
      rw[←HTX.out] at FC
      have ya4:=row_cell RA1.out 4
      simp at ya4
      have yla:=row_lt RA1.out
      clear bx1 ht hTC
      go_wp2_with fail
      refine FC.out.mono ?_
      rintro e X2 ⟨rfl,bx2⟩
      have hsz1:w.heap.size≤X1.heap.size:=B1x.out.size
      have B2x:=hid (B1x.out.trans (bx2.mono hsz1))
      have RA2:=hid (row_below RA1.out bx2 (row_lt RA1.out))
      have RB2:=hid (row_below RB1.out bx2 (row_lt RB1.out))
      have HG2:=hid (HG1.out.below bx2)
      have TX2:=hid (TX1.out.below bx2)
      obtain⟨rs,hrs1,hrs2,hrs3⟩:=TX2.out
      obtain⟨at',ct,e1⟩:=OwnF.sli hrs1
      subst e1
      have hil:i < rs.length:=by rw[hrs2];exact(List.getElem?_eq_some_iff.1 HS.out).1
      obtain⟨bt,ot,r,hat,hbt,hr,hct⟩:=(OwnF.sl hrs1).atF TxR.len rfl hil
      subst hat
      obtain⟨dA,dC,hdv⟩:=OwnF.sli (hrs3 i r s hr HS.out).2
      have c6:=hct 6 (by decide)
      simp only[TxR.cells,List.getElem?_cons_zero,List.getElem?_cons_succ] at c6
      rw[hdv] at c6
      obtain⟨dn,hdn⟩:∃dn,s.deeds.length=dn:=⟨_,rfl⟩
      have hkl2:k < dn:=by rw[←hdn];exact HKL.out
      rw[hdn] at c6
      have hrl:rs.length≤400:=by rw[hrs2];exact(table_dvOk (premR_some EP.out).1).len
      have ya5:=row_cell RA2.out 5
      simp at ya5
      rw[HDD.out] at ya5
      have yla2:=row_lt RA2.out
      have hd1:decide ((k:Int) < 0)=false:=by simp
      have hd2:decide ((dn:Int)≤(k:Int))=false:=by simp;omega
      have hbt':bt < X2.heap.size:=hbt
      have HRS:=hid hrs2
      clear bx2 FC hct hr hrs3 hrs1 hrs2 hdv ya4 yla hdn
      go_wp2_with fail
      refine wp_region_x [0,0,0,0,0,0,0,0,1,0,0,0,0,1,0,0,0,0,1,0,0,0] [0,1,2,3,4,5,6,7,8,9,10,11,12,13,14,15,16,17,18,19,20,21] (by kernel_rfl) ?_
      simp only[selX,guardAt,sD,sE,sF,sG,Option.bind_some]
      repeat first|(refine wpL_p fun K hK=>?_;go_simp;refine hK _ _ ?_;clear hK K)|(apply wpL_s;(intro w2 hw2;have hk1:=hw2.cell;have hk3:=hw2.heap;clear hw2;go_simp;with_reducible rfl);simp only[Act.put,sA,sB,sC])|refine wpL_yes rfl rfl ?_|(refine wpL_no rfl rfl fun K hK=>?_;simp only[Act.put,sA,sB,sC];refine hK _ _ ?_;clear hK K)|refine wpL_nil ?_
      have HG3:=hid (HG2.out.below (Below.refl _ X2).drew)
      have TX3:=hid (TX2.out.below (Below.refl _ X2).drew)
      have RA3:=hid (row_drew RA2.out)
      have RB3:=hid (row_drew RB2.out)
      have B3x:=hid B2x.out.drew
      clear c6 ya5 yla2 RA2 RB2 HG2 TX2 hbt' hbt
      generalize X2.drew=X3 at *
      have yb0:=row_cell RB3.out 0
      have yb1:=row_cell RB3.out 1
      have ya5:=row_cell RA3.out 5
      simp at yb0 yb1 ya5
      rw[HDD.out] at ya5
      have yla:=row_lt RA3.out
      have ylb:=row_lt RB3.out
      have WE:=hid (w_explained (lev:=lv) HG3.out.toT EP.out hl3 TX3.out HS.out HKL.out HND.out)
      rw[HEX.out] at WE
      have hsz3:w.heap.size≤X3.heap.size:=B3x.out.size
      go_wp2_with fail
      refine WE.out.mono ?_
      rintro e X4 ⟨rfl,bx4⟩
      have BF:=hid (B3x.out.trans (bx4.mono hsz3))
      clear bx4
      go_wp2_with fail
      refine bodyPost_ret (v:=.bool true) (by simp[results,Tryz.results3,go_sem]) rfl ⟨rfl,BF.out⟩
end
def strData (zs:List (List UInt8)):DataW Unit:=.agg (zs.map fun z=>.lit (.string z))
theorem cells_of_strs {enc:TypeId×Value→Unit} {P:Program} {w:World} {base:Nat} {sp:Nat→Bool} {held:Bool} {fuel:Nat} {t e:TypeId} {n:Nat} {cs:List Value} {zs:List (List UInt8)} {p:List MemPlace}
  (ht:P.underlying t=some (.array n e)) (he:P.underlying e=some .string) (hce:P.cellsOf e=1) (h:DataW.trod enc P w base sp held fuel t cs=some (strData zs,p)) (i:Nat) (z:List UInt8) (hz:zs[i]?=some z):
  ∃s:ByteArray,cs[i]?=some (.string s)∧s.data.toList=z:=by
 cases fuel with
 |zero=>simp[DataW.trod] at h
 |succ fuel=>
  simp only[DataW.trod,ht,hce,Nat.mul_one] at h
  split at h
  ·rename_i hl
   obtain⟨xs,hm,hx⟩:=Option.map_eq_some_iff.1 h
   have hxs:xs.map (·.1)=zs.map fun z=>(DataW.lit (.string z):DataW Unit):=by
    have:=congrArg Prod.fst hx
    simpa[strData] using this
   have hxl:xs.length=n:=by simpa using Lib.mapM_length hm
   have hzl:zs.length=n:=by
    have:=congrArg List.length hxs
    simp at this
    omega
   have hi:i < n:=by have:=(List.getElem?_eq_some_iff.1 hz).1;omega
   obtain⟨b,hb,hf⟩:=Lib.mapM_at hm i i (by simp[hi])
   obtain⟨s,hc,rfl,_⟩:=DataW.trod_string he hf
   refine⟨s,?_,?_⟩
   ·have:=congrArg (·[0]?) hc
    simpa[List.getElem?_take,List.getElem?_drop] using this
   ·have h2:(xs.map (·.1))[i]?=some (DataW.lit (.string s.data.toList):DataW Unit):=by simp[hb]
    rw[hxs] at h2
    simp only[List.getElem?_map,hz,Option.map_some,Option.some.injEq,DataW.lit.injEq,Lit.string.injEq] at h2
    exact h2.symm
  ·cases h
theorem strs_at {P:Program} {W:World} {name:String} {zs:List (List UInt8)} {rest:List (String×DataW Unit)} {g:Nat} {t e:TypeId} {n:Nat}
  (hg:P.globalNamed name=some g) (hty:(P.globals[g]?).map (·.type)=some t) (ht:P.underlying t=some (.array n e)) (he:P.underlying e=some .string) (hce:P.cellsOf e=1)
  (h:laidMet P ((name,strData zs)::rest) W) (i:Nat) (z:List UInt8) (hz:zs[i]?=some z):∃s:ByteArray,W.cell? ⟨g,i,none⟩=some (.string s)∧s.data.toList=z:=by
 obtain⟨ps,⟨g',t',cs,fuel,p,q,hg',ht',hvar,hd,_,_⟩,_⟩:=h
 obtain rfl:=Option.some.inj (hg.symm.trans hg')
 obtain rfl:=Option.some.inj (hty.symm.trans ht')
 obtain⟨s,h1,h2⟩:=cells_of_strs ht he hce hd i z hz
 have:=World.var?_cell hg hvar i
 exact⟨s,by rw[this];simpa using h1,h2⟩
theorem ba_of {s:ByteArray} {l:List UInt8} (h:s.data.toList=l):s=⟨l.toArray⟩:=by
 obtain⟨⟨d⟩⟩:=s
 simp only at h
 subst h
 rfl
theorem live_of {W:World} {b off:Nat} {u:Value} (h:W.cell? ⟨b,off,none⟩=some u):b < W.heap.size:=(cell_live h).1
theorem errRow (u:TypeId) (h:Tryz.prog.typeName? 3 u=some "*errors.errorString"):u=356:=
 typeName_ptr_named (nm:= "errors.errorString") (by rw[show "*" ++ "errors.errorString" = "*errors.errorString" by decide];kernel_rfl) (by kernel_rfl) (by decide) u (by rw[show "*" ++ "errors.errorString" = "*errors.errorString" by decide];exact h)
theorem glob_of_laid {W:World} (h:laidMet Tryz.prog Rows.fastEarnedUptoRow.laid W):GlF W:=by
 obtain⟨aErrCode,sErrCode,hErrCode,-⟩:=laid_sentinel (P:=Tryz.prog) (n:= "umpire/api.ErrCode") (g:=15) (tp:=356) (te:=370) (ts:=9) (h.tail) (by kernel_rfl) (by kernel_rfl) Tryz.underlying34 errRow Tryz.underlying356 Tryz.underlying370 rfl rfl Tryz.underlying9 (by kernel_rfl) (by kernel_rfl)
 have cErrCode:=World.var?_cell (P:=Tryz.prog) (show Tryz.prog.globalNamed "umpire/api.ErrCode" =some 15 by kernel_rfl) hErrCode 0
 obtain⟨aErrEvent,sErrEvent,hErrEvent,-⟩:=laid_sentinel (P:=Tryz.prog) (n:= "umpire/api.ErrEvent") (g:=8) (tp:=356) (te:=370) (ts:=9) (h.tail.tail.tail) (by kernel_rfl) (by kernel_rfl) Tryz.underlying34 errRow Tryz.underlying356 Tryz.underlying370 rfl rfl Tryz.underlying9 (by kernel_rfl) (by kernel_rfl)
 have cErrEvent:=World.var?_cell (P:=Tryz.prog) (show Tryz.prog.globalNamed "umpire/api.ErrEvent" =some 8 by kernel_rfl) hErrEvent 0
 obtain⟨aErrObject,sErrObject,hErrObject,-⟩:=laid_sentinel (P:=Tryz.prog) (n:= "umpire/api.ErrObject") (g:=3) (tp:=356) (te:=370) (ts:=9) (h.tail.tail) (by kernel_rfl) (by kernel_rfl) Tryz.underlying34 errRow Tryz.underlying356 Tryz.underlying370 rfl rfl Tryz.underlying9 (by kernel_rfl) (by kernel_rfl)
 have cErrObject:=World.var?_cell (P:=Tryz.prog) (show Tryz.prog.globalNamed "umpire/api.ErrObject" =some 3 by kernel_rfl) hErrObject 0
 obtain⟨aErrOp,sErrOp,hErrOp,-⟩:=laid_sentinel (P:=Tryz.prog) (n:= "umpire/api.ErrOp") (g:=7) (tp:=356) (te:=370) (ts:=9) (h.tail.tail.tail.tail) (by kernel_rfl) (by kernel_rfl) Tryz.underlying34 errRow Tryz.underlying356 Tryz.underlying370 rfl rfl Tryz.underlying9 (by kernel_rfl) (by kernel_rfl)
 have cErrOp:=World.var?_cell (P:=Tryz.prog) (show Tryz.prog.globalNamed "umpire/api.ErrOp" =some 7 by kernel_rfl) hErrOp 0
 obtain⟨aErrMany,sErrMany,hErrMany,-⟩:=laid_sentinel (P:=Tryz.prog) (n:= "umpire/api.ErrMany") (g:=4) (tp:=356) (te:=370) (ts:=9) (h) (by kernel_rfl) (by kernel_rfl) Tryz.underlying34 errRow Tryz.underlying356 Tryz.underlying370 rfl rfl Tryz.underlying9 (by kernel_rfl) (by kernel_rfl)
 have cErrMany:=World.var?_cell (P:=Tryz.prog) (show Tryz.prog.globalNamed "umpire/api.ErrMany" =some 4 by kernel_rfl) hErrMany 0
 obtain⟨aErrTwice,sErrTwice,hErrTwice,-⟩:=laid_sentinel (P:=Tryz.prog) (n:= "umpire/api.ErrTwice") (g:=12) (tp:=356) (te:=370) (ts:=9) (h.tail.tail.tail.tail.tail.tail.tail) (by kernel_rfl) (by kernel_rfl) Tryz.underlying34 errRow Tryz.underlying356 Tryz.underlying370 rfl rfl Tryz.underlying9 (by kernel_rfl) (by kernel_rfl)
 have cErrTwice:=World.var?_cell (P:=Tryz.prog) (show Tryz.prog.globalNamed "umpire/api.ErrTwice" =some 12 by kernel_rfl) hErrTwice 0
 obtain⟨aErrThread,sErrThread,hErrThread,-⟩:=laid_sentinel (P:=Tryz.prog) (n:= "umpire/api.ErrThread") (g:=13) (tp:=356) (te:=370) (ts:=9) (h.tail.tail.tail.tail.tail.tail.tail.tail) (by kernel_rfl) (by kernel_rfl) Tryz.underlying34 errRow Tryz.underlying356 Tryz.underlying370 rfl rfl Tryz.underlying9 (by kernel_rfl) (by kernel_rfl)
 have cErrThread:=World.var?_cell (P:=Tryz.prog) (show Tryz.prog.globalNamed "umpire/api.ErrThread" =some 13 by kernel_rfl) hErrThread 0
 obtain⟨aErrTx,sErrTx,hErrTx,-⟩:=laid_sentinel (P:=Tryz.prog) (n:= "umpire/api.ErrTx") (g:=11) (tp:=356) (te:=370) (ts:=9) (h.tail.tail.tail.tail.tail.tail) (by kernel_rfl) (by kernel_rfl) Tryz.underlying34 errRow Tryz.underlying356 Tryz.underlying370 rfl rfl Tryz.underlying9 (by kernel_rfl) (by kernel_rfl)
 have cErrTx:=World.var?_cell (P:=Tryz.prog) (show Tryz.prog.globalNamed "umpire/api.ErrTx" =some 11 by kernel_rfl) hErrTx 0
 obtain⟨aErrOrder,sErrOrder,hErrOrder,-⟩:=laid_sentinel (P:=Tryz.prog) (n:= "umpire/api.ErrOrder") (g:=14) (tp:=356) (te:=370) (ts:=9) (h.tail.tail.tail.tail.tail.tail.tail.tail.tail) (by kernel_rfl) (by kernel_rfl) Tryz.underlying34 errRow Tryz.underlying356 Tryz.underlying370 rfl rfl Tryz.underlying9 (by kernel_rfl) (by kernel_rfl)
 have cErrOrder:=World.var?_cell (P:=Tryz.prog) (show Tryz.prog.globalNamed "umpire/api.ErrOrder" =some 14 by kernel_rfl) hErrOrder 0
 obtain⟨aErrAnswer,sErrAnswer,hErrAnswer,-⟩:=laid_sentinel (P:=Tryz.prog) (n:= "umpire/api.ErrAnswer") (g:=16) (tp:=356) (te:=370) (ts:=9) (h.tail.tail.tail.tail.tail) (by kernel_rfl) (by kernel_rfl) Tryz.underlying34 errRow Tryz.underlying356 Tryz.underlying370 rfl rfl Tryz.underlying9 (by kernel_rfl) (by kernel_rfl)
 have cErrAnswer:=World.var?_cell (P:=Tryz.prog) (show Tryz.prog.globalNamed "umpire/api.ErrAnswer" =some 16 by kernel_rfl) hErrAnswer 0
 obtain⟨aErrPremise,sErrPremise,hErrPremise,-⟩:=laid_sentinel (P:=Tryz.prog) (n:= "umpire/api.ErrPremise") (g:=6) (tp:=356) (te:=370) (ts:=9) (h.tail.tail.tail.tail.tail.tail.tail.tail.tail.tail.tail) (by kernel_rfl) (by kernel_rfl) Tryz.underlying34 errRow Tryz.underlying356 Tryz.underlying370 rfl rfl Tryz.underlying9 (by kernel_rfl) (by kernel_rfl)
 have cErrPremise:=World.var?_cell (P:=Tryz.prog) (show Tryz.prog.globalNamed "umpire/api.ErrPremise" =some 6 by kernel_rfl) hErrPremise 0
 obtain⟨sO0,cO0,eO0⟩:=strs_at (P:=Tryz.prog) (zs:=[[114,101,103,105,115,116,101,114],[99,111,117,110,116,101,114],[113,117,101,117,101],[109,97,112]]) (show Tryz.prog.globalNamed "umpire/event.objects" =some 18 by kernel_rfl) (show(Tryz.prog.globals[18]?).map (·.type)=some 325 by kernel_rfl) Tryz.underlying325 Tryz.underlying9 (by kernel_rfl) (h.tail.tail.tail.tail.tail.tail.tail.tail.tail.tail.tail.tail) 0 [114,101,103,105,115,116,101,114] rfl
 rw[ba_of eO0] at cO0
 obtain⟨sO1,cO1,eO1⟩:=strs_at (P:=Tryz.prog) (zs:=[[114,101,103,105,115,116,101,114],[99,111,117,110,116,101,114],[113,117,101,117,101],[109,97,112]]) (show Tryz.prog.globalNamed "umpire/event.objects" =some 18 by kernel_rfl) (show(Tryz.prog.globals[18]?).map (·.type)=some 325 by kernel_rfl) Tryz.underlying325 Tryz.underlying9 (by kernel_rfl) (h.tail.tail.tail.tail.tail.tail.tail.tail.tail.tail.tail.tail) 1 [99,111,117,110,116,101,114] rfl
 rw[ba_of eO1] at cO1
 obtain⟨sO2,cO2,eO2⟩:=strs_at (P:=Tryz.prog) (zs:=[[114,101,103,105,115,116,101,114],[99,111,117,110,116,101,114],[113,117,101,117,101],[109,97,112]]) (show Tryz.prog.globalNamed "umpire/event.objects" =some 18 by kernel_rfl) (show(Tryz.prog.globals[18]?).map (·.type)=some 325 by kernel_rfl) Tryz.underlying325 Tryz.underlying9 (by kernel_rfl) (h.tail.tail.tail.tail.tail.tail.tail.tail.tail.tail.tail.tail) 2 [113,117,101,117,101] rfl
 rw[ba_of eO2] at cO2
 obtain⟨sO3,cO3,eO3⟩:=strs_at (P:=Tryz.prog) (zs:=[[114,101,103,105,115,116,101,114],[99,111,117,110,116,101,114],[113,117,101,117,101],[109,97,112]]) (show Tryz.prog.globalNamed "umpire/event.objects" =some 18 by kernel_rfl) (show(Tryz.prog.globals[18]?).map (·.type)=some 325 by kernel_rfl) Tryz.underlying325 Tryz.underlying9 (by kernel_rfl) (h.tail.tail.tail.tail.tail.tail.tail.tail.tail.tail.tail.tail) 3 [109,97,112] rfl
 rw[ba_of eO3] at cO3
 obtain⟨sK0,cK0,eK0⟩:=strs_at (P:=Tryz.prog) (zs:=[[111,107],[110,111,110,101],[118,97,108]]) (show Tryz.prog.globalNamed "umpire/event.answers" =some 21 by kernel_rfl) (show(Tryz.prog.globals[21]?).map (·.type)=some 328 by kernel_rfl) Tryz.underlying328 Tryz.underlying9 (by kernel_rfl) (h.tail.tail.tail.tail.tail.tail.tail.tail.tail.tail.tail.tail.tail.tail.tail) 0 [111,107] rfl
 rw[ba_of eK0] at cK0
 obtain⟨sK1,cK1,eK1⟩:=strs_at (P:=Tryz.prog) (zs:=[[111,107],[110,111,110,101],[118,97,108]]) (show Tryz.prog.globalNamed "umpire/event.answers" =some 21 by kernel_rfl) (show(Tryz.prog.globals[21]?).map (·.type)=some 328 by kernel_rfl) Tryz.underlying328 Tryz.underlying9 (by kernel_rfl) (h.tail.tail.tail.tail.tail.tail.tail.tail.tail.tail.tail.tail.tail.tail.tail) 1 [110,111,110,101] rfl
 rw[ba_of eK1] at cK1
 obtain⟨sK2,cK2,eK2⟩:=strs_at (P:=Tryz.prog) (zs:=[[111,107],[110,111,110,101],[118,97,108]]) (show Tryz.prog.globalNamed "umpire/event.answers" =some 21 by kernel_rfl) (show(Tryz.prog.globals[21]?).map (·.type)=some 328 by kernel_rfl) Tryz.underlying328 Tryz.underlying9 (by kernel_rfl) (h.tail.tail.tail.tail.tail.tail.tail.tail.tail.tail.tail.tail.tail.tail.tail) 2 [118,97,108] rfl
 rw[ba_of eK2] at cK2
 have hbig:21 < W.heap.size:=live_of cK0
 exact⟨⟨hbig,cK0,cK1,cK2,cO0,cO1,cO2,cO3⟩,⟨⟨⟨by omega,356,.pointer (some aErrCode),by simpa using cErrCode⟩,⟨by omega,356,.pointer (some aErrEvent),by simpa using cErrEvent⟩,⟨by omega,356,.pointer (some aErrObject),by simpa using cErrObject⟩,⟨by omega,356,.pointer (some aErrOp),by simpa using cErrOp⟩,⟨by omega,356,.pointer (some aErrMany),by simpa using cErrMany⟩⟩,⟨by omega,356,.pointer (some aErrTwice),by simpa using cErrTwice⟩,⟨by omega,356,.pointer (some aErrThread),by simpa using cErrThread⟩,⟨by omega,356,.pointer (some aErrTx),by simpa using cErrTx⟩,⟨by omega,356,.pointer (some aErrOrder),by simpa using cErrOrder⟩,⟨by omega,356,.pointer (some aErrAnswer),by simpa using cErrAnswer⟩⟩,⟨by omega,356,.pointer (some aErrPremise),by simpa using cErrPremise⟩⟩
