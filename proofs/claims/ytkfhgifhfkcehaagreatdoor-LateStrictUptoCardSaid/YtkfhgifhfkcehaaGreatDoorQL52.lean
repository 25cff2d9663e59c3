/- Parts of the proof, merged by program out of 2 texts (LaN, LaS): the first: The chapter's examples of late. Conditions: those of each theorem, as typed. -/
import Derived.Test.YtkfhgifhfkcehaaGreatDoorQL43
import Derived.Test.YtkfhgifhfkcehaaGreatDoorQL41
import Derived.Test.YtkfhgifhfkcehaaGreatDoorQL51
import Derived.LaidEql
set_option linter.unusedVariables false
set_option linter.unusedSimpArgs false
set_option linter.unusedSectionVars false
set_option maxRecDepth 100000
set_option maxHeartbeats 4000000
namespace Go.Proofs.YtkfhgifhfkcehaaGreatDoor
open Go.Maps Go.RowKit
section
attribute [local irreducible] wpL
theorem ex21_valid:ValidIs exP21:=by
 refine⟨by decide,fun k c hc=>?_,fun i t ht=>?_,fun i t ht k l hl=>?_,fun i t ht k l hl j a ha=>?_⟩
 ·rcases k with _|_|k <;> simp[exP21] at hc <;> omega
 ·rcases i with _|_|i <;> simp[exP21] at ht <;> subst ht <;> decide
 ·rcases i with _|_|i <;> simp[exP21] at ht <;> subst ht <;> (rcases k with _|k <;> simp at hl;subst hl;decide)
 ·rcases i with _|_|i <;> simp[exP21] at ht <;> subst ht <;> (rcases k with _|k <;> simp at hl;subst hl;rcases j with _|_|j <;> simp at ha <;> subst ha <;> decide)
theorem ex21_1:(stepsTo exP21 (startLM exP21) [1,1,1,0,0,0,0,0,0,0,0,1,1]).W.evs.length=12:=by decide
theorem ex21_2:(stepsTo exP21 (startLM exP21) [1,1,1,0,0,0,0,0,0,0,0,1,1]).W.evs[11]?.map (·.val)=some 1:=by decide
theorem ex21_3:(stepsTo exP21 (startLM exP21) [1,1,1,0,0,0,0,0,0,0,0,1,1,1,1]).W.evs.length=14:=by decide
theorem ex21_4:(stepsTo exP21 (startLM exP21) [1,1,1,0,0,0,0,0,0,0,0,1,1,1,1]).W.evs[13]?.map (·.kind)=some 6:=by decide
def ExRun (w:World) (E:List Ev) (e:Ending) (w':World):Prop:=∃ov vv,e=.returned (.tuple #[.agg #[ov,vv],.nilIface])∧(∃a n c,ov=.slice a n c)∧OwnF Ev.cells 53 8 w' w.heap.size vv E∧Below w.heap.size w w'
theorem ex21_run (w:World) (hG:Glob w) (vc vt:Value) (h:PgIs w w.heap.size vc vt exP21) (sv:Value) (l:List Int) (hs:Sl w w.heap.size 1 sv l.length (l.map (.int .i64))) (hl:l.length≤300) (E:List Ev) (hE:(stepsTo exP21 (startLM exP21) l).W.evs=E):
  Calls Tryz.prog 21 #[.agg #[vc,vt],sv] w (ExRun w E):=by
 obtain⟨h1,⟨t,v,h2⟩,h3⟩:=hG
 refine(la_Run vc vt exP21 w h (.iface t v) h2 ⟨_,_,rfl⟩ (by omega) (by decide) sv l hs hl (going _)).mono ?_
 rintro e w' ⟨hv,hb⟩
 rcases hv with⟨hno,-⟩|⟨-,M',ov,vv,rfl,hro,ho,hv⟩
 ·exact absurd ex21_valid hno
 ·have:M'=stepsTo exP21 (startLM exP21) l:=by simpa[RunOf] using hro
  subst this
  rw[hE] at hv
  obtain⟨a,c,e1⟩:=OwnF.slv ho
  exact⟨ov,vv,rfl,⟨_,_,_,e1⟩,hv,hb⟩
theorem l_first21 (w:World) (hG:Glob w):Calls Tryz.prog 19 #[] w fun e w'=>e=.returned (.bool true)∧Below w.heap.size w w':=by
 have HG:=hid hG
 have e1:=ex21_1
 have e2:=ex21_2
 have e3:=ex21_3
 have e4:=ex21_4
 obtain⟨E1,hE1⟩:∃E,(stepsTo exP21 (startLM exP21) [1,1,1,0,0,0,0,0,0,0,0,1,1]).W.evs=E:=⟨_,rfl⟩
 obtain⟨E2,hE2⟩:∃E,(stepsTo exP21 (startLM exP21) [1,1,1,0,0,0,0,0,0,0,0,1,1,1,1]).W.evs=E:=⟨_,rfl⟩
 rw[hE1] at e1 e2
 rw[hE2] at e3 e4
 have X1:=hid (And.intro hE1 (And.intro e1 e2))
 have X2:=hid (And.intro hE2 (And.intro e3 e4))
 clear hG e1 e2 e3 e4 hE1 hE2
 go_enter Tryz.func19,Tryz.ntmps19
 go_wp2_with fail
 refine(l_ex21 _).mono ?_
 rintro e W1 ⟨vc,vt,rfl,hp,b1⟩
 obtain⟨ac,cc,rfl,-⟩:=hp.cells.ex
 obtain⟨at',ct,rfl,-⟩:=hp.thr.ex
 have ba:Below W1.heap.size W1 (W1.alloc (.cells #[.int .i64 1,.int .i64 1,.int .i64 1,.int .i64 0,.int .i64 0,.int .i64 0,.int .i64 0,.int .i64 0,.int .i64 0,.int .i64 0,.int .i64 0,.int .i64 1,.int .i64 1] 3)):=(Below.refl _ W1).alloc (Nat.le_refl _) _
 have rs:=row_new W1 (.cells #[.int .i64 1,.int .i64 1,.int .i64 1,.int .i64 0,.int .i64 0,.int .i64 0,.int .i64 0,.int .i64 0,.int .i64 0,.int .i64 0,.int .i64 0,.int .i64 1,.int .i64 1] 3)
 have hr:=hid (ex21_run _ ((HG.out.below b1).below ba) _ _ ((hp.below ba).more ba.size) (.slice (some ⟨W1.heap.size,0,none⟩) 13 13) [1,1,1,0,0,0,0,0,0,0,0,1,1] (sl_row rs (by decide) rfl) (by decide) E1 X1.out.1)
 have B1:=hid (b1.trans (ba.mono b1.size))
 clear hp b1 ba rs
 go_wp2_with fail
 refine(hr.out).mono ?_
 rintro e W2 ⟨ov,vv,rfl,⟨oa,on,oc,rfl⟩,hv,b2⟩
 obtain⟨ae,ce,rfl⟩:=OwnF.slv hv
 obtain⟨-,e1,e2⟩:=X1.out
 have HV:=hid hv
 have B2:=hid (B1.out.trans (b2.mono B1.out.size))
 have HG2:=hid (HG.out.below (B1.out.trans (b2.mono B1.out.size)))
 have r2:=row_new W2 (.cells #[.slice oa on oc,.slice ae E1.length ce] 37)
 have b3:Below W2.heap.size W2 (W2.alloc (.cells #[.slice oa on oc,.slice ae E1.length ce] 37)):=(Below.refl _ W2).alloc (Nat.le_refl _) _
 have X1':=hid (And.intro e1 e2)
 have R2:=hid r2
 have B3:=hid b3
 clear hv b2 hr e1 e2 r2 b3
 go_wp2_with fail
 generalize W2.alloc (.cells #[.slice oa on oc,.slice ae E1.length ce] 37)=W3 at *
 refine(l_ex21 _).mono ?_
 rintro e W4 ⟨vc2,vt2,rfl,hp,b4⟩
 obtain⟨ac2,cc2,rfl,-⟩:=hp.cells.ex
 obtain⟨at2,ct2,rfl,-⟩:=hp.thr.ex
 have ba:Below W4.heap.size W4 (W4.alloc (.cells #[.int .i64 1,.int .i64 1,.int .i64 1,.int .i64 0,.int .i64 0,.int .i64 0,.int .i64 0,.int .i64 0,.int .i64 0,.int .i64 0,.int .i64 0,.int .i64 1,.int .i64 1,.int .i64 1,.int .i64 1] 3)):=(Below.refl _ W4).alloc (Nat.le_refl _) _
 have rs:=row_new W4 (.cells #[.int .i64 1,.int .i64 1,.int .i64 1,.int .i64 0,.int .i64 0,.int .i64 0,.int .i64 0,.int .i64 0,.int .i64 0,.int .i64 0,.int .i64 0,.int .i64 1,.int .i64 1,.int .i64 1,.int .i64 1] 3)
 have hr:=hid (ex21_run _ (((HG2.out.below B3.out).below b4).below ba) _ _ ((hp.below ba).more ba.size) (.slice (some ⟨W4.heap.size,0,none⟩) 15 15) [1,1,1,0,0,0,0,0,0,0,0,1,1,1,1] (sl_row rs (by decide) rfl) (by decide) E2 X2.out.1)
 have B4:=hid (B3.out.trans ((b4.trans (ba.mono b4.size)).mono B3.out.size))
 have B34:=hid (b4.trans (ba.mono b4.size))
 clear hp b4 ba rs
 go_wp2_with fail
 refine(hr.out).mono ?_
 rintro e W5 ⟨ov2,vv2,rfl,⟨oa2,on2,oc2,rfl⟩,hv,b5⟩
 obtain⟨ae2,ce2,rfl⟩:=OwnF.slv hv
 obtain⟨-,e3,e4⟩:=X2.out
 obtain⟨e1,e2⟩:=X1'.out
 have b25:=B4.out.trans (b5.mono B4.out.size)
 have b35:Below W3.heap.size W3 W5:=by
  refine Below.trans ?_ (b5.mono ?_)
  ·exact B34.out
  ·exact B34.out.size
 have r5:=row_below R2.out b35 (row_lt R2.out)
 have hv1:=OwnF.below HV.out b25
 obtain⟨g1,k1,hg1,-⟩:∃g k,ae=some ⟨g,0,none⟩∧ce=k:=by
  rcases OwnF.form hv1 with⟨h,h2⟩|⟨g,k,h,-⟩
  ·rw [h2] at e1;cases e1
  ·simp only[Value.slice.injEq] at h;exact⟨g,k,h.1,h.2.2⟩
 obtain⟨g2,k2,hg2,-⟩:∃g k,ae2=some ⟨g,0,none⟩∧ce2=k:=by
  rcases OwnF.form hv with⟨h,h2⟩|⟨g,k,h,-⟩
  ·rw [h2] at e3;cases e3
  ·simp only[Value.slice.injEq] at h;exact⟨g,k,h.1,h.2.2⟩
 subst hg1 hg2
 obtain⟨b',o',x,h1,-,hx,hc⟩:=(OwnF.sl hv1).atF Ev.len rfl (k:=11) (by omega)
 simp only[Option.some.injEq,Addr.mk.injEq] at h1
 obtain⟨rfl,rfl,-⟩:=h1
 rw[hx] at e2
 have c1:W5.cell? ⟨g1,94,none⟩=some (.int .i64 1):=by
  have:=hc 6 (by decide)
  simp only[Option.map_some,Option.some.injEq] at e2
  simpa[Ev.cells,e2] using this
 obtain⟨b',o',x',h1,-,hx',hc'⟩:=(OwnF.sl hv).atF Ev.len rfl (k:=13) (by omega)
 simp only[Option.some.injEq,Addr.mk.injEq] at h1
 obtain⟨rfl,rfl,-⟩:=h1
 rw[hx'] at e4
 have c2:W5.cell? ⟨g2,104,none⟩=some (.int .i64 6):=by
  have:=hc' 0 (by decide)
  simp only[Option.map_some,Option.some.injEq] at e4
  simpa[Ev.cells,e4] using this
 have l1:=(OwnF.lt hv1 g1 rfl).2
 have l2:=(OwnF.lt hv g2 rfl).2
 have l5:=row_lt r5
 rw[e1] at r5
 have y0:=row_cell r5 0
 have y1:=row_cell r5 1
 simp at y0 y1
 rw[e3]
 have HB:=hid ((B2.out).trans (b25.mono B2.out.size))
 clear hx hc hx' hc' e2 e4 hv hv1 b25 b35 r5 hr b5 B34
 rw[e1]
 go_wp2
 go_ret
 exact⟨rfl,HB.out.alloc HB.out.size _⟩
end
section
attribute [local irreducible] wpL
theorem strict_run {P:Pg} {l:List Int} {full:Bool} {M:LM} (hv:ValidIs P) (hr:RunOf P (startLM P) l full M):∃A,Fed M.W.evs A∧M.W.evs.length≤400∧(∀e ∈ M.W.evs,EvOk (obsOf P).length e)∧RegOk (obsOf P)∧obsOf P≠[]∧A.length≤12∧(∀s ∈ A,∀d ∈ s.deeds,DdR (obsOf P).length d)∧(gmOf 2 A).Ends (0,(obsOf P).map (·.init)):=by
 obtain⟨A,ord,h⟩:=late_run2 hv.ok hr
 have hc:=hv.ok.cells
 have hev:∀e ∈ M.W.evs,EvOk (obsOf P).length e:=fun e he=>by
  have:=h.all.ji.evs e he
  simpa[obsOf] using this
 refine⟨A,h.all.ji.fed,h.all.evs,hev,⟨by simp[obsOf];omega,fun o ho=>?_⟩,fun e=>?_,?_,fun s hs d hd=>?_,?_⟩
 ·obtain ⟨c,hc,rfl⟩:=List.mem_map.1 ho
  have:=hv.ok.cell c hc
  exact⟨rfl,by show -1000000000≤c;omega,by show c≤1000000000;omega⟩
 ·have:(obsOf P).length=0:=by rw[e];rfl
  simp[obsOf] at this
  rw[this] at hc;simp at hc
 ·have hn:=h.all.ji.ids
  have h4:M.W.ths.length≤4:=by have:=h.all.li.thl;have:=hv.nums;omega
  have hsub:A.map (·.id) ⊆ (List.range 12).map (fun n:Nat=>(n:Int)+1):=by
   intro x hx
   obtain⟨s,hs,rfl⟩:=List.mem_map.1 hx
   obtain⟨i,t,k,ht,hid,-,hk⟩:=h.all.ji.all s hs
   have hi:=(List.getElem?_eq_some_iff.1 ht).1
   have hb:=h.all.ji.bt i t ht
   have hk3:k < 3:=by
    rcases hk with⟨h1,-⟩|⟨h1,h2,-⟩
    ·omega
    ·have:=hb.2 h2;omega
   refine List.mem_map.2 ⟨3*i+k,List.mem_range.2 (by omega),?_⟩
   rw[hid];unfold idOf;omega
  have:=List.Nodup.length_le_of_subset hn hsub
  simpa using this
 ·have:=(fed_txs h.all.ji.fed hev s hs).deeds d hd
  exact⟨this.obj,this.op,this.key⟩
 ·have:=h.ends
  simpa[obsOf,Function.comp_def] using this
theorem sh_Check (ov vv:Value) (os:List Ob) (es:List Ev) (A:Au) (w:World) (ho:Sl w w.heap.size 2 ov os.length (os.flatMap Ob.cells)) (he:Sl w w.heap.size 8 vv es.length (es.flatMap Ev.cells)) (hne:os≠[]) (hr:RegOk os) (hel:es.length≤400) (hes:∀e ∈ es,EvOk os.length e) (hW:WordsAt w) (hF:Fed es A):
  Calls Tryz.prog 25 #[.agg #[ov,vv]] w fun e w'=>e=.returned .nilIface∧Below w.heap.size w w':=by
 obtain⟨ao,co,rfl,mo⟩:=ho.ex
 obtain⟨ae,ce,rfl,me⟩:=he.ex
 have b0:Below w.heap.size w (w.alloc (.cells #[.slice ao os.length co,.slice ae es.length ce] 37)):=(Below.refl _ w).alloc (Nat.le_refl _) _
 have r0:=row_new w (.cells #[.slice ao os.length co,.slice ae es.length ce] 37)
 have TC:=hid (sh_taken (.slice ao os.length co) (.slice ae es.length ce) os es A _ ((ho.below b0).more b0.size) ((he.below b0).more b0.size) hne hr hel hes (hW.below b0) hF)
 clear ho he hne hel hes hW hF hr
 go_enter Tryz.func25,Tryz.ntmps25
 go_wp2_with fail
 generalize w.alloc (.cells #[.slice ao os.length co,.slice ae es.length ce] 37)=W at *
 refine TC.out.mono ?_
 rintro e W1 ⟨bA,rfl,-,b1⟩
 go_wp2_with fail
 go_ret
 exact⟨rfl,b0.trans (b1.mono b0.size)⟩
theorem eqE (b:Addr) (X:World):Sem.run Tryz.prog (binOp BinOp.eql 30 (.iface 375 (.pointer (some b))) (.iface 375 (.pointer (some b)))) X=.ok (.bool true) X:=by
 have h1:(Tryz.prog.info? 375).map (·.comparable)=some true:=by kernel_rfl
 have h2:(Tryz.prog.info? 389).isSome=true:=by kernel_rfl
 obtain⟨i,hi,hc⟩:=Option.map_eq_some_iff.1 h1
 obtain⟨j,hj⟩:=Option.isSome_iff_exists.1 h2
 exact run_eql_iface_ptr_same X b Tryz.underlying30 Tryz.underlying375 hi hc hj
theorem eqN (b:Addr) (X:World):Sem.run Tryz.prog (binOp BinOp.eql 30 .nilIface (.iface 375 (.pointer (some b)))) X=.ok (.bool false) X:=
 run_eql_iface_nil_left X _ _ Tryz.underlying30
theorem law_lateStrict (vc vt:Value) (P:Pg) (sv:Value) (l:List Int) (bf:Bool) (w:World) (hG:Glob w) (h:PgIs w w.heap.size vc vt P) (hs:Sl w w.heap.size 1 sv l.length (l.map (.int .i64))):
  Calls Tryz.prog 4 #[.agg #[vc,vt],sv,.bool bf] w fun e w'=>e=.returned (.bool true)∧Below w.heap.size w w':=by
 obtain⟨ac,cc,rfl,mc⟩:=h.cells.ex
 obtain⟨at',ct,rfl,mt⟩:=h.thr.ex
 obtain⟨sa,sc,rfl,ms⟩:=hs.ex
 have b0:Below w.heap.size w (w.alloc (.cells #[.slice ac P.cells.length cc,.slice at' P.threads.length ct] 25)):=(Below.refl _ w).alloc (Nat.le_refl _) _
 have r0:=row_new w (.cells #[.slice ac P.cells.length cc,.slice at' P.threads.length ct] 25)
 have hf:=hid (l_first21 _ (hG.below b0))
 have H:=hid h
 have HS:=hid hs
 have HG:=hid hG
 have B0:=hid b0
 have R0:=hid r0
 have l0:=row_lt r0
 clear h hs hG b0 r0
 go_enter Tryz.func4,Tryz.ntmps4
 go_wp2_with fail
 generalize w.alloc (.cells #[.slice ac P.cells.length cc,.slice at' P.threads.length ct] 25)=W at *
 refine(hf.out).mono ?_
 rintro e W1 ⟨rfl,b1⟩
 have r1:=row_below R0.out b1 l0
 have l1:=row_lt r1
 have y0:=row_cell r1 0
 have y1:=row_cell r1 1
 simp at y0 y1
 have B1:=hid (B0.out.trans (b1.mono B0.out.size))
 have hz1:=B1.out.size
 have hsm:=hid (l_small21 _ _ P W1 ((H.out.below B1.out).more hz1))
 have R1:=hid r1
 clear r1 b1 hf
 go_wp2_with fail
 refine(hsm.out).mono ?_
 rintro e W2 ⟨b,rfl,hb20,b2⟩
 have r2:=row_below R1.out b2 l1
 have l2:=row_lt r2
 clear y0 y1
 have y0:=row_cell r2 0
 have y1:=row_cell r2 1
 simp at y0 y1
 have B2:=hid (B1.out.trans (b2.mono hz1))
 have hz2:=B2.out.size
 have R2:=hid r2
 clear r2 b2 hsm
 cases b with
 |false=>
  go_wp2
  go_ret
  exact⟨rfl,B2.out⟩
 |true=>
 have h20:=hb20 rfl
 clear hb20
 by_cases hl:l.length≤300
 case neg=>
  have q:decide (300 < l.length)=true:=by simp;omega
  have q2:decide ((300:Int) < (l.length:Int))=true:=by simp;omega
  go_wp2
  go_ret
  exact⟨rfl,B2.out⟩
 case pos=>
 have q:decide (300 < l.length)=false:=by simp;omega
 have q2:decide ((300:Int) < (l.length:Int))=false:=by simp;omega
 have hG2:=HG.out.below B2.out
 obtain⟨g1,⟨tt,tv,g2⟩,g3⟩:=hG2
 have hR:=hid (la_Run _ _ P W2 ((H.out.below B2.out).more hz2) (.iface tt tv) g2 ⟨_,_,rfl⟩ (by omega) (by omega) _ l ((HS.out.below B2.out).more hz2) hl (going P))
 have G2:=hid g2
 clear g2 g3
 go_wp2_with fail
 refine(hR.out).mono ?_
 rintro e W3 ⟨hv,b3⟩
 have B3:=hid (B2.out.trans (b3.mono hz2))
 have G3:=hid (HG.out.below B3.out)
 have hz3:=B3.out.size
 have R3:=hid (row_below R2.out b3 (row_lt R2.out))
 have hb23:W2.heap.size≤W3.heap.size:=b3.size
 rcases hv with⟨hnv,rfl⟩|⟨hval,M,ov,vv,rfl,hro,ho,hv⟩
 ·have b4:Below W3.heap.size W3 (W3.alloc (.cells #[.slice none 0 0,.slice none 0 0] 37)):=(Below.refl _ W3).alloc (Nat.le_refl _) _
  have RH4:=hid (row_new W3 (.cells #[.slice none 0 0,.slice none 0 0] 37))
  have B4:=hid (B3.out.trans (b4.mono hz3))
  have b24:=hid (b3.trans (b4.mono b3.size))
  have R4:=hid (row_below R3.out b4 (row_lt R3.out))
  clear y0 y1
  have y0:=row_cell R4.out 0
  have y1:=row_cell R4.out 1
  have yl:=row_lt R4.out
  clear b3 b4 hR
  cases bf with
  |false=>
   go_wp2_with fail
   generalize W3.alloc (.cells #[.slice none 0 0,.slice none 0 0] 37)=W4 at *
   simp at y0 y1
   have VC:=hid (p_Valid _ _ P W4 ((H.out.below B4.out).more B4.out.size) (.iface tt tv) (cell_below b24.out (by omega) G2.out) (by have:=b24.out.size;omega))
   go_wp2_with fail
   refine VC.out.mono ?_
   rintro e W9 ⟨hvv,b9⟩
   obtain rfl:e=.returned (.iface tt tv):=by
    rcases hvv with⟨h1,-⟩|⟨-,h2⟩
    ·exact absurd h1 hnv
    ·exact h2
   go_wp2_with fail
   go_ret
   exact⟨rfl,B4.out.trans (b9.mono B4.out.size)⟩
  |true=>
   go_wp2_with fail
   generalize W3.alloc (.cells #[.slice none 0 0,.slice none 0 0] 37)=W4 at *
   simp at y0 y1
   have hFF:=hid (la_Full _ _ P W4 ((H.out.below B4.out).more B4.out.size) (.iface tt tv) (cell_below b24.out (by omega) G2.out) ⟨_,_,rfl⟩ (by have:=b24.out.size;omega) (by omega) _ l ((HS.out.below B4.out).more B4.out.size) hl (going P))
   go_wp2_with fail
   refine(hFF.out).mono ?_
   rintro e W5 ⟨hv5,b5⟩
   have b25:=hid (b24.out.trans (b5.mono b24.out.size))
   have B5:=hid (B4.out.trans (b5.mono B4.out.size))
   have rh5:=row_below RH4.out b5 (row_lt RH4.out)
   have R5:=hid (row_below R4.out b5 (row_lt R4.out))
   have x0:=row_cell rh5 0
   have x1:=row_cell rh5 1
   simp at x0 x1
   have xl:=row_lt rh5
   have xf:=fun j=>row_free rh5 j
   have hbh:w.heap.size≤W3.heap.size:=hz3
   rcases hv5 with⟨-,rfl⟩|⟨hval,-⟩
   case inr=>exact absurd hval hnv
   case inl=>
    have rhF:=hid (row_set (row_set rh5 0 (.slice none 0 0)) 1 (.slice none 0 0))
    have nep:W3.heap.size≠w.heap.size:=by have:=row_lt R3.out;omega
    have RF:=hid (row_other (j:=1) (v:=.slice none 0 0) (row_other (j:=0) (v:=.slice none 0 0) R5.out nep) nep)
    have y0:=row_cell RF.out 0
    have y1:=row_cell RF.out 1
    simp at y0 y1
    have yl:=row_lt RF.out
    have BF:=hid ((B5.out.setCell (p:=⟨W3.heap.size,0,none⟩) hbh (.slice none 0 0)).setCell (p:=⟨W3.heap.size,1,none⟩) hbh (.slice none 0 0))
    have hb3:W2.heap.size≤W3.heap.size:=hb23
    have b2F:=hid ((b25.out.setCell (p:=⟨W3.heap.size,0,none⟩) hb3 (.slice none 0 0)).setCell (p:=⟨W3.heap.size,1,none⟩) hb3 (.slice none 0 0))
    clear rh5 b5 hFF
    go_wp2_with fail
    generalize (W5.setCell ⟨W3.heap.size,0,none⟩ (.slice none 0 0)).setCell ⟨W3.heap.size,1,none⟩ (.slice none 0 0)=W6 at *
    have VC:=hid (p_Valid _ _ P W6 ((H.out.below BF.out).more BF.out.size) (.iface tt tv) (cell_below b2F.out (by omega) G2.out) (by have:=b2F.out.size;omega))
    go_wp2_with fail
    refine VC.out.mono ?_
    rintro e W9 ⟨hvv,b9⟩
    obtain rfl:e=.returned (.iface tt tv):=by
     rcases hvv with⟨h1,-⟩|⟨-,h2⟩
     ·exact absurd h1 hnv
     ·exact h2
    go_wp2_with fail
    go_ret
    exact⟨rfl,BF.out.trans (b9.mono BF.out.size)⟩
 ·obtain ⟨oa,oc,rfl⟩:=OwnF.slv ho
  obtain⟨ea,ec,rfl⟩:=OwnF.slv hv
  have b4:Below W3.heap.size W3 (W3.alloc (.cells #[.slice oa (obsOf P).length oc,.slice ea M.W.evs.length ec] 37)):=(Below.refl _ W3).alloc (Nat.le_refl _) _
  have RH4:=hid (row_new W3 (.cells #[.slice oa (obsOf P).length oc,.slice ea M.W.evs.length ec] 37))
  have B4:=hid (B3.out.trans (b4.mono hz3))
  have b24:=hid (b3.trans (b4.mono b3.size))
  have R4:=hid (row_below R3.out b4 (row_lt R3.out))
  have HOX:=hid (OwnF.below ho b4)
  have HEX:=hid (OwnF.below hv b4)
  clear y0 y1
  have y0:=row_cell R4.out 0
  have y1:=row_cell R4.out 1
  have yl:=row_lt R4.out
  clear b3 b4 hR ho hv
  cases bf with
  |false=>
   have RHX:=hid RH4.out
   clear RH4
   obtain⟨A,hfd,hel,hes,hreg,hne,hA12,hdd,hE⟩:=strict_run hval hro
   have GX:=HG.out.below B4.out
   obtain⟨bb,hbb⟩:=GX.bud
   have SC:=hid (s_Run 2 (.inr (.inl rfl)) 3000 ⟨by omega,by omega⟩ _ _ (obsOf P) M.W.evs A (W3.alloc (.cells #[.slice oa (obsOf P).length oc,.slice ea M.W.evs.length ec] 37)) HOX.out.sl HEX.out.sl hne hreg hel hes GX.words hfd hA12 GX.pow GX.ans ⟨by have:=GX.big;omega,hbb⟩ hdd hE)
   have CCx:=hid (fun(X:World) (hX:Below (W3.alloc (.cells #[.slice oa (obsOf P).length oc,.slice ea M.W.evs.length ec] 37)).heap.size (W3.alloc (.cells #[.slice oa (obsOf P).length oc,.slice ea M.W.evs.length ec] 37)) X)=>sh_Check _ _ (obsOf P) M.W.evs A X (OwnF.below HOX.out hX).sl (OwnF.below HEX.out hX).sl hne hreg hel hes (GX.words.below hX) hfd)
   have HBB:=hid hbb
   have BGX:=hid GX.big
   clear GX hbb hfd hel hes hreg hne hA12 hdd hE HOX HEX hro
   generalize (obsOf P).length=on at *
   generalize M.W.evs.length=en at *
   have yh:=row_cell RHX.out
   have yh0:=yh 0
   have yh1:=yh 1
   have yhl:=row_lt RHX.out
   have RH2:=hid RHX.out
   clear yh RHX
   go_wp2_with fail
   generalize W3.alloc (.cells #[.slice oa on oc,.slice ea en ec] 37)=W4 at *
   simp at yh0 yh1
   go_wp2_with fail
   refine SC.out.mono ?_
   rintro e W8 ⟨yy,ay,ny,cy,ky,er,rfl,hres,b8⟩
   have b9:Below W8.heap.size W8 (W8.alloc (.cells #[.bool yy,.slice ay ny cy,.int .i64 ky] 68)):=(Below.refl _ W8).alloc (Nat.le_refl _) _
   have r9:=hid (row_new W8 (.cells #[.bool yy,.slice ay ny cy,.int .i64 ky] 68))
   have b89:=hid (b8.trans (b9.mono b8.size))
   have CK:=hid (CCx.out _ b89.out)
   have rh9:=row_below RH2.out b89.out (row_lt RH2.out)
   have z0:=row_cell rh9 0
   have z1:=row_cell rh9 1
   simp at z0 z1
   have zl:=row_lt rh9
   have hbb9:=cell_below b89.out (by have:=BGX.out;omega) HBB.out
   clear yh0 yh1 b8 b9 rh9
   rcases hres with⟨rfl,rfl⟩|rfl
   ·go_wp2_with fail
    generalize W8.alloc (.cells #[.bool true,.slice ay ny cy,.int .i64 ky] 68)=W9 at *
    refine CK.out.mono ?_
    rintro e W10 ⟨rfl,b10⟩
    have r10:=row_below r9.out b10 (row_lt r9.out)
    have u0:=row_cell r10 0
    simp at u0
    have ul:=row_lt r10
    have hbb10:=cell_below b10 (by have:=BGX.out;have:=b89.out.size;omega) hbb9
    have gl10:0 < W10.heap.size:=by have:=BGX.out;have:=b89.out.size;have:=b10.size;omega
    clear r10
    have heq:=eqN bb W10
    go_wp2_with fail
    go_ret
    exact⟨rfl,(B4.out.trans (b89.out.mono B4.out.size)).trans (b10.mono (Nat.le_trans B4.out.size b89.out.size))⟩
   ·go_wp2_with fail
    generalize W8.alloc (.cells #[.bool yy,.slice ay ny cy,.int .i64 ky] 68)=W9 at *
    refine CK.out.mono ?_
    rintro e W10 ⟨rfl,b10⟩
    have hbb10:=cell_below b10 (by have:=BGX.out;have:=b89.out.size;omega) hbb9
    have gl10:0 < W10.heap.size:=by have:=BGX.out;have:=b89.out.size;have:=b10.size;omega
    have heq:=eqE bb W10
    go_wp2_with fail
    go_ret
    exact⟨rfl,(B4.out.trans (b89.out.mono B4.out.size)).trans (b10.mono (Nat.le_trans B4.out.size b89.out.size))⟩
  |true=>
   clear HOX HEX hro
   generalize (obsOf P).length=on0 at *
   generalize M.W.evs.length=en0 at *
   go_wp2_with fail
   have hlt34:W3.heap.size < (W3.alloc (.cells #[.slice oa on0 oc,.slice ea en0 ec] 37)).heap.size:=by simp
   generalize W3.alloc (.cells #[.slice oa on0 oc,.slice ea en0 ec] 37)=W4 at *
   simp at y0 y1
   have hFF:=hid (la_Full _ _ P W4 ((H.out.below B4.out).more B4.out.size) (.iface tt tv) (cell_below b24.out (by omega) G2.out) ⟨_,_,rfl⟩ (by have:=b24.out.size;omega) (by omega) _ l ((HS.out.below B4.out).more B4.out.size) hl (going P))
   go_wp2_with fail
   refine(hFF.out).mono ?_
   rintro e W5 ⟨hv5,b5⟩
   have b25:=hid (b24.out.trans (b5.mono b24.out.size))
   have B5:=hid (B4.out.trans (b5.mono B4.out.size))
   have rh5:=row_below RH4.out b5 (row_lt RH4.out)
   have R5:=hid (row_below R4.out b5 (row_lt R4.out))
   have x0:=row_cell rh5 0
   have x1:=row_cell rh5 1
   simp at x0 x1
   have xl:=row_lt rh5
   have xf:=fun j=>row_free rh5 j
   have hbh:w.heap.size≤W3.heap.size:=hz3
   rcases hv5 with⟨hno,-⟩|⟨-,M5,ov5,vv5,rfl,hro5,ho5,hv5'⟩
   case inl=>exact absurd hval hno
   case inr=>
    obtain⟨oa5,oc5,rfl⟩:=OwnF.slv ho5
    obtain⟨ea5,ec5,rfl⟩:=OwnF.slv hv5'
    have rhF:=hid (row_set (row_set rh5 0 (.slice oa5 (obsOf P).length oc5)) 1 (.slice ea5 M5.W.evs.length ec5))
    have HOX:=hid (OwnF.set (j:=1) (u:=.slice ea5 M5.W.evs.length ec5) (OwnF.set (j:=0) (u:=.slice oa5 (obsOf P).length oc5) ho5 hlt34) hlt34)
    have HEX:=hid (OwnF.set (j:=1) (u:=.slice ea5 M5.W.evs.length ec5) (OwnF.set (j:=0) (u:=.slice oa5 (obsOf P).length oc5) hv5' hlt34) hlt34)
    have BF:=hid ((B5.out.setCell (p:=⟨W3.heap.size,0,none⟩) hbh (.slice oa5 (obsOf P).length oc5)).setCell (p:=⟨W3.heap.size,1,none⟩) hbh (.slice ea5 M5.W.evs.length ec5))
    have RHX:=hid rhF.out
    clear rhF rh5 b5 hFF ho5 hv5' RH4 R4 R5
    obtain⟨A,hfd,hel,hes,hreg,hne,hA12,hdd,hE⟩:=strict_run hval hro5
    have GX:=HG.out.below BF.out
    obtain⟨bb,hbb⟩:=GX.bud
    have SC:=hid (s_Run 2 (.inr (.inl rfl)) 3000 ⟨by omega,by omega⟩ _ _ (obsOf P) M5.W.evs A ((W5.setCell ⟨W3.heap.size,0,none⟩ (.slice oa5 (obsOf P).length oc5)).setCell ⟨W3.heap.size,1,none⟩ (.slice ea5 M5.W.evs.length ec5)) HOX.out.sl HEX.out.sl hne hreg hel hes GX.words hfd hA12 GX.pow GX.ans ⟨by have:=GX.big;omega,hbb⟩ hdd hE)
    have CCx:=hid (fun(X:World) (hX:Below ((W5.setCell ⟨W3.heap.size,0,none⟩ (.slice oa5 (obsOf P).length oc5)).setCell ⟨W3.heap.size,1,none⟩ (.slice ea5 M5.W.evs.length ec5)).heap.size ((W5.setCell ⟨W3.heap.size,0,none⟩ (.slice oa5 (obsOf P).length oc5)).setCell ⟨W3.heap.size,1,none⟩ (.slice ea5 M5.W.evs.length ec5)) X)=>sh_Check _ _ (obsOf P) M5.W.evs A X (OwnF.below HOX.out hX).sl (OwnF.below HEX.out hX).sl hne hreg hel hes (GX.words.below hX) hfd)
    have HBB:=hid hbb
    have BGX:=hid GX.big
    clear GX hbb hfd hel hes hreg hne hA12 hdd hE HOX HEX hro5
    generalize (obsOf P).length=on at *
    generalize M5.W.evs.length=en at *
    have yh:=row_cell RHX.out
    have yh0:=yh 0
    have yh1:=yh 1
    have yhl:=row_lt RHX.out
    have RH2:=hid RHX.out
    clear yh RHX
    go_wp2_with fail
    generalize (W5.setCell ⟨W3.heap.size,0,none⟩ (.slice oa5 on oc5)).setCell ⟨W3.heap.size,1,none⟩ (.slice ea5 en ec5)=W6 at *
    simp at yh0 yh1
    go_wp2_with fail
    refine SC.out.mono ?_
    rintro e W8 ⟨yy,ay,ny,cy,ky,er,rfl,hres,b8⟩
    have b9:Below W8.heap.size W8 (W8.alloc (.cells #[.bool yy,.slice ay ny cy,.int .i64 ky] 68)):=(Below.refl _ W8).alloc (Nat.le_refl _) _
    have r9:=hid (row_new W8 (.cells #[.bool yy,.slice ay ny cy,.int .i64 ky] 68))
    have b89:=hid (b8.trans (b9.mono b8.size))
    have CK:=hid (CCx.out _ b89.out)
    have rh9:=row_below RH2.out b89.out (row_lt RH2.out)
    have z0:=row_cell rh9 0
    have z1:=row_cell rh9 1
    simp at z0 z1
    have zl:=row_lt rh9
    have hbb9:=cell_below b89.out (by have:=BGX.out;omega) HBB.out
    clear yh0 yh1 b8 b9 rh9
    rcases hres with⟨rfl,rfl⟩|rfl
    ·go_wp2_with fail
     generalize W8.alloc (.cells #[.bool true,.slice ay ny cy,.int .i64 ky] 68)=W9 at *
     refine CK.out.mono ?_
     rintro e W10 ⟨rfl,b10⟩
     have r10:=row_below r9.out b10 (row_lt r9.out)
     have u0:=row_cell r10 0
     simp at u0
     have ul:=row_lt r10
     have hbb10:=cell_below b10 (by have:=BGX.out;have:=b89.out.size;omega) hbb9
     have gl10:0 < W10.heap.size:=by have:=BGX.out;have:=b89.out.size;have:=b10.size;omega
     clear r10
     have heq:=eqN bb W10
     go_wp2_with fail
     go_ret
     exact⟨rfl,(BF.out.trans (b89.out.mono BF.out.size)).trans (b10.mono (Nat.le_trans BF.out.size b89.out.size))⟩
    ·go_wp2_with fail
     generalize W8.alloc (.cells #[.bool yy,.slice ay ny cy,.int .i64 ky] 68)=W9 at *
     refine CK.out.mono ?_
     rintro e W10 ⟨rfl,b10⟩
     have hbb10:=cell_below b10 (by have:=BGX.out;have:=b89.out.size;omega) hbb9
     have gl10:0 < W10.heap.size:=by have:=BGX.out;have:=b89.out.size;have:=b10.size;omega
     have heq:=eqE bb W10
     go_wp2_with fail
     go_ret
     exact⟨rfl,(BF.out.trans (b89.out.mono BF.out.size)).trans (b10.mono (Nat.le_trans BF.out.size b89.out.size))⟩
end
