/- Parts of the proof, merged by program out of 2 texts (EoE, EoF): the first: The engine late: what comes behind an event of a thread's own. Conditions: those of each theorem, as typed. -/
import Derived.Test.YtkfhgifhfkcehaaGreatDoorQL44
set_option linter.unusedVariables false
set_option linter.unusedSimpArgs false
set_option linter.unusedSectionVars false
set_option maxRecDepth 100000
set_option maxHeartbeats 4000000
namespace Go.Proofs.YtkfhgifhfkcehaaGreatDoor
open Go.Maps Go.RowKit
section
attribute [local irreducible] wpL
section
variable {w w':World} {C:LC} {ve:Value} {P:Pg} {M:LM} {us:List (Value×Value)}
theorem LaAt.wkCell (h:LaAt w C ve us P M) {i:Nat} (hi:i < P.threads.length):∃u,us[i]?=some u∧w.cell? ⟨C.gW,i*2,none⟩=some u.1∧w.cell? ⟨C.gW,i*2+1,none⟩=some u.2:=by
 obtain⟨gW',off,x,hb,hgW,hx,hcw⟩:=Sl.atF moC_len (show Sl w w.heap.size 2 (.slice (some ⟨C.gW,0,none⟩) P.threads.length P.threads.length) P.threads.length (us.flatMap moC) from by have h2:=h.wks.own;have h3:=h2.len;rw[←h3] at h2 ⊢;exact h2.sl) h.wks.own.len hi
 simp only[Option.some.injEq,Addr.mk.injEq,and_true] at hb
 obtain⟨rfl,rfl⟩:=hb
 refine⟨x,hx,?_,?_⟩
 ·have:=hcw 0 (by decide);simpa[moC] using this
 ·have:=hcw 1 (by decide);simpa[moC] using this
def BegMid (C:LC) (P:Pg) (w W:World) (i:Nat) (ex eh ej eo ey ev er:Int):Exit→Act→World→Prop:=fun e a' X=>
 ∃(b1 b2:Nat) (Y:World),e=.normal∧a'={tmps:=#[.pointer (some ⟨C.bM,0,none⟩),.int .i64 i,evV ⟨1,ex,eh,ej,eo,ey,ev,er⟩,.pointer (some ⟨w.heap.size,0,none⟩),.pointer (some ⟨w.heap.size+1,0,none⟩),.pointer (some ⟨w.heap.size+1+1,0,none⟩),.nilFunc,.pointer (some ⟨w.heap.size+1+1,0,none⟩),.int .i64 1,.bool true,.bool true,.pointer (some ⟨C.bM,0,none⟩),.pointer (some ⟨C.bM,0,none⟩),.pointer (some ⟨C.bM,2,none⟩),.slice (some ⟨C.gW,0,none⟩) P.threads.length P.threads.length,.int .i64 i,.map (some b1),.map (some b2),.agg #[.map (some b1),.map (some b2)],.pointer (some ⟨C.gW,i*2,none⟩),undef,undef,undef,undef,undef,undef,undef],defers:=[]}∧X=((Y.setCell ⟨C.gW,i*2,none⟩ (.map (some b1))).setCell ⟨C.gW,i*2+1,none⟩ (.map (some b2)))∧Below W.heap.size W Y∧Y.heap[b1]?=some (.map #[] 0)∧Y.heap[b2]?=some (.map #[] 0)∧b1≠b2∧W.heap.size≤b1∧W.heap.size≤b2
theorem la_react1 (h:LaAt w C ve us P M) (i:Nat) (hi:i < P.threads.length) (ex eh ej eo ey ev er:Int):
  Calls Tryz.prog 136 #[.pointer (some ⟨C.bM,0,none⟩),.int .i64 i,evV ⟨1,ex,eh,ej,eo,ey,ev,er⟩] w (LaNext C P i ({M with ws:=M.ws.set i (some ([],[]))},.none) w):=by
 have hn4:=h.ok.threads.2
 have d2:=row_cell h.row 2
 obtain⟨u,hu,w0,w1⟩:=h.wkCell hi
 have lM:=row_lt h.row
 obtain⟨csW,rW⟩:=h.wks.own.keepObj C.gW rfl
 have lW:=row_lt rW
 have H:=hid h
 clear h
 go_enter Tryz.func136,Tryz.ntmps136
 go_wp2_with fail
 have bA:Below w.heap.size w (((w.alloc (.cells #[.pointer (some ⟨C.bM,0,none⟩)] 165)).alloc (.cells #[.int .i64 i] 3)).alloc (.cells #[.int .i64 1,.int .i64 ex,.int .i64 eh,.int .i64 ej,.int .i64 eo,.int .i64 ey,.int .i64 ev,.int .i64 er] 53)):=(((Below.refl w.heap.size w).alloc (Nat.le_refl _) _).alloc (by simp) _).alloc (by simp;omega) _
 have zA:(((w.alloc (.cells #[.pointer (some ⟨C.bM,0,none⟩)] 165)).alloc (.cells #[.int .i64 i] 3)).alloc (.cells #[.int .i64 1,.int .i64 ex,.int .i64 eh,.int .i64 ej,.int .i64 eo,.int .i64 ey,.int .i64 ev,.int .i64 er] 53)).heap.size=w.heap.size+3:=by simp
 have rA:=row_old (o:=.cells #[.int .i64 1,.int .i64 ex,.int .i64 eh,.int .i64 ej,.int .i64 eo,.int .i64 ey,.int .i64 ev,.int .i64 er] 53) (row_old (o:=.cells #[.int .i64 i] 3) (row_new w (.cells #[.pointer (some ⟨C.bM,0,none⟩)] 165)))
 have rB:=row_old (o:=.cells #[.int .i64 1,.int .i64 ex,.int .i64 eh,.int .i64 ej,.int .i64 eo,.int .i64 ey,.int .i64 ev,.int .i64 er] 53) (row_new' (w:=w.alloc (.cells #[.pointer (some ⟨C.bM,0,none⟩)] 165)) (o:=.cells #[.int .i64 i] 3) (g:=w.heap.size+1) (by simp))
 generalize ((w.alloc (.cells #[.pointer (some ⟨C.bM,0,none⟩)] 165)).alloc (.cells #[.int .i64 i] 3)).alloc (.cells #[.int .i64 1,.int .i64 ex,.int .i64 eh,.int .i64 ej,.int .i64 eo,.int .i64 ey,.int .i64 ev,.int .i64 er] 53)=W at *
 have lA:w.heap.size < W.heap.size:=by omega
 have lB:w.heap.size+1 < W.heap.size:=by omega
 have lM':C.bM < W.heap.size:=by omega
 have lW':C.gW < W.heap.size:=by omega
 have d2:=cell_below bA lM d2
 have w0:=cell_below bA lW w0
 have w1:=cell_below bA lW w1
 have xA:=row_cell rA 0
 have xB:=row_cell rB 0
 have rWW:=row_below rW bA lW
 have HA:=hid (H.out.below bA)
 have BA:=hid (bA.mono H.out.size)
 have RW:=hid rWW
 have ZA:=hid zA
 clear bA rA rB zA rW rWW H
 have nW:∀q,W.heap.size≤q→q≠C.gW:=fun q hq=>by omega
 refine wp_mono (Q:=BegMid C P w W i ex eh ej eo ey ev er) ?_ ?_
 ·
  refine wp_rN (W.heap.size) [1,0,0,1,1,3,3,0,0,2] (.frk [0,1,2,3,4] (.fin [5,6,7,8,9]) (.fin [6,5,7,8,9])) (by kernel_rfl) ?_
  simp only[wpT,selX,guardAt,sD,sE,sF,sG]
  repeat first|(refine wpL_p fun K hK=>?_;go_simp;refine hK _ _ ?_;clear hK K)|(apply wpL_s;(intro w2 hw2;have hk1:=hw2.cell;have hk3:=hw2.1;clear hw2;go_simp;with_reducible rfl);simp only[Act.put,sA,sB,sC])|refine wpL_nil ?_
  refine⟨?_,?_⟩
  ·refine wpL_k (fun K hK=>?_)
   go_simp
   refine hK _ _ (RN.KeepsN.alloc _ _ (by first|omega|exact Nat.le_refl _)) ?_
   clear hK K
   refine wpL_k (fun K hK=>?_)
   go_simp
   refine hK _ _ (RN.KeepsN.alloc _ _ (by simp)) ?_
   clear hK K
   repeat (refine wpL_p fun K hK=>?_;go_simp;refine hK _ _ ?_;clear hK K)
   change wpL _ _ _ _ _ ((W.drew.alloc (.map #[] 0)).alloc (.map #[] 0))
   have bY:Below W.heap.size W ((W.drew.alloc (.map #[] 0)).alloc (.map #[] 0)):=(((Below.refl W.heap.size W).drew).alloc (Nat.le_refl _) _).alloc (by simp) _
   have rb1:((W.drew.alloc (.map #[] 0)).alloc (.map #[] 0)).heap[W.heap.size]?=some (.map #[] 0):=row_old (row_new W.drew _)
   have rb2:((W.drew.alloc (.map #[] 0)).alloc (.map #[] 0)).heap[W.heap.size+1]?=some (.map #[] 0):=row_new' (by simp)
   have zY:((W.drew.alloc (.map #[] 0)).alloc (.map #[] 0)).heap.size=W.heap.size+2:=by simp
   generalize (W.drew.alloc (.map #[] 0)).alloc (.map #[] 0)=Y at *
   have w0:=cell_below bY lW' w0
   have w1:=cell_below bY lW' w1
   have ff:∀j,Y.frozen? ⟨C.gW,j,none⟩=false:=fun j=>row_free (row_below RW.out bY lW') j
   have lWY:C.gW < Y.heap.size:=by omega
   refine wpL_e (fun K hK=>?_)
   go_simp
   refine hK _ _ ?_
   clear hK K
   repeat refine wpL_nil ?_
   exact⟨W.heap.size,W.heap.size+1,_,rfl,rfl,rfl,bY,rb1,rb2,by omega,Nat.le_refl _,by omega⟩
  ·refine wpL_k (fun K hK=>?_)
   go_simp
   refine hK _ _ (RN.KeepsN.alloc _ _ (by first|omega|exact Nat.le_refl _)) ?_
   clear hK K
   refine wpL_k (fun K hK=>?_)
   go_simp
   refine hK _ _ (RN.KeepsN.alloc _ _ (by simp)) ?_
   clear hK K
   repeat (refine wpL_p fun K hK=>?_;go_simp;refine hK _ _ ?_;clear hK K)
   change wpL _ _ _ _ _ ((W.drew.alloc (.map #[] 0)).alloc (.map #[] 0))
   have bY:Below W.heap.size W ((W.drew.alloc (.map #[] 0)).alloc (.map #[] 0)):=(((Below.refl W.heap.size W).drew).alloc (Nat.le_refl _) _).alloc (by simp) _
   have rb1:((W.drew.alloc (.map #[] 0)).alloc (.map #[] 0)).heap[W.heap.size]?=some (.map #[] 0):=row_old (row_new W.drew _)
   have rb2:((W.drew.alloc (.map #[] 0)).alloc (.map #[] 0)).heap[W.heap.size+1]?=some (.map #[] 0):=row_new' (by simp)
   have zY:((W.drew.alloc (.map #[] 0)).alloc (.map #[] 0)).heap.size=W.heap.size+2:=by simp
   generalize (W.drew.alloc (.map #[] 0)).alloc (.map #[] 0)=Y at *
   have w0:=cell_below bY lW' w0
   have w1:=cell_below bY lW' w1
   have ff:∀j,Y.frozen? ⟨C.gW,j,none⟩=false:=fun j=>row_free (row_below RW.out bY lW') j
   have lWY:C.gW < Y.heap.size:=by omega
   refine wpL_e (fun K hK=>?_)
   go_simp
   refine hK _ _ ?_
   clear hK K
   repeat refine wpL_nil ?_
   exact⟨W.heap.size+1,W.heap.size,_,rfl,rfl,rfl,bY,rb2,rb1,by omega,by omega,Nat.le_refl _⟩
 ·rintro e a' X ⟨b1,b2,Y,rfl,rfl,rfl,bY,r1,r2,hne,h1,h2⟩
  have hk:Kd (fun t=>t=308) Y ((Y.setCell ⟨C.gW,i*2,none⟩ (.map (some b1))).setCell ⟨C.gW,i*2+1,none⟩ (.map (some b2))):=by
   have:=row_below RW.out bY lW'
   exact Kd.trans (T:=fun t=>t=308) (Kd.set (T:=fun t=>t=308) this rfl _) (Kd.set (T:=fun t=>t=308) (row_set this (i*2) (.map (some b1))) rfl _)
  have hm:KmAll W ((Y.setCell ⟨C.gW,i*2,none⟩ (.map (some b1))).setCell ⟨C.gW,i*2+1,none⟩ (.map (some b2))):=by
   have:=row_below RW.out bY lW'
   exact(KmAll.below bY).trans ((KmAll.set this _).trans (KmAll.set (row_set this (i*2) (.map (some b1))) _))
  have how:=own_set2 (OwnF.below HA.out.wks.own bY) moC_len (u:=(.map (some b1),.map (some b2))) rfl i
  have hr1:((Y.setCell ⟨C.gW,i*2,none⟩ (.map (some b1))).setCell ⟨C.gW,i*2+1,none⟩ (.map (some b2))).heap[b1]?=some (.map #[] 0):=row_other (row_other r1 (nW b1 h1).symm) (nW b1 h1).symm
  have hr2:((Y.setCell ⟨C.gW,i*2,none⟩ (.map (some b1))).setCell ⟨C.gW,i*2+1,none⟩ (.map (some b2))).heap[b2]?=some (.map #[] 0):=row_other (row_other r2 (nW b2 h2).symm) (nW b2 h2).symm
  have hB2:C.B≤W.heap.size:=HA.out.size
  have hBW:C.B≤C.gW:=(HA.out.wks.own.lt C.gW rfl).1
  have hb:Below C.B w ((Y.setCell ⟨C.gW,i*2,none⟩ (.map (some b1))).setCell ⟨C.gW,i*2+1,none⟩ (.map (some b2))):=((BA.out.trans (bY.mono hB2)).setCell (p:=⟨C.gW,i*2,none⟩) hBW _).setCell (p:=⟨C.gW,i*2+1,none⟩) hBW _
  have hL:=(HA.out.below bY).turn (cs':=M.cs) (fun k cs t fz h1 h2=>hk k cs t fz h1 (fun e=>h2 (.inr e))) (OwnF.kd (HA.out.below bY).cells hk (by decide)) HA.out.clen (HA.out.wks.begin (i:=i) (u:=(.map (some b1),.map (some b2))) (o':=some ([],[])) hm how (by
   rintro q (e|e) <;> cases e <;> assumption) ⟨b1,b2,rfl,by omega,by omega,hne,isMI_new hr1,isMI_new hr2,(fun _ h=>by cases h),List.Pairwise.nil,(fun _ h=>by cases h),List.Pairwise.nil⟩)
  generalize (Y.setCell ⟨C.gW,i*2,none⟩ (.map (some b1))).setCell ⟨C.gW,i*2+1,none⟩ (.map (some b2))=V at *
  have HL:=hid hL
  have HB:=hid hb
  clear hk hm how hr1 hr2 hb hL r1 r2 bY d2 w0 w1 xA xB
  go_wp2
  go_ret
  exact⟨_,ve,_,rfl,HB.out,HL.out,rfl⟩
theorem la_react (h:LaAt w C ve us P M) (i:Nat) (hi:i < P.threads.length) (ek ex eh ej eo ey ev er:Int) (he:ek≠1):
  Calls Tryz.prog 136 #[.pointer (some ⟨C.bM,0,none⟩),.int .i64 i,evV ⟨ek,ex,eh,ej,eo,ey,ev,er⟩] w (LaNext C P i (M,reactOf ⟨ek,ex,eh,ej,eo,ey,ev,er⟩) w):=by
 have H:=hid h
 clear h
 go_enter Tryz.func136,Tryz.ntmps136
 have bA:Below w.heap.size w (((w.alloc (.cells #[.pointer (some ⟨C.bM,0,none⟩)] 165)).alloc (.cells #[.int .i64 i] 3)).alloc (.cells #[.int .i64 ek,.int .i64 ex,.int .i64 eh,.int .i64 ej,.int .i64 eo,.int .i64 ey,.int .i64 ev,.int .i64 er] 53)):=(((Below.refl w.heap.size w).alloc (Nat.le_refl _) _).alloc (by simp) _).alloc (by simp;omega) _
 have rA:=row_old (o:=.cells #[.int .i64 ek,.int .i64 ex,.int .i64 eh,.int .i64 ej,.int .i64 eo,.int .i64 ey,.int .i64 ev,.int .i64 er] 53) (row_old (o:=.cells #[.int .i64 i] 3) (row_new w (.cells #[.pointer (some ⟨C.bM,0,none⟩)] 165)))
 have rB:=row_old (o:=.cells #[.int .i64 ek,.int .i64 ex,.int .i64 eh,.int .i64 ej,.int .i64 eo,.int .i64 ey,.int .i64 ev,.int .i64 er] 53) (row_new' (w:=w.alloc (.cells #[.pointer (some ⟨C.bM,0,none⟩)] 165)) (o:=.cells #[.int .i64 i] 3) (g:=w.heap.size+1) (by simp))
 have rC:=row_new' (w:=(w.alloc (.cells #[.pointer (some ⟨C.bM,0,none⟩)] 165)).alloc (.cells #[.int .i64 i] 3)) (o:=.cells #[.int .i64 ek,.int .i64 ex,.int .i64 eh,.int .i64 ej,.int .i64 eo,.int .i64 ey,.int .i64 ev,.int .i64 er] 53) (g:=w.heap.size+1+1) (by simp)
 have hve:ve.ownBlock≠some (w.heap.size+1+1):=fun e=>by
  obtain⟨vs,h1,-⟩:=H.out.dr
  have:=(h1.walk.evs.lt _ e).2
  omega
 have hB:=H.out.size
 have HA:=hid (H.out.below bA)
 have BA:=hid (bA.mono hB)
 have RA:=hid rA
 have RB:=hid rB
 have RC:=hid rC
 have HVE:=hid hve
 clear bA rA rB rC hve H
 have q1:(ek==1)=false:=by simpa using he
 by_cases h7:ek=7
 ·subst h7
  go_wp2
  go_ret
  exact⟨_,ve,us,rfl,BA.out,HA.out,w.heap.size,w.heap.size+1,rfl,RA.out,RB.out,hB,by omega⟩
 ·have q7:(ek==7)=false:=by simpa using h7
  by_cases h4:ek=4
  ·subst h4
   go_wp2
   go_ret
   exact⟨_,ve,us,rfl,BA.out,HA.out,w.heap.size,w.heap.size+1,rfl,RA.out,RB.out,hB,by omega⟩
  ·have q4:(ek==4)=false:=by simpa using h4
   have hre:reactOf ⟨ek,ex,eh,ej,eo,ey,ev,er⟩=.ans ⟨ek,ex,eh,ej,eo,ey,ev,er⟩:=by simp[reactOf,he,h7,h4]
   rw[hre]
   go_wp2
   go_ret
   exact⟨_,ve,us,rfl,BA.out,HA.out,w.heap.size,w.heap.size+1,w.heap.size+1+1,rfl,RA.out,RB.out,RC.out,HVE.out,hB,by omega,by omega⟩
theorem la_look1 (h:LaAt w C ve us P M) (i:Nat) (hi:i < P.threads.length) {t:Th} (ht:M.W.ths[i]?=some t) (hl:M.W.evs.length≤100000) {r s:MI} (hws:M.ws[i]?=some (some (r,s)))
  (hr:∀p ∈ r,p.1 < P.cells.length) (hs:∀p ∈ s,p.1 < P.cells.length) (hv:∀c ∈ M.cs,0≤c.ver∧c.ver≤1000000) {p1 p2:Nat} (h1:w.heap[p1]?=some (.cells #[.pointer (some ⟨C.bM,0,none⟩)] 165 (0,0))) (h2:w.heap[p2]?=some (.cells #[.int .i64 i] 3 (0,0))):
  Calls Tryz.prog 180 #[.pointer (some ⟨p1,0,none⟩),.pointer (some ⟨p2,0,none⟩)] w (LaNext C P i (lookStep P M i t r s) w):=by
 have d0:=row_cell h1 0
 have d1:=row_cell h2 0
 have l0:=row_lt h1
 have l1:=row_lt h2
 have hc:=hid (la_look h i hi ht hl hws hr hs hv)
 clear h h1 h2 hr hs hv hws ht
 generalize lookStep P M i t r s=y at *
 go_enter Tryz.func180,Tryz.ntmps180
 go_wp2_with fail
 refine(hc.out).mono ?_
 clear hc
 rintro e w1 ⟨v,ve',us',rfl,hb,hla,hx⟩
 have HB:=hid hb
 have HL:=hid hla
 have HX:=hid hx
 clear hb hla hx d0 d1
 go_wp2
 go_ret
 exact⟨_,ve',us',rfl,HB.out,HL.out,HX.out⟩
theorem la_ans1 (h:LaAt w C ve us P M) (i:Nat) (hi:i < P.threads.length) {t:Th} (ht:M.W.ths[i]?=some t) (hl:M.W.evs.length≤100000) {r s:MI} (hws:M.ws[i]?=some (some (r,s)))
  (k:Nat) (ek ex eh eo ey ev er:Int) (hk:k < P.cells.length) (hb1:∀v,fnd (k:Int) s=some v→-999999000≤v∧v≤999999000) (hb2:∀c,M.cs[k]?=some c→-999999000≤c.val∧c.val≤999999000)
  {p1 p2 p3:Nat} (h1:w.heap[p1]?=some (.cells #[.pointer (some ⟨C.bM,0,none⟩)] 165 (0,0))) (h2:w.heap[p2]?=some (.cells #[.int .i64 i] 3 (0,0))) (h3:w.heap[p3]?=some (.cells #[.int .i64 ek,.int .i64 ex,.int .i64 eh,.int .i64 (k:Nat),.int .i64 eo,.int .i64 ey,.int .i64 ev,.int .i64 er] 53 (0,0))):
  Calls Tryz.prog 182 #[.pointer (some ⟨p1,0,none⟩),.pointer (some ⟨p2,0,none⟩),.pointer (some ⟨p3,0,none⟩)] w (LaPost C P (ansStep P M i t ⟨ek,ex,eh,(k:Nat),eo,ey,ev,er⟩ r s) .nilFunc w):=by
 have d0:=row_cell h1 0
 have d1:=row_cell h2 0
 have l0:=row_lt h1
 have l1:=row_lt h2
 have l2:=row_lt h3
 have f0:=row_cell h3 0
 have f1:=row_cell h3 1
 have f2:=row_cell h3 2
 have f3:=row_cell h3 3
 have f4:=row_cell h3 4
 have f5:=row_cell h3 5
 have f6:=row_cell h3 6
 have f7:=row_cell h3 7
 have hc:=hid (la_answer h i hi ht hl hws k ek ex eh eo ey ev er hk hb1 hb2)
 clear h h1 h2 h3 hws ht hb1 hb2
 generalize ansStep P M i t ⟨ek,ex,eh,(k:Nat),eo,ey,ev,er⟩ r s=y at *
 go_enter Tryz.func182,Tryz.ntmps182
 go_wp2_with fail
 refine(hc.out).mono ?_
 clear hc
 rintro e w1 ⟨rfl,hb,ve',us',hla⟩
 have HB:=hid hb
 have HL:=hid hla
 clear hb hla d0 d1 f0 f1 f2 f3 f4 f5 f6 f7
 go_wp2
 go_ret
 exact⟨rfl,HB.out,ve',us',HL.out⟩
end
end
section
attribute [local irreducible] wpL
section
variable {w w':World} {C:LC} {ve:Value} {P:Pg} {M:LM} {us:List (Value×Value)}
def GoBox (C:LC) (i p1 p2:Nat) (X:World):Prop:=X.heap[p1]?=some (.cells #[.pointer (some ⟨C.bD,0,none⟩)] 82 (0,0))∧X.heap[p2]?=some (.cells #[.int .i64 i] 3 (0,0))
theorem GoBox.below {i p1 p2:Nat} (h:GoBox C i p1 p2 w) (hb:Below w.heap.size w w'):GoBox C i p1 p2 w':=⟨row_below h.1 hb (row_lt h.1),row_below h.2 hb (row_lt h.2)⟩
theorem GoBox.kp {i p1 p2:Nat} (h:GoBox C i p1 p2 w) (hk:Kp Mw ve w w'):GoBox C i p1 p2 w':=⟨hk.rowW h.1 (by decide) (by decide) (by decide),hk.rowW h.2 (by decide) (by decide) (by decide)⟩
def GoMid (C:LC) (P:Pg) (us:List (Value×Value)) (w:World) (i p1 p2:Nat) (M':LM) (ek ex eh ej eo ey ev er:Int):Exit→Act→World→Prop:=fun e a' X=>
 ∃b3:Nat,e=.normal∧a'={tmps:=#[.pointer (some ⟨p1,0,none⟩),.pointer (some ⟨p2,0,none⟩),.nilFunc,.pointer (some ⟨b3,0,none⟩),.bool true,.tuple #[evV ⟨ek,ex,eh,ej,eo,ey,ev,er⟩,.bool true],.pointer (some ⟨C.bD,0,none⟩),.pointer (some ⟨C.bD,0,none⟩),.pointer (some ⟨C.bD,2,none⟩),.pointer (some ⟨C.bW,0,none⟩),.int .i64 i,.tuple #[evV ⟨ek,ex,eh,ej,eo,ey,ev,er⟩,.bool true],evV ⟨ek,ex,eh,ej,eo,ey,ev,er⟩,.bool true,undef,undef,undef,undef,undef,undef,undef,undef,undef],defers:=[]}∧X.heap[b3]?=some (.cells #[.int .i64 ek,.int .i64 ex,.int .i64 eh,.int .i64 ej,.int .i64 eo,.int .i64 ey,.int .i64 ev,.int .i64 er] 53 (0,0))∧Below C.B w X∧GoBox C i p1 p2 X∧∃ve',LaAt X C ve' us P M'
def GoMidZ (C:LC) (P:Pg) (us:List (Value×Value)) (w:World) (i p1 p2:Nat) (M':LM):Exit→Act→World→Prop:=fun e a' X=>
 ∃b3:Nat,e=.normal∧a'={tmps:=#[.pointer (some ⟨p1,0,none⟩),.pointer (some ⟨p2,0,none⟩),.nilFunc,.pointer (some ⟨b3,0,none⟩),.bool false,.tuple #[evV ⟨0,0,0,0,0,0,0,0⟩,.bool false],.pointer (some ⟨C.bD,0,none⟩),.pointer (some ⟨C.bD,0,none⟩),.pointer (some ⟨C.bD,2,none⟩),.pointer (some ⟨C.bW,0,none⟩),.int .i64 i,.tuple #[evV ⟨0,0,0,0,0,0,0,0⟩,.bool false],evV ⟨0,0,0,0,0,0,0,0⟩,.bool false,undef,undef,undef,undef,undef,undef,undef,undef,undef],defers:=[]}∧Below C.B w X∧∃ve',LaAt X C ve' us P M'
theorem la_goOn (h:LaAt w C ve us P M) (i:Nat) (hi:i < P.threads.length) {t:Th} (ht:M.W.ths[i]?=some t) (hl:M.W.evs.length≤100000) {p1 p2:Nat} (hp:GoBox C i p1 p2 w):
  Calls Tryz.prog 114 #[.pointer (some ⟨p1,0,none⟩),.pointer (some ⟨p2,0,none⟩)] w (LaNext C P i (ownStep P M i t) w):=by
 have hn4:=h.ok.threads.2
 have d0:=row_cell hp.1 0
 have d1:=row_cell hp.2 0
 have l0:=row_lt hp.1
 have l1:=row_lt hp.2
 have hB:=h.size
 obtain⟨vs,hdr,-,-⟩:=h.dr
 have e2:w.cell? ⟨C.bD,2,none⟩=some (.pointer (some ⟨C.bW,0,none⟩)):=row_cell hdr.row 2
 have lD:=row_lt hdr.row
 have H:=hid h
 have HW:=hid hdr.walk
 have HP:=hid hp
 have HT:=hid ht
 have hcA:=hid (wk_next (hdr.walk.below (Below.refl _ w).drew) hB i hi ht hl)
 have hcB:=hid (fun o=>wk_next (hdr.walk.below (((Below.refl w.heap.size w).drew).alloc (Nat.le_refl _) o)) (by simp;omega) i hi ht hl)
 clear h hp hdr ht
 have hown:ownStep P M i t=(match nextOf P i t with|none=>(M,.none)|some y=>({M with W:=M.W.put i y,ws:=if y.2.kind=1 then M.ws.set i (some ([],[])) else M.ws},reactOf y.2)):=rfl
 rw[hown]
 clear hown
 generalize nextOf P i t=r at *
 cases r with
 |none=>
  go_enter Tryz.func114,Tryz.ntmps114
  go_wp2_with fail
  refine wp_mono (Q:=GoMidZ C P us w i p1 p2 M) ?_ ?_
  ·
   refine wp_rN (w.heap.size) [1,0,0,1,1,2,0,0,0,3,3,0] (.frk [0,1,2,3,4] (.fin [5,6,7,8,9,10,11]) (.fin [9,5,6,7,8,10,11])) (by kernel_rfl) ?_
   simp only[wpT,selX,guardAt,sD,sE,sF,sG]
   repeat first|(refine wpL_p fun K hK=>?_;go_simp;refine hK _ _ ?_;clear hK K)|(apply wpL_s;(intro w2 hw2;have hk1:=hw2.cell;have hk3:=hw2.1;clear hw2;go_simp;with_reducible rfl);simp only[Act.put,sA,sB,sC])|refine wpL_nil ?_
   refine⟨?_,?_⟩
   ·refine wpL_e (fun K hK=>?_)
    go_simp
    refine(hcA.out).mono ?_
    rintro e X1 ⟨rfl,b1⟩
    refine hK _ _ ?_
    clear hK K
    have b1:Below w.heap.size w X1:=(Below.refl _ w).drew.trans b1
    have z1:=b1.size
    repeat (refine wpL_p fun K hK=>?_;go_simp;refine hK _ _ ?_;clear hK K)
    refine wpL_k (fun K hK=>?_)
    go_simp
    refine hK _ _ (RN.KeepsN.alloc _ _ (by first|omega|exact Nat.le_refl _)) ?_
    clear hK K
    refine wpL_k (fun K hK=>?_)
    go_simp
    refine hK _ _ (RN.KeepsN.refl _ _) ?_
    clear hK K
    repeat first|(refine wpL_p fun K hK=>?_;go_simp;refine hK _ _ ?_;clear hK K)|refine wpL_nil ?_
    have b3:=b1.alloc z1 (.cells #[.int .i64 0,.int .i64 0,.int .i64 0,.int .i64 0,.int .i64 0,.int .i64 0,.int .i64 0,.int .i64 0] 53)
    exact⟨X1.heap.size,rfl,rfl,b3.mono hB,ve,H.out.below b3⟩
   ·refine wpL_k (fun K hK=>?_)
    go_simp
    refine hK _ _ (RN.KeepsN.alloc _ _ (by first|omega|exact Nat.le_refl _)) ?_
    clear hK K
    refine wpL_e (fun K hK=>?_)
    go_simp
    refine(hcB.out _).mono ?_
    rintro e X1 ⟨rfl,b1⟩
    refine hK _ _ ?_
    clear hK K
    have RZ:=row_below (row_new' (w:=w.drew) (o:=.cells #[.int .i64 0,.int .i64 0,.int .i64 0,.int .i64 0,.int .i64 0,.int .i64 0,.int .i64 0,.int .i64 0] 53) (g:=w.heap.size) rfl) b1 (by simp)
    have b1:Below w.heap.size w X1:=((Below.refl _ w).drew.alloc (Nat.le_refl _) _).trans (b1.mono (by simp))
    have z1:=b1.size
    have lz:=row_lt RZ
    have yf:∀j,X1.frozen? ⟨w.heap.size,j,none⟩=false:=fun j=>row_free RZ j
    have yc:=row_cell RZ
    have y0:X1.cell? ⟨w.heap.size,0,none⟩=some (.int .i64 0):=yc 0
    have y1:X1.cell? ⟨w.heap.size,1,none⟩=some (.int .i64 0):=yc 1
    have y2:X1.cell? ⟨w.heap.size,2,none⟩=some (.int .i64 0):=yc 2
    have y3:X1.cell? ⟨w.heap.size,3,none⟩=some (.int .i64 0):=yc 3
    have y4:X1.cell? ⟨w.heap.size,4,none⟩=some (.int .i64 0):=yc 4
    have y5:X1.cell? ⟨w.heap.size,5,none⟩=some (.int .i64 0):=yc 5
    have y6:X1.cell? ⟨w.heap.size,6,none⟩=some (.int .i64 0):=yc 6
    have y7:X1.cell? ⟨w.heap.size,7,none⟩=some (.int .i64 0):=yc 7
    clear yc
    repeat (refine wpL_p fun K hK=>?_;go_simp;refine hK _ _ ?_;clear hK K)
    refine wpL_k (fun K hK=>?_)
    go_simp
    have WR6:=(((((((((Wr.start RZ).set 0 (.int .i64 0)).set 1 (.int .i64 0)).set 2 (.int .i64 0)).set 3 (.int .i64 0)).set 4 (.int .i64 0)).set 5 (.int .i64 0)).set 6 (.int .i64 0)).set 7 (.int .i64 0))
    generalize ((((((((X1).setCell ⟨w.heap.size,0,none⟩ (.int .i64 0)).setCell ⟨w.heap.size,1,none⟩ (.int .i64 0)).setCell ⟨w.heap.size,2,none⟩ (.int .i64 0)).setCell ⟨w.heap.size,3,none⟩ (.int .i64 0)).setCell ⟨w.heap.size,4,none⟩ (.int .i64 0)).setCell ⟨w.heap.size,5,none⟩ (.int .i64 0)).setCell ⟨w.heap.size,6,none⟩ (.int .i64 0)).setCell ⟨w.heap.size,7,none⟩ (.int .i64 0)=Y at *
    refine hK _ _ (RN.KeepsN.of_below (WR6.below (Nat.le_refl _))) ?_
    clear hK K
    repeat first|(refine wpL_p fun K hK=>?_;go_simp;refine hK _ _ ?_;clear hK K)|refine wpL_nil ?_
    have b3:=b1.trans (WR6.below (Nat.le_refl _))
    exact⟨w.heap.size,rfl,rfl,b3.mono hB,ve,H.out.below b3⟩
  ·rintro e a' X ⟨b3,rfl,rfl,hb,ve',hla⟩
   have HB:=hid hb
   have HL:=hid hla
   clear hb hla d0 d1 e2 hcA hcB
   go_wp2
   go_ret
   exact⟨_,ve',us,rfl,HB.out,HL.out,rfl⟩
 |some y=>
  obtain⟨t',ek,ex,eh,ej,eo,ey,ev,er⟩:=y
  obtain⟨Y0,hY0⟩:∃Y0:LM×Nx,Y0=({M with W:=M.W.put i (t',⟨ek,ex,eh,ej,eo,ey,ev,er⟩),ws:=if ek=1 then M.ws.set i (some ([],[])) else M.ws},reactOf ⟨ek,ex,eh,ej,eo,ey,ev,er⟩):=⟨_,rfl⟩
  show Calls _ _ _ _ (LaNext C P i ({M with W:=M.W.put i (t',⟨ek,ex,eh,ej,eo,ey,ev,er⟩),ws:=if ek=1 then M.ws.set i (some ([],[])) else M.ws},reactOf ⟨ek,ex,eh,ej,eo,ey,ev,er⟩) w)
  rw[←hY0]
  have HY0:=hid hY0
  clear hY0
  go_enter Tryz.func114,Tryz.ntmps114
  go_wp2_with fail
  refine wp_mono (Q:=GoMid C P us w i p1 p2 {M with W:=M.W.put i (t',⟨ek,ex,eh,ej,eo,ey,ev,er⟩)} ek ex eh ej eo ey ev er) ?_ ?_
  ·
   refine wp_rN (w.heap.size) [1,0,0,1,1,2,0,0,0,3,3,0] (.frk [0,1,2,3,4] (.fin [5,6,7,8,9,10,11]) (.fin [9,5,6,7,8,10,11])) (by kernel_rfl) ?_
   simp only[wpT,selX,guardAt,sD,sE,sF,sG]
   repeat first|(refine wpL_p fun K hK=>?_;go_simp;refine hK _ _ ?_;clear hK K)|(apply wpL_s;(intro w2 hw2;have hk1:=hw2.cell;have hk3:=hw2.1;clear hw2;go_simp;with_reducible rfl);simp only[Act.put,sA,sB,sC])|refine wpL_nil ?_
   refine⟨?_,?_⟩
   ·refine wpL_e (fun K hK=>?_)
    go_simp
    refine(hcA.out).mono ?_
    rintro e X1 ⟨rfl,ve',hwk,hkp,hb,ho⟩
    refine hK _ _ ?_
    clear hK K
    have hkp:Kp Mw ve w X1:=(Kp.of_below (ev:=ve) (Below.refl w.heap.size w).drew).trans hkp fun _ h=>.inl h
    have hL:=H.out.walked hkp hwk ho
    have z1:w.heap.size≤X1.heap.size:=hkp.size
    have hb:Below C.B w X1:=(Below.refl _ w).drew.trans hb
    repeat (refine wpL_p fun K hK=>?_;go_simp;refine hK _ _ ?_;clear hK K)
    refine wpL_k (fun K hK=>?_)
    go_simp
    refine hK _ _ (RN.KeepsN.alloc _ _ (by first|omega|exact Nat.le_refl _)) ?_
    clear hK K
    refine wpL_k (fun K hK=>?_)
    go_simp
    refine hK _ _ (KeepsN.both (W:=X1) (RN.KeepsN.alloc _ _ z1) (RN.KeepsN.alloc _ _ z1) (by simp)) ?_
    clear hK K
    repeat first|(refine wpL_p fun K hK=>?_;go_simp;refine hK _ _ ?_;clear hK K)|refine wpL_nil ?_
    have b3:=(Below.refl X1.heap.size X1).alloc (Nat.le_refl _) (.cells #[.int .i64 ek,.int .i64 ex,.int .i64 eh,.int .i64 ej,.int .i64 eo,.int .i64 ey,.int .i64 ev,.int .i64 er] 53)
    exact⟨X1.heap.size,rfl,rfl,row_new X1 _,hb.alloc (by omega) _,(HP.out.kp hkp).below b3,ve',hL.below b3⟩
   ·refine wpL_k (fun K hK=>?_)
    go_simp
    refine hK _ _ (RN.KeepsN.alloc _ _ (by first|omega|exact Nat.le_refl _)) ?_
    clear hK K
    refine wpL_e (fun K hK=>?_)
    go_simp
    refine(hcB.out _).mono ?_
    rintro e X1 ⟨rfl,ve',hwk,hkp,hb,ho⟩
    refine hK _ _ ?_
    clear hK K
    have bz:Below w.heap.size w (w.drew.alloc (.cells #[.int .i64 0,.int .i64 0,.int .i64 0,.int .i64 0,.int .i64 0,.int .i64 0,.int .i64 0,.int .i64 0] 53)):=(Below.refl _ w).drew.alloc (Nat.le_refl _) _
    have RZ:X1.heap[w.heap.size]?=some (.cells #[.int .i64 0,.int .i64 0,.int .i64 0,.int .i64 0,.int .i64 0,.int .i64 0,.int .i64 0,.int .i64 0] 53 (0,0)):=hkp.cells _ _ _ _ (row_new' (w:=w.drew) (o:=.cells #[.int .i64 0,.int .i64 0,.int .i64 0,.int .i64 0,.int .i64 0,.int .i64 0,.int .i64 0,.int .i64 0] 53) (g:=w.heap.size) rfl) (by unfold Mw;decide) (fun _ e=>by have:=(HW.out.evs.lt _ e).2;omega)
    have hkp:Kp Mw ve w X1:=(Kp.of_below (ev:=ve) bz).trans hkp fun _ h=>.inl h
    have ho':∀k,ve'.ownBlock=some k→ve.ownBlock=some k∨w.heap.size < k:=fun k e=>(ho k e).imp id fun h=>by simp at h;omega
    have z1:w.heap.size≤X1.heap.size:=hkp.size
    have hb:Below C.B w X1:=(bz.mono hB).trans hb
    have lz:=row_lt RZ
    have yf:∀j,X1.frozen? ⟨w.heap.size,j,none⟩=false:=fun j=>row_free RZ j
    have yc:=row_cell RZ
    have y0:X1.cell? ⟨w.heap.size,0,none⟩=some (.int .i64 0):=yc 0
    have y1:X1.cell? ⟨w.heap.size,1,none⟩=some (.int .i64 0):=yc 1
    have y2:X1.cell? ⟨w.heap.size,2,none⟩=some (.int .i64 0):=yc 2
    have y3:X1.cell? ⟨w.heap.size,3,none⟩=some (.int .i64 0):=yc 3
    have y4:X1.cell? ⟨w.heap.size,4,none⟩=some (.int .i64 0):=yc 4
    have y5:X1.cell? ⟨w.heap.size,5,none⟩=some (.int .i64 0):=yc 5
    have y6:X1.cell? ⟨w.heap.size,6,none⟩=some (.int .i64 0):=yc 6
    have y7:X1.cell? ⟨w.heap.size,7,none⟩=some (.int .i64 0):=yc 7
    clear yc
    repeat (refine wpL_p fun K hK=>?_;go_simp;refine hK _ _ ?_;clear hK K)
    refine wpL_k (fun K hK=>?_)
    go_simp
    have WR6:=(((((((((Wr.start RZ).set 0 (.int .i64 ek)).set 1 (.int .i64 ex)).set 2 (.int .i64 eh)).set 3 (.int .i64 ej)).set 4 (.int .i64 eo)).set 5 (.int .i64 ey)).set 6 (.int .i64 ev)).set 7 (.int .i64 er))
    generalize ((((((((X1).setCell ⟨w.heap.size,0,none⟩ (.int .i64 ek)).setCell ⟨w.heap.size,1,none⟩ (.int .i64 ex)).setCell ⟨w.heap.size,2,none⟩ (.int .i64 eh)).setCell ⟨w.heap.size,3,none⟩ (.int .i64 ej)).setCell ⟨w.heap.size,4,none⟩ (.int .i64 eo)).setCell ⟨w.heap.size,5,none⟩ (.int .i64 ey)).setCell ⟨w.heap.size,6,none⟩ (.int .i64 ev)).setCell ⟨w.heap.size,7,none⟩ (.int .i64 er)=Y at *
    refine hK _ _ (RN.KeepsN.of_below (WR6.below (Nat.le_refl _))) ?_
    clear hK K
    repeat first|(refine wpL_p fun K hK=>?_;go_simp;refine hK _ _ ?_;clear hK K)|refine wpL_nil ?_
    obtain⟨hw2,hk2⟩:=HW.out.wrR hwk hkp ho' rfl WR6
    exact⟨w.heap.size,rfl,rfl,WR6.row,hb.trans (WR6.below hB),HP.out.kp hk2,ve',H.out.walked hk2 hw2 fun k e=>(ho' k e).imp id fun h=>by omega⟩
  ·rintro e a' X ⟨b3,rfl,rfl,r3,hb,hgb,ve',hla⟩
   have HB:=hid hb
   have HL:=hid hla
   have x0:=row_cell hgb.1 0
   have x1:=row_cell hgb.2 0
   have lx0:=row_lt hgb.1
   have lx1:=row_lt hgb.2
   obtain⟨vs',hdr,-⟩:=hla.dr
   have x4:X.cell? ⟨C.bD,4,none⟩=some (.func (.func 136) #[.pointer (some ⟨C.bM,0,none⟩)] #[]):=row_cell hdr.row 4
   have lxD:=row_lt hdr.row
   have R3:=hid r3
   have qc:=row_cell R3.out
   have q0:X.cell? ⟨b3,0,none⟩=some (.int .i64 ek):=qc 0
   have q1:X.cell? ⟨b3,1,none⟩=some (.int .i64 ex):=qc 1
   have q2:X.cell? ⟨b3,2,none⟩=some (.int .i64 eh):=qc 2
   have q3:X.cell? ⟨b3,3,none⟩=some (.int .i64 ej):=qc 3
   have q4:X.cell? ⟨b3,4,none⟩=some (.int .i64 eo):=qc 4
   have q5:X.cell? ⟨b3,5,none⟩=some (.int .i64 ey):=qc 5
   have q6:X.cell? ⟨b3,6,none⟩=some (.int .i64 ev):=qc 6
   have q7:X.cell? ⟨b3,7,none⟩=some (.int .i64 er):=qc 7
   clear qc
   have lx3:=row_lt R3.out
   clear hb hgb hla hdr r3 d0 d1 e2 hcA hcB
   go_wp2_with fail
   have hfin:Calls Tryz.prog 136 #[.pointer (some ⟨C.bM,0,none⟩),.int .i64 i,evV ⟨ek,ex,eh,ej,eo,ey,ev,er⟩] X.drew (LaNext C P i Y0 X.drew):=by
    by_cases he:ek=1
    ·subst he
     rw[HY0.out]
     exact la_react1 (HL.out.below (Below.refl _ X).drew) i hi ex eh ej eo ey ev er
    ·rw [HY0.out,if_neg he]
     exact la_react (HL.out.below (Below.refl _ X).drew) i hi ek ex eh ej eo ey ev er he
   have HF:=hid hfin
   clear hfin
   refine wp_region_x [1,0,0,1,1,1,2,0] [0,1,2,3,4,5,6,7] (by kernel_rfl) ?_
   simp only[selX,guardAt,sD,sE,sF,sG]
   repeat first|(refine wpL_p fun K hK=>?_;go_simp;refine hK _ _ ?_;clear hK K)|(apply wpL_s;(intro w2 hw2;have hk1:=hw2.cell;have hk3:=hw2.heap;clear hw2;go_simp;with_reducible rfl);simp only[Act.put,sA,sB,sC])
   refine wpL_e (fun K hK=>?_)
   go_simp
   refine(HF.out).mono ?_
   rintro e X1 ⟨v,ve',us',rfl,hb,hla,hx⟩
   refine hK _ _ ?_
   clear hK K HF
   have HB1:=hid (HB.out.trans ((Below.refl C.B X).drew.trans hb))
   have HL1:=hid hla
   have HX1:=hid hx
   clear hb hla hx x0 x1 x4 q0 q1 q2 q3 q4 q5 q6 q7
   repeat first|(refine wpL_p fun K hK=>?_;go_simp;refine hK _ _ ?_;clear hK K)|refine wpL_nil ?_
   go_wp2
   go_ret
   exact⟨_,ve',us',rfl,HB1.out,HL1.out,HX1.out⟩
end
end
