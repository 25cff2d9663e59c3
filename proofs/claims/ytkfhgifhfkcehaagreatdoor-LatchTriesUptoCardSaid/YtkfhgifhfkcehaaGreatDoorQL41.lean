/- Parts of the proof, merged by program out of 4 texts (ToK, TaC, TmA, TmB): the first: The engine latch: run, Run, Full. Conditions: those of each theorem, as typed. -/
import Derived.Test.YtkfhgifhfkcehaaGreatDoorQL40
import Derived.Test.YtkfhgifhfkcehaaGreatDoorQL19
set_option linter.unusedVariables false
set_option linter.unusedSimpArgs false
set_option linter.unusedSectionVars false
set_option maxRecDepth 100000
set_option maxHeartbeats 4000000
namespace Go.Proofs.YtkfhgifhfkcehaaGreatDoor
open Go.Maps Go.RowKit
section
attribute [local irreducible] wpL
def RunRet (P:Pg) (l:List Int) (full:Bool) (ev:Value) (w:World) (e:Ending) (w':World):Prop:=
 (¬ValidIs P∧e=.returned (.tuple #[.agg #[.slice none 0 0,.slice none 0 0],ev])∨ValidIs P∧∃M' ov vv,e=.returned (.tuple #[.agg #[ov,vv],.nilIface])∧RunOf P (startLM P) l full M'∧OwnF Ob.cells 96 2 w' w.heap.size ov (obsOf P)∧OwnF Ev.cells 53 8 w' w.heap.size vv M'.W.evs)∧Below w.heap.size w w'
def Going (P:Pg):Prop:=PgOk P→∃(Inv:LM→Prop) (mu:LM→Nat),Goes P Inv mu∧Inv (startLM P)
theorem la_run (vc vt:Value) (P:Pg) (w:World) (h:PgIs w w.heap.size vc vt P) (ev:Value) (hev:w.cell? ⟨2,0,none⟩=some ev) (hne:∃t v,ev=.iface t v) (h10:2 < w.heap.size) (hn:P.threads.length≤1000)
  (sv:Value) (l:List Int) (hs:Sl w w.heap.size 1 sv l.length (l.map (.int .i64))) (hl:l.length≤300) (full:Bool) (hG:Going P):
  Calls Tryz.prog 52 #[.agg #[vc,vt],sv,.bool full] w (RunRet P l full ev w):=by
 obtain⟨ac,cc,rfl,mc⟩:=h.cells.ex
 obtain⟨at',ct,rfl,mt⟩:=h.thr.ex
 obtain⟨sa,sc,rfl,-⟩:=hs.ex
 obtain⟨ty,va,rfl⟩:=hne
 have H:=hid h
 have HE:=hid hev
 have HS:=hid hs
 have HG:=hid hG
 clear h hev hs hG
 go_enter Tryz.func52,Tryz.ntmps52
 go_wp2_with fail
 have b0:Below w.heap.size w ((w.alloc (.cells #[.slice ac P.cells.length cc,.slice at' P.threads.length ct] 25)).alloc (.cells #[.slice none 0 0,.slice none 0 0] 37)):=((Below.refl _ w).alloc (Nat.le_refl _) _).alloc (by simp) _
 have r0:=row_old (o:=.cells #[.slice none 0 0,.slice none 0 0] 37) (row_new w (.cells #[.slice ac P.cells.length cc,.slice at' P.threads.length ct] 25))
 have r1:=row_new' (w:=w.alloc (.cells #[.slice ac P.cells.length cc,.slice at' P.threads.length ct] 25)) (o:=.cells #[.slice none 0 0,.slice none 0 0] 37) (g:=w.heap.size+1) (by simp)
 have z0:((w.alloc (.cells #[.slice ac P.cells.length cc,.slice at' P.threads.length ct] 25)).alloc (.cells #[.slice none 0 0,.slice none 0 0] 37)).heap.size=w.heap.size+2:=by simp
 generalize (w.alloc (.cells #[.slice ac P.cells.length cc,.slice at' P.threads.length ct] 25)).alloc (.cells #[.slice none 0 0,.slice none 0 0] 37)=X at *
 refine(la_new _ _ P X ((H.out.below b0).more (by omega)) (.iface ty va) (cell_below b0 h10 HE.out) ⟨_,_,rfl⟩ (by omega) hn).mono ?_
 rintro e V ⟨hv,bV⟩
 have zV:=bV.size
 have BV:=hid (b0.trans (bV.mono (by omega)))
 have RV:=hid (row_below r0 bV (by omega))
 have RH:=hid (row_below r1 bV (by omega))
 have y0:=row_cell RH.out 0
 have y1:=row_cell RH.out 1
 have yf:∀j,V.frozen? ⟨w.heap.size+1,j,none⟩=false:=fun j=>row_free RH.out j
 have ly:=row_lt RH.out
 rcases hv with⟨hno,rfl⟩|⟨hok,C,us,ve,rfl,hB,hla⟩
 case inl=>
  have HN:=hid hno
  clear hno b0 r0 r1 z0 bV
  go_wp2
  have r4:=row2 (u1:=.slice none 0 0) (u2:=.slice none 0 0) RH.out
  have c0:=row_cell r4 0
  have c1:=row_cell r4 1
  simp only[List.getElem?_toArray,List.getElem?_cons_zero,List.getElem?_cons_succ] at c0 c1
  refine bodyPost_ret (v:=.tuple #[.agg #[.slice none 0 0,.slice none 0 0],.iface ty va]) (by simp[results,Tryz.results52,go_sem,c0,c1]) rfl ⟨.inl ⟨HN.out,rfl⟩,?_⟩
  exact(BV.out.setCell (p:=⟨w.heap.size+1,0,none⟩) (by show w.heap.size≤w.heap.size+1;omega) _).setCell (p:=⟨w.heap.size+1,1,none⟩) (by show w.heap.size≤w.heap.size+1;omega) _
 case inr=>
  have HOK:=hid hok
  have HL:=hid hla
  have hXB:X.heap.size=C.B:=hB.symm
  have hCB:w.heap.size+2=C.B:=by omega
  have p1:=row_cell RV.out 1
  have lp:=row_lt RV.out
  clear hok hla b0 r0 r1 z0 bV hB
  obtain⟨Inv,mu,hg,hi0⟩:=HG.out HOK.out.ok
  have HSC:=hid (show Sl V C.B 1 (.slice sa l.length sc) l.length (l.map (.int .i64)) from(HS.out.below BV.out).more (by omega))
  have HGG:=hid hg
  have HII:=hid hi0
  clear hg hi0 HS
  go_wp2_with fail
  refine(la_drive HL.out HGG.out HII.out _ l HSC.out hl full).mono ?_
  rintro e U ⟨M',ov,vv,rfl,hro,ho,hv,hb⟩
  obtain⟨ao,co,rfl,-⟩:=ho.form2
  obtain⟨ae,ce,rfl,-⟩:=hv.form2
  have r1:=row_below RH.out hb (by omega)
  have x0:=row_cell r1 0
  have x1:=row_cell r1 1
  have xf:∀j,U.frozen? ⟨w.heap.size+1,j,none⟩=false:=fun j=>row_free r1 j
  have lx:=row_lt r1
  have HB1:=hid (BV.out.trans (hb.mono (by omega)))
  have HO:=hid (OwnF.base ho (show w.heap.size≤C.B by omega))
  have HV:=hid (OwnF.base hv (show w.heap.size≤C.B by omega))
  have R1:=hid r1
  have HRO:=hid hro
  clear ho hv hb r1 hro y0 y1 yf p1 HL HSC HGG HII
  obtain⟨eo,heo⟩:∃eo,eo=obsOf P:=⟨_,rfl⟩
  obtain⟨ee,hee⟩:∃ee,ee=M'.W.evs:=⟨_,rfl⟩
  rw[←heo] at HO ⊢
  rw[←hee] at HV ⊢
  have HEE:=hid (And.intro heo hee)
  clear heo hee
  go_wp2
  have r4:=row2 (u1:=.slice ao eo.length co) (u2:=.slice ae ee.length ce) R1.out
  have c0:=row_cell r4 0
  have c1:=row_cell r4 1
  simp only[List.getElem?_toArray,List.getElem?_cons_zero,List.getElem?_cons_succ] at c0 c1
  refine bodyPost_ret (v:=.tuple #[.agg #[.slice ao eo.length co,.slice ae ee.length ce],.nilIface]) (by simp[results,Tryz.results52,go_sem,c0,c1]) rfl ⟨.inr ⟨HOK.out,M',_,_,rfl,HRO.out,?_,?_⟩,?_⟩
  ·rw [←HEE.out.1];exact OwnF.box2 HO.out R1.out (by decide)
  ·rw [←HEE.out.2];exact OwnF.box2 HV.out R1.out (by decide)
  ·exact (HB1.out.setCell (p:=⟨w.heap.size+1,0,none⟩) (by show w.heap.size≤w.heap.size+1;omega) _).setCell (p:=⟨w.heap.size+1,1,none⟩) (by show w.heap.size≤w.heap.size+1;omega) _
theorem la_Run (vc vt:Value) (P:Pg) (w:World) (h:PgIs w w.heap.size vc vt P) (ev:Value) (hev:w.cell? ⟨2,0,none⟩=some ev) (hne:∃t v,ev=.iface t v) (h10:2 < w.heap.size) (hn:P.threads.length≤1000)
  (sv:Value) (l:List Int) (hs:Sl w w.heap.size 1 sv l.length (l.map (.int .i64))) (hl:l.length≤300) (hG:Going P):
  Calls Tryz.prog 26 #[.agg #[vc,vt],sv] w (RunRet P l false ev w):=by
 obtain⟨ac,cc,rfl,mc⟩:=h.cells.ex
 obtain⟨at',ct,rfl,mt⟩:=h.thr.ex
 obtain⟨sa,sc,rfl,-⟩:=hs.ex
 obtain⟨ty,va,rfl⟩:=hne
 have H:=hid h
 have HE:=hid hev
 have HS:=hid hs
 have HG:=hid hG
 clear h hev hs hG
 go_enter Tryz.func26,Tryz.ntmps26
 go_wp2_with fail
 have b0:Below w.heap.size w ((w.alloc (.cells #[.slice ac P.cells.length cc,.slice at' P.threads.length ct] 25)).alloc (.cells #[.slice none 0 0,.slice none 0 0] 37)):=((Below.refl _ w).alloc (Nat.le_refl _) _).alloc (by simp) _
 have r1:=row_new' (w:=w.alloc (.cells #[.slice ac P.cells.length cc,.slice at' P.threads.length ct] 25)) (o:=.cells #[.slice none 0 0,.slice none 0 0] 37) (g:=w.heap.size+1) (by simp)
 have z0:((w.alloc (.cells #[.slice ac P.cells.length cc,.slice at' P.threads.length ct] 25)).alloc (.cells #[.slice none 0 0,.slice none 0 0] 37)).heap.size=w.heap.size+2:=by simp
 generalize (w.alloc (.cells #[.slice ac P.cells.length cc,.slice at' P.threads.length ct] 25)).alloc (.cells #[.slice none 0 0,.slice none 0 0] 37)=X at *
 refine(la_run _ _ P X ((H.out.below b0).more (by omega)) (.iface ty va) (cell_below b0 h10 HE.out) ⟨_,_,rfl⟩ (by omega) hn _ l ((HS.out.below b0).more (by omega)) hl false HG.out).mono ?_
 rintro e U ⟨hv,bV⟩
 have zV:=bV.size
 have BV:=hid (b0.trans (bV.mono (by omega)))
 have RH:=hid (row_below r1 bV (by omega))
 have y0:=row_cell RH.out 0
 have y1:=row_cell RH.out 1
 have yf:∀j,U.frozen? ⟨w.heap.size+1,j,none⟩=false:=fun j=>row_free RH.out j
 have ly:=row_lt RH.out
 have hwX:w.heap.size≤X.heap.size:=by omega
 rcases hv with⟨hno,rfl⟩|⟨hok,M',ov,vv,rfl,hro,ho,hv⟩
 ·have HN:=hid hno
  clear hno r1 z0 b0 bV
  go_wp2
  have r4:=row2 (u1:=.slice none 0 0) (u2:=.slice none 0 0) RH.out
  have c0:=row_cell r4 0
  have c1:=row_cell r4 1
  simp only[List.getElem?_toArray,List.getElem?_cons_zero,List.getElem?_cons_succ] at c0 c1
  refine bodyPost_ret (v:=.tuple #[.agg #[.slice none 0 0,.slice none 0 0],.iface ty va]) (by simp[results,Tryz.results26,go_sem,c0,c1]) rfl ⟨.inl ⟨HN.out,rfl⟩,?_⟩
  exact(BV.out.setCell (p:=⟨w.heap.size+1,0,none⟩) (by show w.heap.size≤w.heap.size+1;omega) _).setCell (p:=⟨w.heap.size+1,1,none⟩) (by show w.heap.size≤w.heap.size+1;omega) _
 ·obtain ⟨ao,co,rfl,-⟩:=ho.form2
  obtain⟨ae,ce,rfl,-⟩:=hv.form2
  have HOK:=hid hok
  have HO:=hid (OwnF.base ho hwX)
  have HV:=hid (OwnF.base hv hwX)
  have HRO:=hid hro
  clear hok ho hv hro r1 z0 b0 bV
  obtain⟨eo,heo⟩:∃eo,eo=obsOf P:=⟨_,rfl⟩
  obtain⟨ee,hee⟩:∃ee,ee=M'.W.evs:=⟨_,rfl⟩
  rw[←heo] at HO ⊢
  rw[←hee] at HV ⊢
  have HEE:=hid (And.intro heo hee)
  clear heo hee
  go_wp2
  have r4:=row2 (u1:=.slice ao eo.length co) (u2:=.slice ae ee.length ce) RH.out
  have c0:=row_cell r4 0
  have c1:=row_cell r4 1
  simp only[List.getElem?_toArray,List.getElem?_cons_zero,List.getElem?_cons_succ] at c0 c1
  refine bodyPost_ret (v:=.tuple #[.agg #[.slice ao eo.length co,.slice ae ee.length ce],.nilIface]) (by simp[results,Tryz.results26,go_sem,c0,c1]) rfl ⟨.inr ⟨HOK.out,M',_,_,rfl,HRO.out,?_,?_⟩,?_⟩
  ·rw [←HEE.out.1];exact OwnF.box2 HO.out RH.out (by decide)
  ·rw [←HEE.out.2];exact OwnF.box2 HV.out RH.out (by decide)
  ·exact (BV.out.setCell (p:=⟨w.heap.size+1,0,none⟩) (by show w.heap.size≤w.heap.size+1;omega) _).setCell (p:=⟨w.heap.size+1,1,none⟩) (by show w.heap.size≤w.heap.size+1;omega) _
end
section
attribute [local irreducible] wpL
section
variable {w:World} {C:LC} {ve:Value} {P:Pg} {M:LM} {us:List (Value×Value)}
theorem la_CellsV (h:LaAt w C ve us P M):
  Calls Tryz.prog 17 #[.pointer (some ⟨C.bM,0,none⟩)] w fun e w'=>∃v',e=.returned v'∧OwnF intC 3 1 w' w.heap.size v' (M.cs.map (·.val))∧Below w.heap.size w w':=by
 obtain⟨gC,cc,hce⟩:=h.ceForm
 have d1:=row_cell h.row 1
 have lM:=row_lt h.row
 have hn4:=h.ok.cells
 have hcl:=h.clen
 simp only[List.getElem?_toArray,List.getElem?_cons_zero,List.getElem?_cons_succ,hce] at d1
 have H:=hid h
 have HCL:=hid hcl
 clear h hcl
 go_enter Tryz.func17,Tryz.ntmps17
 go_wp2_with (at_make;refine wpList_makeF (f:=intC) (e:=3) (sz:=1) (B:=w.heap.size) rfl _ _ _ rfl _ 8 Tryz.underlying22 infoI rfl rfl (by first|omega|(simp <;> omega)) (by first|omega|(simp <;> omega)) (by first|omega|(simp <;> omega)) ?_;refine Stop.halt ?_)
 refine Stop.go ?_
 intro w1 o1 b1 z1
 have d1:=cell_below b1 lM d1
 have B1:=hid b1
 have O1:=hid o1
 have l1:C.bM < w1.heap.size:=by omega
 clear b1 o1
 go_wp2_with fail
 go_loopw [3,17] (fun v p wr=>∃(k:Nat),k≤P.cells.length∧p=.int .i64 k∧OwnF intC 3 1 wr w.heap.size v ((M.cs.map (·.val)).take k)∧Below w.heap.size w wr) (fun _ p _=>P.cells.length - (intOf p).toNat)
 case atStart=>exact⟨0,by omega,by go_num,O1.out,B1.out⟩
 case round=>
  obtain⟨k,hk,rfl,hO,hB⟩:=hrel
  obtain⟨ao,co,rfl,-⟩:=hO.form2
  have hlo:((M.cs.map (·.val)).take k).length=k:=by rw[List.length_take,List.length_map,HCL.out];omega
  rw[hlo] at hO ⊢
  have zB:=hB.size
  have HB:=hid hB
  have HO:=hid hO
  clear hB hO
  by_cases hlt:k < P.cells.length
  ·obtain ⟨hgC,c,hcm,y0,y1⟩:=(H.out.below HB.out).ceAt hce hlt
   have HC:=hid (show(M.cs.map (·.val))[k]?=some c.val from by rw[List.getElem?_map,hcm];rfl)
   clear hcm
   have r4:=row_new wr (.cells #[.int .i64 c.val,.int .i64 c.own] 90)
   have z4:wr.heap.size+1≤(wr.alloc (.cells #[.int .i64 c.val,.int .i64 c.own] 90)).heap.size:=by simp
   have O4:=hid (HO.out.alloc (.cells #[.int .i64 c.val,.int .i64 c.own] 90))
   have B4:=hid (HB.out.alloc zB (.cells #[.int .i64 c.val,.int .i64 c.own] 90))
   go_wp2_with (at_builtin;refine wpList_appF rfl _ _ _ rfl _ 8 Tryz.underlying22 infoI rfl O4.out c.val (by first|omega|(simp <;> omega)) (by rfl) (by rfl) (by first|rfl|simp) rfl (in_one _) (by first|omega|(simp only[List.length_append,List.length_cons,List.length_nil,List.length_replicate];omega)) (by first|omega|(simp only[List.length_append,List.length_cons,List.length_nil,List.length_replicate];omega)) ?_;refine Stop.halt ?_)
   refine Stop.go ?_
   intro g5 c5 w5 o5 G5
   have B5:=hid (B4.out.trans (G5.below B4.out.size fun q h=>(O4.out.lt q h).1))
   have O5:=hid o5
   clear o5 G5 r4 y0 y1
   go_wp2_with fail
   go_roundw
   case rel=>exact⟨k+1,by omega,by go_num,by rw[take_step HC.out];exact O5.out,B5.out⟩
   case measure=>simp[intOf];omega
  ·obtain rfl:k=P.cells.length:=by omega
   rw[List.take_of_length_le (by rw[List.length_map,HCL.out];exact Nat.le_refl _)] at HO
   go_wp2
   go_ret
   exact⟨_,rfl,HO.out,HB.out⟩
end
end
def gTh (t:Th):Nat:=40*t.tx+(if t.begun then 1 else 0)+4*t.act+(if t.adding then 2 else 0)+(if t.waits=0 then 0 else 1)
def stage:Nx→Nat
 |.none=>0
 |.abort=>1
 |.rel l=>1+l.length
 |.ans _=>1
def mTh (t:Th) (x:Nx):Nat:=8*(148 - gTh t)+stage x
def mus:List Th→List Nx→Nat
 |t::ts,x::xs=>mTh t x+mus ts xs
 |_,_=>0
def mu (M:LM):Nat:=mus M.W.ths M.nx
theorem mus_set:∀(a:List Th) (b:List Nx) (i:Nat) (t t':Th) (x x':Nx),a[i]?=some t→b[i]?=some x→mus (a.set i t') (b.set i x')+mTh t x=mus a b+mTh t' x'
 |[],b,i,t,t',x,x',h,_=>by simp at h
 |y::a,[],i,t,t',x,x',_,h=>by simp at h
 |y::a,z::b,0,t,t',x,x',h,h2=>by
  simp only[List.getElem?_cons_zero,Option.some.injEq] at h h2
  subst h;subst h2
  simp[mus];omega
 |y::a,z::b,i+1,t,t',x,x',h,h2=>by
  have:=mus_set a b i t t' x x' (by simpa using h) (by simpa using h2)
  simp only[List.set_cons_succ,mus]
  omega
def tot (P:Pg):Nat:=1187*P.threads.length
theorem mus_zero:∀n:Nat,mus (List.replicate n Th.zero) (List.replicate n .none)≤1184*n
 |0=>by simp[mus]
 |n+1=>by
  have:=mus_zero n
  simp only[List.replicate_succ,mus]
  have:mTh Th.zero .none=1184:=rfl
  omega
def NxOk (P:Pg) (i:Nat) (t:Th) (o:Wo):Nx→Prop
 |.none=>t.waits=0
 |.abort=>t.waits=7
 |.rel l=>t.waits=4∧l.length≤4∧∀k ∈ l,0≤k∧k < P.cells.length
 |.ans e=>t.waits=2∧∃a,(P.acts i t.tx)[t.act]?=some a∧a.kind≠4∧e=withTx (askOf t a) (idOf i t.tx)
structure WoOk (P:Pg) (k:Nat) (r:MB) (s:MI):Prop where
 rsrt:KSrt r
 ssrt:KSrt s
 rin:∀p ∈ r,0≤p.1∧p.1 < P.cells.length
 sin:∀p ∈ s,0≤p.1∧p.1 < P.cells.length
 val:∀p ∈ s,inB k p.2
structure LInv (P:Pg) (M:LM):Prop where
 ok:PgOk P
 thl:M.W.ths.length=P.threads.length
 wsl:M.ws.length=P.threads.length
 nxl:M.nx.length=P.threads.length
 csl:M.cs.length=P.cells.length
 th:∀(i:Nat) (t:Th),M.W.ths[i]?=some t→ThOk P i t∧inB M.W.evs.length t.read
 nx:∀(i:Nat) (t:Th) (x:Nx) (o:Wo),M.W.ths[i]?=some t→M.nx[i]?=some x→M.ws[i]?=some o→NxOk P i t o x∧(t.begun=true→o≠none)
 wo:∀(i:Nat) (r:MB) (s:MI),M.ws[i]?=some (some (r,s))→WoOk P M.W.evs.length r s
 ce:∀c ∈ M.cs,inB M.W.evs.length c.val
 ev:M.W.evs.length+mu M≤tot P
theorem WoOk.more {P:Pg} {k k':Nat} {r:MB} {s:MI} (h:WoOk P k r s) (hk:k≤k'):WoOk P k' r s:=⟨h.rsrt,h.ssrt,h.rin,h.sin,fun p hp=>(h.val p hp).more hk⟩
theorem LInv.turn {P:Pg} {M:LM} (h:LInv P M) {i:Nat} {t t':Th} {x x':Nx} {o o':Wo} {cs':List Ce} {es:List Ev} (ht:M.W.ths[i]?=some t) (hx:M.nx[i]?=some x) (ho:M.ws[i]?=some o)
  (h1:ThOk P i t') (h2:inB (M.W.evs++es).length t'.read) (h3:NxOk P i t' o' x') (h3':t'.begun=true→o'≠none) (h4:∀r s,o'=some (r,s)→WoOk P (M.W.evs++es).length r s)
  (h5:cs'.length=M.cs.length) (h6:∀c' ∈ cs',inB (M.W.evs++es).length c'.val) (hm:mTh t' x' < mTh t x) (he:es.length≤1):
  LInv P ⟨⟨M.W.ths.set i t',M.W.evs++es⟩,cs',M.ws.set i o',M.nx.set i x'⟩∧mu ⟨⟨M.W.ths.set i t',M.W.evs++es⟩,cs',M.ws.set i o',M.nx.set i x'⟩ < mu M:=by
 have hmu:=mus_set M.W.ths M.nx i t t' x x' ht hx
 have hlt:mus (M.W.ths.set i t') (M.nx.set i x')+1≤mus M.W.ths M.nx:=by omega
 have hlen:M.W.evs.length≤(M.W.evs++es).length:=by simp
 refine⟨⟨h.ok,by simpa using h.thl,by simpa using h.wsl,by simpa using h.nxl,h5.trans h.csl,fun j u hu=>?_,fun j u y p hu hy hp=>?_,fun j r s hj=>?_,h6,?_⟩,by unfold mu;show mus (M.W.ths.set i t') (M.nx.set i x') < _;omega⟩
 ·rcases get_set hu with⟨rfl,rfl⟩|⟨-,hu⟩
  ·exact ⟨h1,h2⟩
  ·exact ⟨(h.th j u hu).1,(h.th j u hu).2.more hlen⟩
 ·rcases get_set hu with⟨rfl,rfl⟩|⟨hne,hu⟩
  ·rcases get_set hy with⟨-,rfl⟩|⟨hne,-⟩
   ·rcases get_set hp with⟨-,rfl⟩|⟨hne,-⟩
    ·exact ⟨h3,h3'⟩
    ·exact absurd rfl hne
   ·exact absurd rfl hne
  ·simp only[List.getElem?_set_ne hne] at hy hp
   exact h.nx j u y p hu hy hp
 ·rcases get_set hj with⟨rfl,hr⟩|⟨-,hj⟩
  ·exact h4 r s hr.symm
  ·exact (h.wo j r s hj).more hlen
 ·have:=h.ev
  unfold mu at this ⊢
  show(M.W.evs++es).length+mus (M.W.ths.set i t') (M.nx.set i x')≤_
  rw[List.length_append]
  omega
inductive Stp (P:Pg) (M:LM) (i:Nat) (t:Th):LM→Prop
 |begin (hw:t.waits=0) (hb:t.begun=false) (hx:M.nx[i]?=some .none):
   Stp P M i t ⟨M.W.put i ({t with begun:=true},withTx {ev0 1 with thread:=i} (idOf i t.tx)),M.cs,M.ws.set i (some ([],[])),M.nx.set i .none⟩
 |call (a:Ac) (hw:t.waits=0) (hb:t.begun=true) (hx:M.nx[i]?=some .none) (ha:(P.acts i t.tx)[t.act]?=some a) (hk:a.kind≠4):
   Stp P M i t ⟨M.W.put i ({t with waits:=2},withTx (askOf t a) (idOf i t.tx)),M.cs,M.ws,M.nx.set i (.ans (withTx (askOf t a) (idOf i t.tx)))⟩
 |cancel (a:Ac) (hw:t.waits=0) (hb:t.begun=true) (hx:M.nx[i]?=some .none) (ha:(P.acts i t.tx)[t.act]?=some a) (hk:a.kind=4):
   Stp P M i t ⟨M.W.put i ({t with waits:=7},withTx (ev0 7) (idOf i t.tx)),M.cs,M.ws,M.nx.set i .abort⟩
 |try_ (r:MB) (s:MI) (hw:t.waits=0) (hb:t.begun=true) (hx:M.nx[i]?=some .none) (ha:(P.acts i t.tx)[t.act]?=none) (hs:M.ws[i]?=some (some (r,s))):
   Stp P M i t ⟨M.W.put i ({t with waits:=4},withTx (ev0 4) (idOf i t.tx)),M.cs,M.ws,M.nx.set i (.rel (r.map (·.1)))⟩
 |wrote (a:Ac) (r:MB) (s:MI) (hw:t.waits=2) (hb:t.begun=true) (hx:M.nx[i]?=some (.ans (withTx (askOf t a) (idOf i t.tx)))) (ha:(P.acts i t.tx)[t.act]?=some a) (hk:isWr t a) (hs:M.ws[i]?=some (some (r,s))) (ht:taken i t (ceAt M.cs a.cell)=false):
   Stp P M i t ⟨M.W.put i (wrTh t,withTx {ev0 3 with ret:=1} (idOf i t.tx)),M.cs.set a.cell.toNat ⟨wrVal t a,idOf i t.tx⟩,M.ws.set i (some (upd a.cell () r,if (fnd a.cell s).isSome then s else upd a.cell (ceAt M.cs a.cell).val s)),M.nx.set i .none⟩
 |read (a:Ac) (r:MB) (s:MI) (hw:t.waits=2) (hb:t.begun=true) (hx:M.nx[i]?=some (.ans (withTx (askOf t a) (idOf i t.tx)))) (ha:(P.acts i t.tx)[t.act]?=some a) (hk:isRd t a) (hs:M.ws[i]?=some (some (r,s))) (ht:taken i t (ceAt M.cs a.cell)=false):
   Stp P M i t ⟨M.W.put i (rdTh t a (ceAt M.cs a.cell).val,withTx {ev0 3 with ret:=3,val:=(ceAt M.cs a.cell).val} (idOf i t.tx)),M.cs.set a.cell.toNat ⟨(ceAt M.cs a.cell).val,idOf i t.tx⟩,M.ws.set i (some (upd a.cell () r,s)),M.nx.set i .none⟩
 |refused (a:Ac) (r:MB) (s:MI) (hw:t.waits=2) (hb:t.begun=true) (hx:M.nx[i]?=some (.ans (withTx (askOf t a) (idOf i t.tx)))) (ha:(P.acts i t.tx)[t.act]?=some a) (hk:a.kind≠4) (hs:M.ws[i]?=some (some (r,s))) (ht:taken i t (ceAt M.cs a.cell)=true):
   Stp P M i t ⟨M.W.put i (endTh t,withTx (ev0 6) (idOf i t.tx)),offCs r s M.cs,M.ws,M.nx.set i .none⟩
 |abort (r:MB) (s:MI) (hw:t.waits=7) (hb:t.begun=true) (hx:M.nx[i]?=some .abort) (hs:M.ws[i]?=some (some (r,s))):
   Stp P M i t ⟨M.W.put i (endTh t,withTx (ev0 6) (idOf i t.tx)),offCs r s M.cs,M.ws,M.nx.set i .none⟩
 |let_ (k:Int) (l:List Int) (hw:t.waits=4) (hb:t.begun=true) (hx:M.nx[i]?=some (.rel (k::l))):
   Stp P M i t ⟨M.W,M.cs.set k.toNat ⟨(ceAt M.cs k).val,0⟩,M.ws,M.nx.set i (.rel l)⟩
 |commit (hw:t.waits=4) (hb:t.begun=true) (hx:M.nx[i]?=some (.rel [])):
   Stp P M i t ⟨M.W.put i (endTh t,withTx (ev0 5) (idOf i t.tx)),M.cs,M.ws,M.nx.set i .none⟩
section
variable {P:Pg} {M:LM}
theorem LInv.kinds (h:LInv P M) {i:Nat} (hi:i < P.threads.length) {t:Th} (hd:thDone P i t=false) (htk:ThOk P i t) {a:Ac} (ha:(P.acts i t.tx)[t.act]?=some a) (hk:a.kind≠4):(a.kind=1∧a.val=0∨a.kind=2∨a.kind=3)∧0≤a.cell∧a.cell < P.cells.length∧-1000≤a.val∧a.val≤1000:=by
 have htx:=tx_lt h.ok hi htk hd
 rcases h.ok.at hi htx ha with⟨hk',-⟩|h
 ·exact absurd hk' hk
 ·exact h
theorem LInv.ceVal (h:LInv P M) (k:Int):inB M.W.evs.length (ceAt M.cs k).val:=by
 unfold ceAt
 cases hc:M.cs[k.toNat]? with
 |none=>simp[inB,VB];omega
 |some c=>exact h.ce c (List.mem_of_getElem? hc)
theorem stp_of (h:LInv P M) {i:Nat} (hi:i < P.threads.length) {t:Th} (ht:M.W.ths[i]?=some t) (hdn:wDone P M.W i=false):Stp P M i t (stepIn P M i):=by
 have hd:thDone P i t=false:=by rw[←wDone_th ht];exact hdn
 obtain⟨htk,htr⟩:=h.th i t ht
 obtain⟨x,hx⟩:∃x,M.nx[i]?=some x:=⟨_,List.getElem?_eq_getElem (by rw[h.nxl];exact hi)⟩
 obtain⟨o,ho⟩:∃o,M.ws[i]?=some o:=⟨_,List.getElem?_eq_getElem (by rw[h.wsl];exact hi)⟩
 obtain⟨hnx,hob⟩:=h.nx i t x o ht hx ho
 have hws:t.begun=true→∃r s,M.ws[i]?=some (some (r,s)):=fun hb=>by
  cases o with
  |none=>exact absurd rfl (hob hb)
  |some p=>exact⟨p.1,p.2,ho⟩
 unfold stepIn
 rw[ht,hx]
 simp only
 cases x with
 |none=>
  have hw:t.waits=0:=hnx
  have hnn:¬(thDone P i t=true∨t.waits≠0):=by simp[hd,hw]
  by_cases hb:t.begun=false
  ·have e1:ownEv P i t={ev0 1 with thread:=i}:=by simp[ownEv,hb]
   have hn:nextOf P i t=some ({t with begun:=true},withTx {ev0 1 with thread:=i} (idOf i t.tx)):=by
    simp only[nextOf,e1]
    rw[if_neg hnn,if_pos hb]
   have e2:∀r,reactOf r (withTx {ev0 1 with thread:=(i:Int)} (idOf i t.tx))=.none:=fun r=>by simp[reactOf,withTx,ev0]
   have e3:(withTx {ev0 1 with thread:=(i:Int)} (idOf i t.tx)).kind=1:=rfl
   simp only[doStep,ownStep,hn,e2,e3,if_true]
   exact .begin hw hb hx
  ·have hb':t.begun=true:=by simpa using hb
   have hn:∀E,ownEv P i t=E→nextOf P i t=some ({t with waits:=(withTx E (idOf i t.tx)).kind},withTx E (idOf i t.tx)):=fun E e1=>by
    simp only[nextOf,e1]
    rw[if_neg hnn,if_neg hb]
   cases ha:(P.acts i t.tx)[t.act]? with
   |none=>
    have e1:ownEv P i t=ev0 4:=by simp[ownEv,hb',ha]
    have e2:∀r,reactOf r (withTx (ev0 4) (idOf i t.tx))=.rel (r.map (·.1)):=fun r=>by simp[reactOf,withTx,ev0]
    have e3:(withTx (ev0 4) (idOf i t.tx)).kind=4:=rfl
    simp only[doStep,ownStep,hn _ e1,e2,e3]
    rw[if_neg (by decide)]
    obtain⟨r,s,hrs⟩:=hws hb'
    have e4:woR M.ws[i]?=r:=by rw[hrs];rfl
    rw[e4]
    exact .try_ r s hw hb' hx ha hrs
   |some a=>
    by_cases hk:a.kind=4
    ·have e1:ownEv P i t=ev0 7:=by simp[ownEv,hb',ha,hk]
     have e2:∀r,reactOf r (withTx (ev0 7) (idOf i t.tx))=.abort:=fun r=>by simp[reactOf,withTx,ev0]
     have e3:(withTx (ev0 7) (idOf i t.tx)).kind=7:=rfl
     simp only[doStep,ownStep,hn _ e1,e2,e3]
     rw[if_neg (by decide)]
     exact .cancel a hw hb' hx ha hk
    ·have e1:ownEv P i t=askOf t a:=by simp[ownEv,hb',ha,hk]
     have ek:(askOf t a).kind=2:=by unfold askOf;split <;> (first|rfl|(split <;> rfl))
     have e3:(withTx (askOf t a) (idOf i t.tx)).kind=2:=ek
     have e2:∀r,reactOf r (withTx (askOf t a) (idOf i t.tx))=.ans (withTx (askOf t a) (idOf i t.tx)):=fun r=>by simp[reactOf,e3]
     simp only[doStep,ownStep,hn _ e1,e2,e3]
     rw[if_neg (by decide)]
     exact .call a hw hb' hx ha hk
 |abort=>
  have hw:t.waits=7:=hnx
  have hb:=htk.begun (by omega)
  obtain⟨r,s,hrs⟩:=hws hb
  have e1:woR M.ws[i]?=r:=by rw[hrs];rfl
  have e2:woS M.ws[i]?=s:=by rw[hrs];rfl
  have:ansOf P i t 0 true=some (endTh t,withTx (ev0 6) (idOf i t.tx)):=by simp[ansOf,hd,hw,endTh]
  rw[e1,e2]
  simp only[doStep,abortStep,this,Wst.putO]
  exact .abort r s hw hb hx hrs
 |rel l=>
  obtain⟨hw,hl,hlk⟩:t.waits=4∧l.length≤4∧∀k ∈ l,0≤k∧k < P.cells.length:=hnx
  have hb:=htk.begun (by omega)
  cases l with
  |nil=>
   have:ansOf P i t 0 false=some (endTh t,withTx (ev0 5) (idOf i t.tx)):=by simp[ansOf,hd,hw,endTh]
   simp only[doStep,relStep,this,Wst.putO]
   exact .commit hw hb hx
  |cons k l=>exact .let_ k l hw hb hx
 |ans e=>
  obtain⟨hw,a,ha,hk4,rfl⟩:=hnx
  have hb:=htk.begun (by omega)
  obtain⟨r,s,hrs⟩:=hws hb
  have e1:woR M.ws[i]?=r:=by rw[hrs];rfl
  have e2:woS M.ws[i]?=s:=by rw[hrs];rfl
  rw[e1,e2]
  obtain⟨hkk,hc0,hc1,hv0,hv1⟩:=h.kinds hi hd htk ha hk4
  have hobj:(withTx (askOf t a) (idOf i t.tx)).obj=a.cell:=by
   show(askOf t a).obj=a.cell
   unfold askOf;split <;> (first|rfl|(split <;> rfl))
  simp only[doStep,ansStep,hobj]
  cases htn:taken i t (ceAt M.cs a.cell) with
  |true=>
   have:ansOf P i t 0 true=some (endTh t,withTx (ev0 6) (idOf i t.tx)):=by simp[ansOf,hd,hw,endTh]
   simp only[if_true,abortStep,this,Wst.putO]
   exact .refused a r s hw hb hx ha hk4 hrs htn
  |false=>
   simp only[Bool.false_eq_true,if_false]
   by_cases hwr:isWr t a
   ·have hop:(withTx (askOf t a) (idOf i t.tx)).op=2:=by
     show(askOf t a).op=2
     unfold askOf
     rcases hwr with h1|⟨h1,h2⟩
     ·rw [if_pos h1]
     ·rw [if_neg (by omega),if_pos ⟨h1,h2⟩]
    have hval:(withTx (askOf t a) (idOf i t.tx)).val=wrVal t a:=by
     show(askOf t a).val=wrVal t a
     unfold askOf wrVal
     rcases hwr with h1|⟨h1,h2⟩
     ·rw [if_pos h1,if_pos h1]
     ·rw [if_neg (by omega),if_pos ⟨h1,h2⟩,if_neg (by omega)]
    have han:∀v,ansOf P i t v false=some (wrTh t,withTx {ev0 3 with ret:=1} (idOf i t.tx)):=fun v=>by
     have hnr:¬(a.kind=1∨a.kind=3∧t.adding=false):=by
      rintro(h1|⟨h1,h2⟩)
      ·rcases hwr with h3|⟨h3,-⟩ <;> omega
      ·rcases hwr with h3|⟨-,h3⟩
       ·omega
       ·rw [h2] at h3;cases h3
     simp only[ansOf,hd,hw,ha,wrTh]
     simp[hnr]
    rw[if_pos hop,han,hval]
    exact .wrote a r s hw hb hx ha hwr hrs htn
   ·have hrd:isRd t a:=by
     unfold isWr at hwr
     unfold isRd
     rcases hkk with⟨h1,-⟩|h1|h1
     ·exact .inl h1
     ·exact absurd (.inl h1) hwr
     ·refine .inr ⟨h1,?_⟩
      cases had:t.adding with
      |false=>rfl
      |true=>exact absurd (.inr ⟨h1,had⟩) hwr
    have hop:(withTx (askOf t a) (idOf i t.tx)).op≠2:=by
     show(askOf t a).op≠2
     unfold askOf
     unfold isWr at hwr
     rw[if_neg fun h1=>hwr (.inl h1),if_neg fun h1=>hwr (.inr h1)]
     show(1:Int)≠2
     decide
    have han:∀v,within9 v=true→within9 (v+a.val)=true→ansOf P i t v false=some (rdTh t a v,withTx {ev0 3 with ret:=3,val:=v} (idOf i t.tx)):=fun v h1 h2=>by
     have hr':a.kind=1∨a.kind=3∧t.adding=false:=hrd
     simp only[ansOf,hd,hw,ha,rdTh]
     simp only[Bool.false_eq_true,false_or,if_false,if_pos hr',h1,h2,Bool.true_eq_false,and_false,or_self]
     by_cases h3:a.kind=3 <;> simp[h3]
    have hT:tot P≤4748:=by unfold tot;have:=h.ok.threads.2;omega
    have hev:=h.ev
    have within:∀v,inB M.W.evs.length v→within9 v=true∧within9 (v+a.val)=true:=fun v hv=>by
     unfold inB VB at hv
     unfold within9
     simp only[Bool.and_eq_true,decide_eq_true_eq]
     omega
    rw[if_neg hop]
    have hv:inB M.W.evs.length (ceAt M.cs a.cell).val:=h.ceVal a.cell
    simp only[han _ (within _ hv).1 (within _ hv).2,Wst.putO]
    exact .read a r s hw hb hx ha hrd hrs htn
end
