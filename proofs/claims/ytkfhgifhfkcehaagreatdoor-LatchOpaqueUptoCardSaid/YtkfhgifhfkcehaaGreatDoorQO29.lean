/- Parts of the proof; the first: The engine latch: Step, Done, History, Cells. Conditions: those of each theorem, as typed. -/
import Derived.Test.YtkfhgifhfkcehaaGreatDoorQO28
import Derived.Test.YtkfhgifhfkcehaaGreatDoorQO13
set_option linter.unusedVariables false
set_option linter.unusedSimpArgs false
set_option linter.unusedSectionVars false
set_option maxRecDepth 100000
set_option maxHeartbeats 4000000
namespace Go.Proofs.YtkfhgifhfkcehaaGreatDoor
open Go.Maps Go.RowKit
section
attribute [local irreducible] xF
def stepIn (P:Pg) (M:LM) (i:Nat):LM:=match M.W.ths[i]?,M.nx[i]? with
 |some t,some x=>let y:=doStep P M i t x (woR M.ws[i]?) (woS M.ws[i]?);{y.1 with nx:=y.1.nx.set i y.2}
 |_,_=>M
def yk (P:Pg) (M:LM) (i:Int):LM:=if xW P M.W i then M else stepIn P M i.toNat
structure CanStep (P:Pg) (M:LM):Prop where
 evs:M.W.evs.length<=100000
 ces:∀c ∈ M.cs,-999999000<=c.val/\c.val<=999999000
 nxt:∀(i:Nat) (t:Th) (x:Nx),M.W.ths[i]?=some t->M.nx[i]?=some x->match x with
  |.none=>t.begun=true->∃r s,M.ws[i]?=some (some (r,s))
  |.abort=>∃r s,M.ws[i]?=some (some (r,s))/\WoCan P r s
  |.rel l=>l.length<=4/\∀k ∈ l,0<=k/\k < P.cells.length
  |.ans e=>∃(r:MB) (s:MI) (k:Nat),M.ws[i]?=some (some (r,s))/\e.obj=k/\k < P.cells.length/\WoCan P r s/\(-999999000<=e.val/\e.val<=999999000)/\t.begun=true
section
variable {w w':World} {C:LC} {ve:Value} {P:Pg} {M:LM} {us:List (Value×Value)}
theorem qV.thsLen (h:qV w C ve us P M):M.W.ths.length=P.threads.length:=let ⟨_,h1,_⟩:=h.dr;h1.walk.ths.len
theorem yS.next {i:Nat} {M':LM} {e:Ending} (h:yS C P M' .nilFunc w e w'):LaNext C P i (M',.none) w e w':=by
 obtain⟨rfl,hb,ve',us',hl⟩:=h;exact⟨_,ve',us',rfl,hb,hl,rfl⟩
theorem d_step (h:qV w C ve us P M) (hc:CanStep P M) (i:Nat) (hi:i < P.threads.length) (hd:xW P M.W i=false):
  Calls Tryz.prog 36 #[.pointer (some ⟨C.bD,0,none⟩),.int .i64 i] w (yS C P (stepIn P M i) (.bool true) w):=by
 obtain⟨t,ht⟩:∃t,M.W.ths[i]?=some t:=⟨_,List.getElem?_eq_getElem (by rw[h.thsLen];exact hi)⟩
 obtain⟨v,x,hv,hx,hn⟩:=h.nxAt hi;have hst:stepIn P M i={(doStep P M i t x (woR M.ws[i]?) (woS M.ws[i]?)).1 with nx:=(doStep P M i t x (woR M.ws[i]?) (woS M.ws[i]?)).1.nx.set i (doStep P M i t x (woR M.ws[i]?) (woS M.ws[i]?)).2}:=by
  unfold stepIn;rw[ht,hx]
 rw[hst];have hcx:=hc.nxt i t x ht hx;have hdn:qP P i t=false:=by rw[←wDone_th ht];exact hd
 cases x with
 |none=>
  obtain rfl:v=.nilFunc:=hn;exact d_stepGO h i hi hd hv fun w1 p1 p2 hb hg=>la_goOn (h.below hb) i hi ht hc.evs hcx hg
 |abort=>
  obtain⟨p1,p2,rfl,h1⟩:=id hn;obtain⟨r,s,hws,hcn⟩:=hcx;have e1:woR M.ws[i]?=r:=by rw[hws];rfl
  have e2:woS M.ws[i]?=s:=by rw[hws];rfl
  rw[e1,e2];exact d_stepXX h i hi hd hv (enters_of Tryz.func105 (by kernel_rfl) rfl) fun w1 hb=>(la_abort1 (h.below hb) i hi ht hc.evs hws hcn (h1.below hb)).mono fun e w2 he=>yS.next he
 |rel l=>
  cases l with
  |nil=>
   obtain⟨p1,p2,rfl,h1⟩:=id hn;exact d_stepXX h i hi hd hv (enters_of Tryz.func107 (by kernel_rfl) rfl) fun w1 hb=>(la_rel1 (h.below hb) i hi ht hc.evs (h1.below hb)).mono fun e w2 he=>yS.next he
  |cons k l=>
   obtain⟨p1,p2,p3,rfl,h1,h3⟩:=id hn;exact d_stepXX h i hi hd hv (enters_of Tryz.func108 (by kernel_rfl) rfl) fun w1 hb=>la_rel2 (t:=t) (h.below hb) i hi k l hcx.1 hcx.2 (h1.below hb) (h3.below hb)
 |ans e=>
  obtain⟨p1,p2,p3,rfl,h1,h3,-⟩:=id hn;obtain⟨r,s,k,hws,hk,hkn,hcn,hev,hbg⟩:=hcx;have e1:woR M.ws[i]?=r:=by rw[hws];rfl
  have e2:woS M.ws[i]?=s:=by rw[hws];rfl
  rw[e1,e2];obtain⟨ek,ex,eh,ej,eo,ey,ev,er⟩:=e;simp only at hk;subst hk;exact d_stepXX h i hi hd hv (enters_of Tryz.func64 (by kernel_rfl) rfl) fun w1 hb=>(la_ans1 (h.below hb) i hi ht hdn hbg hc.evs hws hcn k ek ex eh eo ey ev er hkn hev hc.ces (h1.below hb) (qj h3 hb (qg h3))).mono fun e w2 he=>yS.next he
theorem d_stepNo (h:qV w C ve us P M) (i:Int) (hd:xW P M.W i=true):
  Calls Tryz.prog 36 #[.pointer (some ⟨C.bD,0,none⟩),.int .i64 i] w fun e w'=>e=.returned (.bool false)/\w'=w.drew:=by
 have hdr:=h.drRow;have d2:=qd hdr 2;have lD:=qg hdr;obtain⟨vs,hdr2,-,-⟩:=h.dr;have hwd:=qh (wk_done hdr2.walk i);rw[hd] at hwd;clear h hdr hdr2;go_enter Tryz.func36,Tryz.ntmps36;go_wp2_with fail;refine(hwd.o).mono ?_;rintro e w1 ⟨rfl,rfl⟩;go_wp2;go_ret;exact⟨rfl,rfl⟩
theorem la_step (h:qV w C ve us P M) (hc:CanStep P M) (i:Int):
  Calls Tryz.prog 10 #[.pointer (some ⟨C.bM,0,none⟩),.int .i64 i] w (yS C P (yk P M i) (.bool !xW P M.W i) w):=by
 have hin:Calls Tryz.prog 36 #[.pointer (some ⟨C.bD,0,none⟩),.int .i64 i] w (yS C P (yk P M i) (.bool !xW P M.W i) w):=by
  cases hd:xW P M.W i with
  |true=>
   have:yk P M i=M:=by unfold yk;rw[hd];rfl
   rw[this];refine(d_stepNo h i hd).mono ?_;rintro e w1 ⟨rfl,rfl⟩;exact⟨rfl,(Below.refl _ _).drew,ve,us,h.below (Below.refl _ _).drew⟩
  |false=>
   obtain⟨k,rfl,hk⟩:=wDone_in h.thsLen hd;have:yk P M k=stepIn P M k:=by unfold yk;rw[hd];rfl
   rw[this];exact d_step h hc k hk hd
 have d0:=qd h.row 0;have lM:=qg h.row;have HI:=qh hin;clear hin h;generalize yk P M i=y at *;generalize (!xW P M.W i)=b at *;go_enter Tryz.func10,Tryz.ntmps10;go_wp2_with fail;refine(HI.o).mono ?_;rintro e w1 ⟨rfl,hb,ve',us',hla⟩;have HB:=qh hb;have HL:=qh hla;clear hb hla d0 HI;go_wp2;go_ret;exact⟨rfl,HB.o,ve',us',HL.o⟩
theorem la_done (h:qV w C ve us P M):Calls Tryz.prog 11 #[.pointer (some ⟨C.bM,0,none⟩)] w fun e w'=>e=.returned (.bool (za P M.W))/\Below w.heap.size w w':=by
 have d0:=qd h.row 0;have lM:=qg h.row;obtain⟨vs,hdr2,-,-⟩:=h.dr;have HI:=qh (d_done hdr2);clear h hdr2;generalize za P M.W=b at *;go_enter Tryz.func11,Tryz.ntmps11;go_wp2_with fail;refine(HI.o).mono ?_;rintro e w1 ⟨rfl,hb⟩;have HB:=qh hb;clear hb d0 HI;go_wp2;go_ret;exact⟨rfl,HB.o⟩
theorem la_history (h:qV w C ve us P M) (hl:M.W.evs.length<=100000):Calls Tryz.prog 12 #[.pointer (some ⟨C.bM,0,none⟩)] w (HistRet (qZ P) M.W.evs w):=by
 have d0:=qd h.row 0;have lM:=qg h.row;obtain⟨vs,hdr2,-,-⟩:=h.dr;have b0:Below w.heap.size w (w.alloc (.cells #[.slice none 0 0,.slice none 0 0] 37)):=(Below.refl _ w).alloc (Nat.le_refl _) _;have r0:=qu w (.cells #[.slice none 0 0,.slice none 0 0] 37);have z0:(w.alloc (.cells #[.slice none 0 0,.slice none 0 0] 37)).heap.size=w.heap.size+1:=by simp
 have HI:=qh (d_history (hdr2.below b0) hl);have B0:=qh b0;have R0:=qh r0;have Z0:=qh z0;clear h hdr2 b0 r0 z0;generalize qZ P=os at *;generalize M.W.evs=es at *;go_enter Tryz.func12,Tryz.ntmps12;go_wp2_with fail;refine(HI.o).mono ?_;clear HI;generalize w.alloc (.cells #[.slice none 0 0,.slice none 0 0] 37)=X at *;rintro e w1 ⟨ov,vv,rfl,ho,hv,hb⟩;obtain⟨ao,co,rfl,-⟩:=ho.form2;obtain⟨ae,ce,rfl,-⟩:=hv.form2;have zX:=Z0.o;have r1:=qj R0.o hb (by omega);have y0:=qd r1 0;have y1:=qd r1 1;have yf:∀j,w1.frozen? ⟨w.heap.size,j,none⟩=false:=fun j=>qq r1 j;have l1:=qg r1;have HB:=qh (B0.o.trans (hb.mono (by omega)));have HO:=qh (qp.base ho (show w.heap.size<=X.heap.size by omega));have HV:=qh (qp.base hv (show w.heap.size<=X.heap.size by omega));have R1:=qh r1;clear hb ho hv r1 zX d0 B0 R0 Z0;go_wp2;have r4:=row2 (u1:=.slice ao os.length co) (u2:=.slice ae es.length ce) R1.o;have c0:=qd r4 0;have c1:=qd r4 1;simp only[List.getElem?_toArray,List.getElem?_cons_zero,List.getElem?_cons_succ] at c0 c1;refine bodyPost_ret (v:=.agg #[.slice ao os.length co,.slice ae es.length ce]) (by simp[results,Tryz.results12,go_sem,c0,c1]) rfl ⟨_,_,rfl,?_,?_,?_⟩
 ·exact qp.box2 HO.o R1.o (by decide)
 ·exact qp.box2 HV.o R1.o (by decide)
 ·exact (HB.o.setCell (p:=⟨w.heap.size,0,none⟩) (Nat.le_refl _) _).setCell (p:=⟨w.heap.size,1,none⟩) (Nat.le_refl _) _
end
end
section
attribute [local irreducible] xF
theorem infoWk:(Tryz.prog.info? 135).map (fun i=>(i.zero,i.size,i.bytes))=some (some (.agg #[.map none,.map none]),2,16):=by kernel_rfl
theorem infoC:(Tryz.prog.info? 90).map (fun i=>(i.zero,i.size,i.bytes))=some (some (.agg #[.int .i64 0,.int .i64 0]),2,16):=by kernel_rfl
theorem ce_one (c:Ce):∀u ∈ c.cells,u.oneCell'=true:=by intro u hu;simp[Ce.cells] at hu;rcases hu with rfl|rfl <;> rfl
section
variable {w w':World} {ve:Value} {P:Pg}
def Mn (t:TypeId):Prop:=t=90\/t=85
theorem qT.kn {B bW gT:Nat} {vc vt:Value} {S:yq} (h:qT w B bW gT vc vt ve P S) (hk:Kd Mn w w'):qT w' B bW gT vc vt ve P S:=
 ⟨hk _ _ _ _ h.row (by unfold Mn;decide),h.hB,qp.kd h.cells hk (by unfold Mn;decide),h.thr.kd hk (by unfold Mn;decide) (by unfold Mn;decide) (by unfold Mn;decide),qp.kd h.ths hk (by unfold Mn;decide),qp.kd h.evs hk (by unfold Mn;decide),h.ok,h.tok⟩
theorem DrAt.kn {B bD bW gT gN:Nat} {vc vt pc pt rf:Value} {S:yq} {nx:List Value} (h:DrAt w B bD bW gT gN vc vt ve pc pt rf P S nx) (hk:Kd Mn w w'):DrAt w' B bD bW gT gN vc vt ve pc pt rf P S nx:=
 ⟨hk _ _ _ _ h.row (by unfold Mn;decide),h.hB,h.walk.kn hk,qp.kd h.pcells hk (by unfold Mn;decide),h.pthr.kd hk (by unfold Mn;decide) (by unfold Mn;decide) (by unfold Mn;decide),qp.kd h.next hk (by unfold Mn;decide)⟩
def xm (P:Pg):LM:=⟨⟨List.replicate P.threads.length Th.zero,[]⟩,P.cells.map fun c=>⟨c,0⟩,List.replicate P.threads.length none,List.replicate P.threads.length .none⟩
def NewRet (P:Pg) (ev:Value) (w:World) (e:Ending) (w':World):Prop:=
 (¬xS P/\e=.returned (.tuple #[.pointer none,ev])\/xS P/\∃C us ve,e=.returned (.tuple #[.pointer (some ⟨C.bM,0,none⟩),.nilIface])/\C.B=w.heap.size/\qV w' C ve us P (xm P))/\Below w.heap.size w w'
theorem la_new (vc vt:Value) (P:Pg) (w:World) (h:PgIs w w.heap.size vc vt P) (ev:Value) (hev:w.cell? ⟨2,0,none⟩=some ev) (hne:∃t v,ev=.iface t v) (h10:2 < w.heap.size) (hn:P.threads.length<=1000):
  Calls Tryz.prog 9 #[.agg #[vc,vt]] w (NewRet P ev w):=by
 obtain⟨ac,cc,rfl,mc⟩:=h.cells.ex;obtain⟨at',ct,rfl,mt⟩:=h.thr.ex;obtain⟨ty,va,rfl⟩:=hne;have H:=qh h;have HE:=qh hev;clear h hev;go_enter Tryz.func9,Tryz.ntmps9;go_wp2_with (at_make;refine wpList_makeN (f:=moC) (e:=135) (sz:=2) (B:=w.heap.size) rfl _ _ _ rfl _ 16 Tryz.underlying81 infoWk rfl rfl (by first|omega|(simp <;> omega)) (by first|omega|(simp <;> omega)) (by first|omega|(simp <;> omega)) (.map none,.map none) rfl rfl (by decide) ?_;refine qW.halt ?_)
 refine qW.go ?_;intro W1 o1 b1 z1;have b1:Below w.heap.size w W1:=((Below.refl _ w).alloc (Nat.le_refl _) _).trans (b1.mono (by omega));have z1:w.heap.size+1 < W1.heap.size:=by omega
 have r1:W1.heap[w.heap.size]?=some (.cells #[.slice ac P.cells.length cc,.slice at' P.threads.length ct] 25 (0,0)):=qj (qu w _) ‹Below (w.heap.size+1) _ W1› (by omega);have O1:=qh o1;have B1:=qh b1;have R1:=qh r1;have lb1:w.heap.size < W1.heap.size:=by omega
 have y0:=qd r1 0;have y1:=qd r1 1;clear o1 b1 r1;go_wp2_with fail;have bX:Below W1.heap.size W1 (W1.alloc (.cells #[.pointer none,.slice none 0 0,.slice (some ⟨w.heap.size+1,0,none⟩) P.threads.length P.threads.length] 85)):=(Below.refl _ W1).alloc (Nat.le_refl _) _;have rX:=qu W1 (.cells #[.pointer none,.slice none 0 0,.slice (some ⟨w.heap.size+1,0,none⟩) P.threads.length P.threads.length] 85);have zX:(W1.alloc (.cells #[.pointer none,.slice none 0 0,.slice (some ⟨w.heap.size+1,0,none⟩) P.threads.length P.threads.length] 85)).heap.size=W1.heap.size+1:=by simp
 generalize W1.alloc (.cells #[.pointer none,.slice none 0 0,.slice (some ⟨w.heap.size+1,0,none⟩) P.threads.length P.threads.length] 85)=X at *;have bwX:Below w.heap.size w X:=B1.o.trans (bX.mono (by omega));refine(p_dStart _ _ P X ((H.o.below bwX).more (by omega)) (.func 35) #[.pointer (some ⟨W1.heap.size,0,none⟩)] #[] (.iface ty va) (qx bwX h10 HE.o) ⟨_,_,rfl⟩ (by omega)).mono ?_;rintro e V ⟨hv,bV⟩;have zV:=bV.size;have BV:=qh (bwX.trans (bV.mono (by omega)));have RV:=qh (qj rX bV (by omega));have RP:=qh (qj (qj R1.o bX lb1) bV (by omega));have OV:=qh (qp.below (qp.below O1.o bX) bV);rcases hv with⟨hno,rfl⟩|⟨hok,bD,bW,gT,gN,vc,vt,pc,pt,rfl,hdr⟩
 case inl=>
  have HN:=qh hno;clear hno y0 y1 bX rX zX bwX bV;go_wp2
  go_ret2
  exact⟨.inl ⟨HN.o,rfl⟩,BV.o⟩
 case inr=>
  have HOK:=qh hok;have HDR:=qh hdr;have hn4:=hok.nums;have hXB:X.heap.size<=bD:=hdr.hB;have hwX:w.heap.size<=X.heap.size:=by omega
  have m0:=qd RV.o 0;have mf:=qq RV.o 0;have lm:=qg RV.o;have p0:=qd RP.o 0;have lp:=qg RP.o;clear hok hdr y0 y1 bX rX zX bwX bV;go_wp2_with fail;have kY:Kd Mn V (V.setCell ⟨W1.heap.size,0,none⟩ (.pointer (some ⟨bD,0,none⟩))):=Kd.set RV.o (.inr rfl) _;have rY:=qA RV.o 0 (.pointer (some ⟨bD,0,none⟩));have bY:Below w.heap.size w (V.setCell ⟨W1.heap.size,0,none⟩ (.pointer (some ⟨bD,0,none⟩))):=BV.o.setCell (p:=⟨W1.heap.size,0,none⟩) (by show w.heap.size<=W1.heap.size;omega) _;have dY:=(HDR.o.base hwX).kn kY;have oY:=qp.kd OV.o kY (by unfold Mn;decide);generalize V.setCell ⟨W1.heap.size,0,none⟩ (.pointer (some ⟨bD,0,none⟩))=Y at *;have RY:=qh (show Y.heap[W1.heap.size]?=some (.cells #[.pointer (some ⟨bD,0,none⟩),.slice none 0 0,.slice (some ⟨w.heap.size+1,0,none⟩) P.threads.length P.threads.length] 85 (0,0)) from rY);have BY:=qh bY;have DY:=qh dY;have OY:=qh oY;obtain⟨cs0,hcs0⟩:∃cs0:List Ce,cs0=P.cells.map fun c=>⟨c,0⟩:=⟨_,rfl⟩
  have hcl:cs0.length=P.cells.length:=by rw[hcs0,List.length_map]
  have HCS:=qh hcs0;have hgW:w.heap.size+1 < W1.heap.size:=by omega
  clear kY rY bY dY oY HDR OV RV BV m0 mf p0 hcs0 R1 RP O1 B1
  go_loopw [32] (fun p wr=>∃(i:Nat) (cv:Value),i<=P.cells.length/\p=.int .i64 i/\Below w.heap.size w wr/\wr.heap[W1.heap.size]?=some (.cells #[.pointer (some ⟨bD,0,none⟩),cv,.slice (some ⟨w.heap.size+1,0,none⟩) P.threads.length P.threads.length] 85 (0,0))/\
   DrAt wr w.heap.size bD bW gT gN vc vt (.slice none 0 0) pc pt (.func (.func 35) #[.pointer (some ⟨W1.heap.size,0,none⟩)] #[]) P ⟨List.replicate P.threads.length Th.zero,[]⟩ (List.replicate P.threads.length .nilFunc)/\
   qp moC 135 2 wr w.heap.size (.slice (some ⟨w.heap.size+1,0,none⟩) P.threads.length P.threads.length) (List.replicate P.threads.length (.map none,.map none))/\qp Ce.cells 90 2 wr w.heap.size cv (cs0.take i)) (fun p _=>P.cells.length - (intOf p).toNat)
  case atStart=>exact⟨0,.slice none 0 0,by omega,by go_num,BY.o,RY.o,DY.o,OY.o,qp.nil _ _⟩
  case round=>
   obtain⟨i,cv,hi,rfl,hB,hr,hD,hO,hC⟩:=hrel;clear BY RY DY OY;obtain⟨ao,co,rfl,-⟩:=hC.form2;have hlo:(cs0.take i).length=i:=by rw[List.length_take];omega
   rw[hlo] at hC hr;have e1:=qd hr 1;have lr:=qg hr;have zB:=hB.size;have HB:=qh hB;have HR:=qh hr;have HD:=qh hD;have HO:=qh hO;have HC:=qh hC;clear hB hr hD hO hC;by_cases hlt:i < P.cells.length
   ·obtain ⟨b,off,c,rfl,hb,hc,hcc⟩:=H.o.cells.intAt hlt
    have hcc:=qx HB.o hb hcc;have hbz:b < wr.heap.size:=by omega
    have hoc:cs0[i]?=some ⟨c,0⟩:=by rw[HCS.o,List.getElem?_map,hc];rfl
    have HOC:=qh hoc;clear hoc hc;go_wp2_with (at_builtin;refine qS rfl _ _ _ rfl _ 16 Tryz.underlying83 infoC rfl HC.o ⟨c,0⟩ (by first|omega|(simp <;> omega)) (by rfl) (by rfl) (by first|rfl|simp) rfl (ce_one _) (by first|omega|(simp only[List.length_append,List.length_cons,List.length_nil,List.length_replicate];omega)) (by first|omega|(simp only[List.length_append,List.length_cons,List.length_nil,List.length_replicate];omega)) ?_;refine qW.halt ?_)
    refine qW.go ?_;intro g4 c4 w4 o4 G4;have kg:=Kd.grw HC.o G4;have b4:=HB.o.trans (G4.below zB fun q h=>(HC.o.lt q h).1);have q2:=kg _ _ _ _ HR.o (by decide);have f6:=qq q2 1;have l6:=qg q2;have e1:=qd q2 1;have B4:=qh b4;have Q2:=qh q2;have D4:=qh (HD.o.kn (kg.mono fun t h=>.inl h));have OW4:=qh (qp.kd HO.o kg (by decide));have O4:=qh o4;clear b4 q2 kg o4 G4 lr;go_wp2_with fail;go_roundw
    case rel=>
     have kS:Kd (fun t=>t=85) w4 (w4.setCell ⟨W1.heap.size,1,none⟩ (.slice (some ⟨g4,0,none⟩) (i+1) c4)):=Kd.set (T:=fun t=>t=85) Q2.o rfl _;refine⟨i+1,_,by omega,by go_num,B4.o.setCell (p:=⟨W1.heap.size,1,none⟩) (by show w.heap.size<=W1.heap.size;omega) _,qA Q2.o 1 _,D4.o.kn (kS.mono fun t h=>.inr h),qp.kd OW4.o kS (by decide),?_⟩;rw[take_step HOC.o];exact qp.kd O4.o kS (by decide)
    case measure=>simp[intOf];omega
   ·obtain rfl:i=P.cells.length:=by omega
    go_wp2
    go_ret2
    refine⟨.inr ⟨HOK.o,⟨w.heap.size,W1.heap.size,bD,bW,gT,gN,w.heap.size+1,vc,vt,pc,pt,.slice ao P.cells.length co,fun _ _=>False⟩,List.replicate P.threads.length (.map none,.map none),.slice none 0 0,rfl,rfl,HR.o,by show w.heap.size<=W1.heap.size;omega,⟨_,HD.o,by simp[xm],?_⟩,?_,by simp[xm],⟨HO.o,by simp[xm],?_,?_⟩,fun _ _ hf=>hf.elim⟩,HB.o⟩
    ·intro j v x hv hx
     have h1:v=.nilFunc:=List.eq_of_mem_replicate (List.mem_of_getElem? hv);have h2:x=.none:=List.eq_of_mem_replicate (List.mem_of_getElem? hx);rw[h2];exact h1
    ·have:=HC.o
     rwa [show cs0.take P.cells.length=P.cells.map (fun c=>⟨c,0⟩) from by rw[←hcl,List.take_length];exact HCS.o] at this
    ·intro j u o hu ho
     have h1:u=(.map none,.map none):=List.eq_of_mem_replicate (List.mem_of_getElem? hu);have h2:o=none:=List.eq_of_mem_replicate (List.mem_of_getElem? ho);rw[h2];exact h1
    ·intro j k u u' hu hu' _ b hb
     have h1:u=(.map none,.map none):=List.eq_of_mem_replicate (List.mem_of_getElem? hu);rw[h1] at hb;rcases hb with hb|hb <;> cases hb
end
end
section
attribute [local irreducible] xF
def qR (P:Pg) (M:LM) (l:List Int):LM:=l.foldl (yk P) M
theorem stepsTo_snoc (P:Pg) (M:LM) (l:List Int) (i:Int):qR P M (l++[i])=yk P (qR P M l) i:=by simp[qR]
theorem stepsTo_app (P:Pg) (M:LM) (l l2:List Int):qR P M (l++l2)=qR P (qR P M l) l2:=by simp[qR]
def roundOf (P:Pg) (M:LM):LM:=qR P M (upI P.threads.length)
structure Goes (P:Pg) (Inv:LM->Prop) (mu:LM->Nat):Prop where
 step:∀(M:LM) (i:Int),Inv M->Inv (yk P M i)
 can:∀M,Inv M->CanStep P M
 less:∀M,Inv M->za P M.W=false->mu (roundOf P M) < mu M
theorem Goes.steps {P:Pg} {Inv:LM->Prop} {mu:LM->Nat} (h:Goes P Inv mu):∀(l:List Int) (M:LM),Inv M->Inv (qR P M l)
 |[],M,hM=>hM
 |i::l,M,hM=>h.steps l _ (h.step M i hM)
def RunOf (P:Pg) (M:LM) (l:List Int) (full:Bool) (M':LM):Prop:=if full=true then ∃l2,M'=qR P M (l++l2)/\za P M'.W=true else M'=qR P M l
def RunPost (B:Nat) (P:Pg) (M:LM) (l:List Int) (full:Bool) (w:World) (e:Ending) (w':World):Prop:=
 ∃M' ov vv,e=.returned (.tuple #[.agg #[ov,vv],.nilIface])/\RunOf P M l full M'/\qp Ob.cells 96 2 w' B ov (qZ P)/\qp Ev.cells 53 8 w' B vv M'.W.evs/\Below B w w'
section
variable {w w':World} {C:LC} {ve:Value} {P:Pg} {M:LM} {us:List (Value×Value)} {Inv:LM->Prop} {mu:LM->Nat}
theorem la_drive (h:qV w C ve us P M) (hG:Goes P Inv mu) (hI:Inv M) (sv:Value) (l:List Int) (hs:Sl w C.B 1 sv l.length (l.map (.int .i64))) (hl:l.length<=300) (full:Bool):
  Calls Tryz.prog 87 #[.iface 28 (.pointer (some ⟨C.bM,0,none⟩)),.int .i64 P.threads.length,sv,.bool full] w (RunPost C.B P M l full w):=by
 obtain⟨sa,sc,rfl,-⟩:=hs.ex;have hn4:=h.ok.threads.2;have hBw:=h.size;have q1:decide ((l.length:Int) > 300)=false:=by simp;omega
 have b0:Below w.heap.size w (w.alloc (.cells #[.slice none 0 0,.slice none 0 0] 37)):=(Below.refl _ w).alloc (Nat.le_refl _) _;have r0:=qu w (.cells #[.slice none 0 0,.slice none 0 0] 37);have z0:(w.alloc (.cells #[.slice none 0 0,.slice none 0 0] 37)).heap.size=w.heap.size+1:=by simp
 have hX:=(h.below b0).frame (F':=fun k cs=>k=w.heap.size/\cs=#[.slice none 0 0,.slice none 0 0]) (by rintro k cs ⟨rfl,rfl⟩;exact r0);have hF:∃C':LC,C.B=C'.B/\C.bM=C'.bM/\C'.F=(fun k cs=>k=w.heap.size/\cs=#[.slice none 0 0,.slice none 0 0])/\qV (w.alloc (.cells #[.slice none 0 0,.slice none 0 0] 37)) C' ve us P M:=⟨{C with F:=fun k cs=>k=w.heap.size/\cs=#[.slice none 0 0,.slice none 0 0]},rfl,rfl,rfl,hX⟩
 have HS:=qh hs;have BX:=qh (b0.mono hBw);clear hX h hs b0 r0 z0;obtain⟨C',eB,eM,eF,hX⟩:=hF;rw[eB] at HS BX hBw ⊢;rw[eM];have HF:=qh eF;have HX:=qh hX;have HG:=qh hG;have HI:=qh hI;have hlC:P.threads.length < 1000:=by omega
 clear hG hI eB eM eF hX;go_enter Tryz.func87,Tryz.ntmps87;go_wp2_with fail;have zX:w.heap.size<=(w.alloc (.cells #[.slice none 0 0,.slice none 0 0] 37)).heap.size:=by simp
 generalize w.alloc (.cells #[.slice none 0 0,.slice none 0 0] 37)=X at *
 go_loopw [20] (fun p wr=>∃(i:Nat),i<=l.length/\p=.int .i64 i/\Below C'.B w wr/\w.heap.size<=wr.heap.size/\∃ve us,qV wr C' ve us P (qR P M (l.take i))) (fun p _=>l.length - (intOf p).toNat)
 case atStart=>exact⟨0,by omega,by go_num,BX.o,zX,ve,us,HX.o⟩
 case round=>
  obtain⟨i,hi,rfl,hB,hz,ve1,us1,hL⟩:=hrel;have HB:=qh hB;have HL:=qh hL;clear hB hL BX zX HX;have HIN:=qh (HG.o.steps (l.take i) M HI.o);by_cases hlt:i < l.length
  ·obtain ⟨b,off,c,rfl,hb,hc,hcc⟩:=(HS.o.below (w:=w) (w':=wr) HB.o:Sl wr C'.B 1 (.slice sa l.length sc) l.length (l.map (.int .i64))).intAt hlt
   have hbz:b < wr.heap.size:=by have:=HL.o.size;omega
   have HC:=qh hc;clear hc;go_wp2_with fail;refine(la_step HL.o (HG.o.can _ HIN.o) c).mono ?_;rintro e w1 ⟨rfl,hb1,ve2,us2,hl2⟩;have HB1:=qh (HB.o.trans hb1);have HL1:=qh hl2;have hz1:=hb1.size;clear hb1 hl2 hcc;go_wp2_with fail;go_roundw
   case rel=>exact⟨i+1,by omega,by go_num,HB1.o,by omega,ve2,us2,by rw[take_step HC.o,stepsTo_snoc];exact HL1.o⟩
   case measure=>simp[intOf];omega
  ·obtain rfl:i=l.length:=by omega
   rw[List.take_length] at HL HIN;clear HS;obtain⟨w5,rfl⟩:∃w5,w5=wr:=⟨_,rfl⟩
   go_wp2_with fail
   go_loopg [33] (mu (qR P M l)) (fun k _ wr=>∃l2 ve us,(full=false->l2=[])/\mu (qR P M (l++l2))<=k/\Below C'.B w wr/\w.heap.size<=wr.heap.size/\qV wr C' ve us P (qR P M (l++l2)))
   case atStart=>exact⟨[],ve1,us1,fun _=>rfl,by rw[List.append_nil];exact Nat.le_refl _,HB.o,hz,by rw[List.append_nil];exact HL.o⟩
   case round=>
    obtain⟨l2,ve3,us3,hfl,hk,hb,hz3,hl3⟩:=hrel;clear HB HL HIN;have HB:=qh hb;have HL:=qh hl3;have HK:=qh hk;have HFL:=qh hfl;have HIN:=qh (HG.o.steps (l++l2) M HI.o);clear hb hl3 hk hfl;cases full with
    |false=>
     obtain rfl:=HFL.o rfl;go_wp2_with fail;refine(la_history HL.o (HG.o.can _ HIN.o).evs).mono ?_;rintro e w1 ⟨ov,vv,rfl,ho,hv,hb1⟩;obtain⟨ao,co,rfl,-⟩:=ho.form2;obtain⟨ae,ce,rfl,-⟩:=hv.form2;have r0:=HL.o.fr w.heap.size #[.slice none 0 0,.slice none 0 0] (by rw[HF.o];exact⟨rfl,rfl⟩);have r1:=qj r0 hb1 (qg r0);have y0:=qd r1 0;have y1:=qd r1 1;have yf:∀j,w1.frozen? ⟨w.heap.size,j,none⟩=false:=fun j=>qq r1 j;have l1:=qg r1;have hBr:=HL.o.size;have HB1:=qh (HB.o.trans (hb1.mono hBr));have HO:=qh (qp.base ho hBr);have HV:=qh (qp.base hv hBr);have R1:=qh r1;have HRO:=qh (show RunOf P M l false (qR P M (l++[])) from by rw[List.append_nil];rfl);clear ho hv hb1 r0 r1 HL HB HIN HG;obtain⟨eo,heo⟩:∃eo,eo=qZ P:=⟨_,rfl⟩
     obtain⟨ee,hee⟩:∃ee,ee=(qR P M (l++[])).W.evs:=⟨_,rfl⟩
     rw[←heo] at HO ⊢;rw[←hee] at HV ⊢;have HE:=qh (And.intro heo hee);clear heo hee;go_wp2;have r4:=row2 (u1:=.slice ao eo.length co) (u2:=.slice ae ee.length ce) R1.o;have c0:=qd r4 0;have c1:=qd r4 1;simp only[List.getElem?_toArray,List.getElem?_cons_zero,List.getElem?_cons_succ] at c0 c1;refine bodyPost_ret (v:=.tuple #[.agg #[.slice ao eo.length co,.slice ae ee.length ce],.nilIface]) (by simp[results,Tryz.results87,go_sem,c0,c1]) rfl ⟨_,_,_,rfl,HRO.o,?_,?_,?_⟩
     ·rw [←HE.o.1];exact qp.box2 HO.o R1.o (by decide)
     ·rw [←HE.o.2];exact qp.box2 HV.o R1.o (by decide)
     ·exact (HB1.o.setCell (p:=⟨w.heap.size,0,none⟩) hBw _).setCell (p:=⟨w.heap.size,1,none⟩) hBw _
    |true=>
     go_wp2_with fail;refine(la_done HL.o).mono ?_;rintro e w6 ⟨rfl,hb6⟩;have hBr:=HL.o.size;have HL6:=qh (HL.o.below hb6);have HB6:=qh (HB.o.trans (hb6.mono hBr));have hz6:=hb6.size;clear HL HB hb6;cases hd:za P (qR P M (l++l2)).W with
     |true=>
      have HL:=qh HL6.o;have HB:=qh HB6.o;have HD:=qh hd;clear HL6 HB6 hd;go_wp2_with fail;refine(la_history HL.o (HG.o.can _ HIN.o).evs).mono ?_;rintro e w1 ⟨ov,vv,rfl,ho,hv,hb1⟩;obtain⟨ao,co,rfl,-⟩:=ho.form2;obtain⟨ae,ce,rfl,-⟩:=hv.form2;have r0:=HL.o.fr w.heap.size #[.slice none 0 0,.slice none 0 0] (by rw[HF.o];exact⟨rfl,rfl⟩);have r1:=qj r0 hb1 (qg r0);have y0:=qd r1 0;have y1:=qd r1 1;have yf:∀j,w1.frozen? ⟨w.heap.size,j,none⟩=false:=fun j=>qq r1 j;have l1:=qg r1;have hBr:=HL.o.size;have HB1:=qh (HB.o.trans (hb1.mono hBr));have HO:=qh (qp.base ho hBr);have HV:=qh (qp.base hv hBr);have R1:=qh r1;have HRO:=qh (show RunOf P M l true (qR P M (l++l2)) from⟨l2,rfl,HD.o⟩);clear ho hv hb1 r0 r1 HL HB HIN HG;obtain⟨eo,heo⟩:∃eo,eo=qZ P:=⟨_,rfl⟩
      obtain⟨ee,hee⟩:∃ee,ee=(qR P M (l++l2)).W.evs:=⟨_,rfl⟩
      rw[←heo] at HO ⊢;rw[←hee] at HV ⊢;have HE:=qh (And.intro heo hee);clear heo hee;go_wp2;have r4:=row2 (u1:=.slice ao eo.length co) (u2:=.slice ae ee.length ce) R1.o;have c0:=qd r4 0;have c1:=qd r4 1;simp only[List.getElem?_toArray,List.getElem?_cons_zero,List.getElem?_cons_succ] at c0 c1;refine bodyPost_ret (v:=.tuple #[.agg #[.slice ao eo.length co,.slice ae ee.length ce],.nilIface]) (by simp[results,Tryz.results87,go_sem,c0,c1]) rfl ⟨_,_,_,rfl,HRO.o,?_,?_,?_⟩
      ·rw [←HE.o.1];exact qp.box2 HO.o R1.o (by decide)
      ·rw [←HE.o.2];exact qp.box2 HV.o R1.o (by decide)
      ·exact (HB1.o.setCell (p:=⟨w.heap.size,0,none⟩) hBw _).setCell (p:=⟨w.heap.size,1,none⟩) hBw _
     |false=>
      have HD:=qh hd;clear hd;go_wp2_with fail;obtain⟨w7,rfl⟩:∃w7,w7=w6:=⟨_,rfl⟩
      go_loopw [35] (fun p wr=>∃(i:Nat),i<=P.threads.length/\p=.int .i64 i/\Below C'.B w wr/\w.heap.size<=wr.heap.size/\∃ve us,qV wr C' ve us P (qR P M (l++l2++upI i))) (fun p _=>P.threads.length - (intOf p).toNat)
      case atStart=>exact⟨0,by omega,by go_num,HB6.o,by omega,ve3,us3,by rw[show upI 0=[] from rfl,List.append_nil];exact HL6.o⟩
      case round=>
       obtain⟨i,hi,rfl,hb,hz,ve4,us4,hl4⟩:=hrel;have HB:=qh hb;have HL:=qh hl4;clear hb hl4 HL6 HB6 HIN;have HIN:=qh (HG.o.steps (l++l2++upI i) M HI.o);by_cases hlt:i < P.threads.length
       ·go_wp2_with fail
        refine(la_step HL.o (HG.o.can _ HIN.o) i).mono ?_;rintro e w1 ⟨rfl,hb1,ve2,us2,hl2⟩;have HB1:=qh (HB.o.trans hb1);have HL1:=qh hl2;have hz1:=hb1.size;clear hb1 hl2;go_wp2_with fail;go_roundw
        case rel=>exact⟨i+1,by omega,by go_num,HB1.o,by omega,ve2,us2,by rw[upI_succ,←List.append_assoc,stepsTo_snoc];exact HL1.o⟩
        case measure=>simp[intOf];omega
       ·obtain rfl:i=P.threads.length:=by omega
        go_wp2_with fail;have hless:mu (qR P M (l++(l2++upI P.threads.length))) < mu (qR P M (l++l2)):=by
         have:=HG.o.less _ (HG.o.steps (l++l2) M HI.o) HD.o;rw[←List.append_assoc,stepsTo_app];exact this
        go_roundg (mu (qR P M (l++(l2++upI P.threads.length))))
        case measure=>have:=HK.o;omega
        case rel=>exact⟨l2++upI P.threads.length,ve4,us4,(fun h=>by cases h),Nat.le_refl _,HB.o,hz,by rw[←List.append_assoc];exact HL.o⟩
end
end
section
attribute [local irreducible] xF
def RunRet (P:Pg) (l:List Int) (full:Bool) (ev:Value) (w:World) (e:Ending) (w':World):Prop:=
 (¬xS P/\e=.returned (.tuple #[.agg #[.slice none 0 0,.slice none 0 0],ev])\/xS P/\∃M' ov vv,e=.returned (.tuple #[.agg #[ov,vv],.nilIface])/\RunOf P (xm P) l full M'/\qp Ob.cells 96 2 w' w.heap.size ov (qZ P)/\qp Ev.cells 53 8 w' w.heap.size vv M'.W.evs)/\Below w.heap.size w w'
def Going (P:Pg):Prop:=PgOk P->∃(Inv:LM->Prop) (mu:LM->Nat),Goes P Inv mu/\Inv (xm P)
theorem la_run (vc vt:Value) (P:Pg) (w:World) (h:PgIs w w.heap.size vc vt P) (ev:Value) (hev:w.cell? ⟨2,0,none⟩=some ev) (hne:∃t v,ev=.iface t v) (h10:2 < w.heap.size) (hn:P.threads.length<=1000)
  (sv:Value) (l:List Int) (hs:Sl w w.heap.size 1 sv l.length (l.map (.int .i64))) (hl:l.length<=300) (full:Bool) (hG:Going P):
  Calls Tryz.prog 52 #[.agg #[vc,vt],sv,.bool full] w (RunRet P l full ev w):=by
 obtain⟨ac,cc,rfl,mc⟩:=h.cells.ex;obtain⟨at',ct,rfl,mt⟩:=h.thr.ex;obtain⟨sa,sc,rfl,-⟩:=hs.ex;obtain⟨ty,va,rfl⟩:=hne;have H:=qh h;have HE:=qh hev;have HS:=qh hs;have HG:=qh hG;clear h hev hs hG;go_enter Tryz.func52,Tryz.ntmps52;go_wp2_with fail;have b0:Below w.heap.size w ((w.alloc (.cells #[.slice ac P.cells.length cc,.slice at' P.threads.length ct] 25)).alloc (.cells #[.slice none 0 0,.slice none 0 0] 37)):=((Below.refl _ w).alloc (Nat.le_refl _) _).alloc (by simp) _;have r0:=qF (o:=.cells #[.slice none 0 0,.slice none 0 0] 37) (qu w (.cells #[.slice ac P.cells.length cc,.slice at' P.threads.length ct] 25));have r1:=qL (w:=w.alloc (.cells #[.slice ac P.cells.length cc,.slice at' P.threads.length ct] 25)) (o:=.cells #[.slice none 0 0,.slice none 0 0] 37) (g:=w.heap.size+1) (by simp);have z0:((w.alloc (.cells #[.slice ac P.cells.length cc,.slice at' P.threads.length ct] 25)).alloc (.cells #[.slice none 0 0,.slice none 0 0] 37)).heap.size=w.heap.size+2:=by simp
 generalize (w.alloc (.cells #[.slice ac P.cells.length cc,.slice at' P.threads.length ct] 25)).alloc (.cells #[.slice none 0 0,.slice none 0 0] 37)=X at *;refine(la_new _ _ P X ((H.o.below b0).more (by omega)) (.iface ty va) (qx b0 h10 HE.o) ⟨_,_,rfl⟩ (by omega) hn).mono ?_;rintro e V ⟨hv,bV⟩;have zV:=bV.size;have BV:=qh (b0.trans (bV.mono (by omega)));have RV:=qh (qj r0 bV (by omega));have RH:=qh (qj r1 bV (by omega));have y0:=qd RH.o 0;have y1:=qd RH.o 1;have yf:∀j,V.frozen? ⟨w.heap.size+1,j,none⟩=false:=fun j=>qq RH.o j;have ly:=qg RH.o;rcases hv with⟨hno,rfl⟩|⟨hok,C,us,ve,rfl,hB,hla⟩
 case inl=>
  have HN:=qh hno;clear hno b0 r0 r1 z0 bV;go_wp2;have r4:=row2 (u1:=.slice none 0 0) (u2:=.slice none 0 0) RH.o;have c0:=qd r4 0;have c1:=qd r4 1;simp only[List.getElem?_toArray,List.getElem?_cons_zero,List.getElem?_cons_succ] at c0 c1;refine bodyPost_ret (v:=.tuple #[.agg #[.slice none 0 0,.slice none 0 0],.iface ty va]) (by simp[results,Tryz.results52,go_sem,c0,c1]) rfl ⟨.inl ⟨HN.o,rfl⟩,?_⟩;exact(BV.o.setCell (p:=⟨w.heap.size+1,0,none⟩) (by show w.heap.size<=w.heap.size+1;omega) _).setCell (p:=⟨w.heap.size+1,1,none⟩) (by show w.heap.size<=w.heap.size+1;omega) _
 case inr=>
  have HOK:=qh hok;have HL:=qh hla;have hXB:X.heap.size=C.B:=hB.symm;have hCB:w.heap.size+2=C.B:=by omega
  have p1:=qd RV.o 1;have lp:=qg RV.o;clear hok hla b0 r0 r1 z0 bV hB;obtain⟨Inv,mu,hg,hi0⟩:=HG.o HOK.o.ok;have HSC:=qh (show Sl V C.B 1 (.slice sa l.length sc) l.length (l.map (.int .i64)) from(HS.o.below BV.o).more (by omega));have HGG:=qh hg;have HII:=qh hi0;clear hg hi0 HS;go_wp2_with fail;refine(la_drive HL.o HGG.o HII.o _ l HSC.o hl full).mono ?_;rintro e U ⟨M',ov,vv,rfl,hro,ho,hv,hb⟩;obtain⟨ao,co,rfl,-⟩:=ho.form2;obtain⟨ae,ce,rfl,-⟩:=hv.form2;have r1:=qj RH.o hb (by omega);have x0:=qd r1 0;have x1:=qd r1 1;have xf:∀j,U.frozen? ⟨w.heap.size+1,j,none⟩=false:=fun j=>qq r1 j;have lx:=qg r1;have HB1:=qh (BV.o.trans (hb.mono (by omega)));have HO:=qh (qp.base ho (show w.heap.size<=C.B by omega));have HV:=qh (qp.base hv (show w.heap.size<=C.B by omega));have R1:=qh r1;have HRO:=qh hro;clear ho hv hb r1 hro y0 y1 yf p1 HL HSC HGG HII;obtain⟨eo,heo⟩:∃eo,eo=qZ P:=⟨_,rfl⟩
  obtain⟨ee,hee⟩:∃ee,ee=M'.W.evs:=⟨_,rfl⟩
  rw[←heo] at HO ⊢;rw[←hee] at HV ⊢;have HEE:=qh (And.intro heo hee);clear heo hee;go_wp2;have r4:=row2 (u1:=.slice ao eo.length co) (u2:=.slice ae ee.length ce) R1.o;have c0:=qd r4 0;have c1:=qd r4 1;simp only[List.getElem?_toArray,List.getElem?_cons_zero,List.getElem?_cons_succ] at c0 c1;refine bodyPost_ret (v:=.tuple #[.agg #[.slice ao eo.length co,.slice ae ee.length ce],.nilIface]) (by simp[results,Tryz.results52,go_sem,c0,c1]) rfl ⟨.inr ⟨HOK.o,M',_,_,rfl,HRO.o,?_,?_⟩,?_⟩
  ·rw [←HEE.o.1];exact qp.box2 HO.o R1.o (by decide)
  ·rw [←HEE.o.2];exact qp.box2 HV.o R1.o (by decide)
  ·exact (HB1.o.setCell (p:=⟨w.heap.size+1,0,none⟩) (by show w.heap.size<=w.heap.size+1;omega) _).setCell (p:=⟨w.heap.size+1,1,none⟩) (by show w.heap.size<=w.heap.size+1;omega) _
theorem la_Run (vc vt:Value) (P:Pg) (w:World) (h:PgIs w w.heap.size vc vt P) (ev:Value) (hev:w.cell? ⟨2,0,none⟩=some ev) (hne:∃t v,ev=.iface t v) (h10:2 < w.heap.size) (hn:P.threads.length<=1000)
  (sv:Value) (l:List Int) (hs:Sl w w.heap.size 1 sv l.length (l.map (.int .i64))) (hl:l.length<=300) (hG:Going P):
  Calls Tryz.prog 26 #[.agg #[vc,vt],sv] w (RunRet P l false ev w):=by
 obtain⟨ac,cc,rfl,mc⟩:=h.cells.ex;obtain⟨at',ct,rfl,mt⟩:=h.thr.ex;obtain⟨sa,sc,rfl,-⟩:=hs.ex;obtain⟨ty,va,rfl⟩:=hne;have H:=qh h;have HE:=qh hev;have HS:=qh hs;have HG:=qh hG;clear h hev hs hG;go_enter Tryz.func26,Tryz.ntmps26;go_wp2_with fail;have b0:Below w.heap.size w ((w.alloc (.cells #[.slice ac P.cells.length cc,.slice at' P.threads.length ct] 25)).alloc (.cells #[.slice none 0 0,.slice none 0 0] 37)):=((Below.refl _ w).alloc (Nat.le_refl _) _).alloc (by simp) _;have r1:=qL (w:=w.alloc (.cells #[.slice ac P.cells.length cc,.slice at' P.threads.length ct] 25)) (o:=.cells #[.slice none 0 0,.slice none 0 0] 37) (g:=w.heap.size+1) (by simp);have z0:((w.alloc (.cells #[.slice ac P.cells.length cc,.slice at' P.threads.length ct] 25)).alloc (.cells #[.slice none 0 0,.slice none 0 0] 37)).heap.size=w.heap.size+2:=by simp
 generalize (w.alloc (.cells #[.slice ac P.cells.length cc,.slice at' P.threads.length ct] 25)).alloc (.cells #[.slice none 0 0,.slice none 0 0] 37)=X at *;refine(la_run _ _ P X ((H.o.below b0).more (by omega)) (.iface ty va) (qx b0 h10 HE.o) ⟨_,_,rfl⟩ (by omega) hn _ l ((HS.o.below b0).more (by omega)) hl false HG.o).mono ?_;rintro e U ⟨hv,bV⟩;have zV:=bV.size;have BV:=qh (b0.trans (bV.mono (by omega)));have RH:=qh (qj r1 bV (by omega));have y0:=qd RH.o 0;have y1:=qd RH.o 1;have yf:∀j,U.frozen? ⟨w.heap.size+1,j,none⟩=false:=fun j=>qq RH.o j;have ly:=qg RH.o;have hwX:w.heap.size<=X.heap.size:=by omega
 rcases hv with⟨hno,rfl⟩|⟨hok,M',ov,vv,rfl,hro,ho,hv⟩
 ·have HN:=qh hno
  clear hno r1 z0 b0 bV;go_wp2;have r4:=row2 (u1:=.slice none 0 0) (u2:=.slice none 0 0) RH.o;have c0:=qd r4 0;have c1:=qd r4 1;simp only[List.getElem?_toArray,List.getElem?_cons_zero,List.getElem?_cons_succ] at c0 c1;refine bodyPost_ret (v:=.tuple #[.agg #[.slice none 0 0,.slice none 0 0],.iface ty va]) (by simp[results,Tryz.results26,go_sem,c0,c1]) rfl ⟨.inl ⟨HN.o,rfl⟩,?_⟩;exact(BV.o.setCell (p:=⟨w.heap.size+1,0,none⟩) (by show w.heap.size<=w.heap.size+1;omega) _).setCell (p:=⟨w.heap.size+1,1,none⟩) (by show w.heap.size<=w.heap.size+1;omega) _
 ·obtain ⟨ao,co,rfl,-⟩:=ho.form2
  obtain⟨ae,ce,rfl,-⟩:=hv.form2;have HOK:=qh hok;have HO:=qh (qp.base ho hwX);have HV:=qh (qp.base hv hwX);have HRO:=qh hro;clear hok ho hv hro r1 z0 b0 bV;obtain⟨eo,heo⟩:∃eo,eo=qZ P:=⟨_,rfl⟩
  obtain⟨ee,hee⟩:∃ee,ee=M'.W.evs:=⟨_,rfl⟩
  rw[←heo] at HO ⊢;rw[←hee] at HV ⊢;have HEE:=qh (And.intro heo hee);clear heo hee;go_wp2;have r4:=row2 (u1:=.slice ao eo.length co) (u2:=.slice ae ee.length ce) RH.o;have c0:=qd r4 0;have c1:=qd r4 1;simp only[List.getElem?_toArray,List.getElem?_cons_zero,List.getElem?_cons_succ] at c0 c1;refine bodyPost_ret (v:=.tuple #[.agg #[.slice ao eo.length co,.slice ae ee.length ce],.nilIface]) (by simp[results,Tryz.results26,go_sem,c0,c1]) rfl ⟨.inr ⟨HOK.o,M',_,_,rfl,HRO.o,?_,?_⟩,?_⟩
  ·rw [←HEE.o.1];exact qp.box2 HO.o RH.o (by decide)
  ·rw [←HEE.o.2];exact qp.box2 HV.o RH.o (by decide)
  ·exact (BV.o.setCell (p:=⟨w.heap.size+1,0,none⟩) (by show w.heap.size<=w.heap.size+1;omega) _).setCell (p:=⟨w.heap.size+1,1,none⟩) (by show w.heap.size<=w.heap.size+1;omega) _
theorem la_Full (vc vt:Value) (P:Pg) (w:World) (h:PgIs w w.heap.size vc vt P) (ev:Value) (hev:w.cell? ⟨2,0,none⟩=some ev) (hne:∃t v,ev=.iface t v) (h10:2 < w.heap.size) (hn:P.threads.length<=1000)
  (sv:Value) (l:List Int) (hs:Sl w w.heap.size 1 sv l.length (l.map (.int .i64))) (hl:l.length<=300) (hG:Going P):
  Calls Tryz.prog 27 #[.agg #[vc,vt],sv] w (RunRet P l true ev w):=by
 obtain⟨ac,cc,rfl,mc⟩:=h.cells.ex;obtain⟨at',ct,rfl,mt⟩:=h.thr.ex;obtain⟨sa,sc,rfl,-⟩:=hs.ex;obtain⟨ty,va,rfl⟩:=hne;have H:=qh h;have HE:=qh hev;have HS:=qh hs;have HG:=qh hG;clear h hev hs hG;go_enter Tryz.func27,Tryz.ntmps27;go_wp2_with fail;have b0:Below w.heap.size w ((w.alloc (.cells #[.slice ac P.cells.length cc,.slice at' P.threads.length ct] 25)).alloc (.cells #[.slice none 0 0,.slice none 0 0] 37)):=((Below.refl _ w).alloc (Nat.le_refl _) _).alloc (by simp) _;have r1:=qL (w:=w.alloc (.cells #[.slice ac P.cells.length cc,.slice at' P.threads.length ct] 25)) (o:=.cells #[.slice none 0 0,.slice none 0 0] 37) (g:=w.heap.size+1) (by simp);have z0:((w.alloc (.cells #[.slice ac P.cells.length cc,.slice at' P.threads.length ct] 25)).alloc (.cells #[.slice none 0 0,.slice none 0 0] 37)).heap.size=w.heap.size+2:=by simp
 generalize (w.alloc (.cells #[.slice ac P.cells.length cc,.slice at' P.threads.length ct] 25)).alloc (.cells #[.slice none 0 0,.slice none 0 0] 37)=X at *;refine(la_run _ _ P X ((H.o.below b0).more (by omega)) (.iface ty va) (qx b0 h10 HE.o) ⟨_,_,rfl⟩ (by omega) hn _ l ((HS.o.below b0).more (by omega)) hl true HG.o).mono ?_;rintro e U ⟨hv,bV⟩;have zV:=bV.size;have BV:=qh (b0.trans (bV.mono (by omega)));have RH:=qh (qj r1 bV (by omega));have y0:=qd RH.o 0;have y1:=qd RH.o 1;have yf:∀j,U.frozen? ⟨w.heap.size+1,j,none⟩=false:=fun j=>qq RH.o j;have ly:=qg RH.o;have hwX:w.heap.size<=X.heap.size:=by omega
 rcases hv with⟨hno,rfl⟩|⟨hok,M',ov,vv,rfl,hro,ho,hv⟩
 ·have HN:=qh hno
  clear hno r1 z0 b0 bV;go_wp2;have r4:=row2 (u1:=.slice none 0 0) (u2:=.slice none 0 0) RH.o;have c0:=qd r4 0;have c1:=qd r4 1;simp only[List.getElem?_toArray,List.getElem?_cons_zero,List.getElem?_cons_succ] at c0 c1;refine bodyPost_ret (v:=.tuple #[.agg #[.slice none 0 0,.slice none 0 0],.iface ty va]) (by simp[results,Tryz.results27,go_sem,c0,c1]) rfl ⟨.inl ⟨HN.o,rfl⟩,?_⟩;exact(BV.o.setCell (p:=⟨w.heap.size+1,0,none⟩) (by show w.heap.size<=w.heap.size+1;omega) _).setCell (p:=⟨w.heap.size+1,1,none⟩) (by show w.heap.size<=w.heap.size+1;omega) _
 ·obtain ⟨ao,co,rfl,-⟩:=ho.form2
  obtain⟨ae,ce,rfl,-⟩:=hv.form2;have HOK:=qh hok;have HO:=qh (qp.base ho hwX);have HV:=qh (qp.base hv hwX);have HRO:=qh hro;clear hok ho hv hro r1 z0 b0 bV;obtain⟨eo,heo⟩:∃eo,eo=qZ P:=⟨_,rfl⟩
  obtain⟨ee,hee⟩:∃ee,ee=M'.W.evs:=⟨_,rfl⟩
  rw[←heo] at HO ⊢;rw[←hee] at HV ⊢;have HEE:=qh (And.intro heo hee);clear heo hee;go_wp2;have r4:=row2 (u1:=.slice ao eo.length co) (u2:=.slice ae ee.length ce) RH.o;have c0:=qd r4 0;have c1:=qd r4 1;simp only[List.getElem?_toArray,List.getElem?_cons_zero,List.getElem?_cons_succ] at c0 c1;refine bodyPost_ret (v:=.tuple #[.agg #[.slice ao eo.length co,.slice ae ee.length ce],.nilIface]) (by simp[results,Tryz.results27,go_sem,c0,c1]) rfl ⟨.inr ⟨HOK.o,M',_,_,rfl,HRO.o,?_,?_⟩,?_⟩
  ·rw [←HEE.o.1];exact qp.box2 HO.o RH.o (by decide)
  ·rw [←HEE.o.2];exact qp.box2 HV.o RH.o (by decide)
  ·exact (BV.o.setCell (p:=⟨w.heap.size+1,0,none⟩) (by show w.heap.size<=w.heap.size+1;omega) _).setCell (p:=⟨w.heap.size+1,1,none⟩) (by show w.heap.size<=w.heap.size+1;omega) _
end
def gTh (t:Th):Nat:=40*t.tx+(if t.begun then 1 else 0)+4*t.act+(if t.adding then 2 else 0)+(if t.waits=0 then 0 else 1)
def stage:Nx->Nat
 |.none=>0
 |.abort=>1
 |.rel l=>1+l.length
 |.ans _=>1
def mTh (t:Th) (x:Nx):Nat:=8*(148 - gTh t)+stage x
def mus:List Th->List Nx->Nat
 |t::ts,x::xs=>mTh t x+mus ts xs
 |_,_=>0
def mu (M:LM):Nat:=mus M.W.ths M.nx
theorem mus_set:∀(a:List Th) (b:List Nx) (i:Nat) (t t':Th) (x x':Nx),a[i]?=some t->b[i]?=some x->mus (a.set i t') (b.set i x')+mTh t x=mus a b+mTh t' x'
 |[],b,i,t,t',x,x',h,_=>by simp at h
 |y::a,[],i,t,t',x,x',_,h=>by simp at h
 |y::a,z::b,0,t,t',x,x',h,h2=>by
  simp only[List.getElem?_cons_zero,Option.some.injEq] at h h2;subst h;subst h2;simp[mus];omega
 |y::a,z::b,i+1,t,t',x,x',h,h2=>by
  have:=mus_set a b i t t' x x' (by simpa using h) (by simpa using h2);simp only[List.set_cons_succ,mus];omega
def tot (P:Pg):Nat:=1187*P.threads.length
theorem mus_zero:∀n:Nat,mus (List.replicate n Th.zero) (List.replicate n .none)<=1184*n
 |0=>by simp[mus]
 |n+1=>by
  have:=mus_zero n;simp only[List.replicate_succ,mus];have:mTh Th.zero .none=1184:=rfl;omega
def NxOk (P:Pg) (i:Nat) (t:Th) (o:Wo):Nx->Prop
 |.none=>t.waits=0
 |.abort=>t.waits=7
 |.rel l=>t.waits=4/\l.length<=4/\∀k ∈ l,0<=k/\k < P.cells.length
 |.ans e=>t.waits=2/\∃a,(P.acts i t.tx)[t.act]?=some a/\a.kind≠4/\e=qC (qU t a) (qE i t.tx)
structure WoOk (P:Pg) (k:Nat) (r:MB) (s:MI):Prop where
 rsrt:KSrt r
 ssrt:KSrt s
 rin:∀p ∈ r,0<=p.1/\p.1 < P.cells.length
 sin:∀p ∈ s,0<=p.1/\p.1 < P.cells.length
 val:∀p ∈ s,inB k p.2
structure LInv (P:Pg) (M:LM):Prop where
 ok:PgOk P
 thl:M.W.ths.length=P.threads.length
 wsl:M.ws.length=P.threads.length
 nxl:M.nx.length=P.threads.length
 csl:M.cs.length=P.cells.length
 th:∀(i:Nat) (t:Th),M.W.ths[i]?=some t->ThOk P i t/\inB M.W.evs.length t.read
 nx:∀(i:Nat) (t:Th) (x:Nx) (o:Wo),M.W.ths[i]?=some t->M.nx[i]?=some x->M.ws[i]?=some o->NxOk P i t o x/\(t.begun=true->o≠none)
 wo:∀(i:Nat) (r:MB) (s:MI),M.ws[i]?=some (some (r,s))->WoOk P M.W.evs.length r s
 ce:∀c ∈ M.cs,inB M.W.evs.length c.val
 ev:M.W.evs.length+mu M<=tot P
theorem WoOk.more {P:Pg} {k k':Nat} {r:MB} {s:MI} (h:WoOk P k r s) (hk:k<=k'):WoOk P k' r s:=⟨h.rsrt,h.ssrt,h.rin,h.sin,fun p hp=>(h.val p hp).more hk⟩
theorem LInv.turn {P:Pg} {M:LM} (h:LInv P M) {i:Nat} {t t':Th} {x x':Nx} {o o':Wo} {cs':List Ce} {es:List Ev} (ht:M.W.ths[i]?=some t) (hx:M.nx[i]?=some x) (ho:M.ws[i]?=some o)
  (h1:ThOk P i t') (h2:inB (M.W.evs++es).length t'.read) (h3:NxOk P i t' o' x') (h3':t'.begun=true->o'≠none) (h4:∀r s,o'=some (r,s)->WoOk P (M.W.evs++es).length r s)
  (h5:cs'.length=M.cs.length) (h6:∀c' ∈ cs',inB (M.W.evs++es).length c'.val) (hm:mTh t' x' < mTh t x) (he:es.length<=1):
  LInv P ⟨⟨M.W.ths.set i t',M.W.evs++es⟩,cs',M.ws.set i o',M.nx.set i x'⟩/\mu ⟨⟨M.W.ths.set i t',M.W.evs++es⟩,cs',M.ws.set i o',M.nx.set i x'⟩ < mu M:=by
 have hmu:=mus_set M.W.ths M.nx i t t' x x' ht hx;have hlt:mus (M.W.ths.set i t') (M.nx.set i x')+1<=mus M.W.ths M.nx:=by omega
 have hlen:M.W.evs.length<=(M.W.evs++es).length:=by simp
 refine⟨⟨h.ok,by simpa using h.thl,by simpa using h.wsl,by simpa using h.nxl,h5.trans h.csl,fun j u hu=>?_,fun j u y p hu hy hp=>?_,fun j r s hj=>?_,h6,?_⟩,by unfold mu;show mus (M.W.ths.set i t') (M.nx.set i x') < _;omega⟩
 ·rcases xa hu with⟨rfl,rfl⟩|⟨-,hu⟩
  ·exact ⟨h1,h2⟩
  ·exact ⟨(h.th j u hu).1,(h.th j u hu).2.more hlen⟩
 ·rcases xa hu with⟨rfl,rfl⟩|⟨hne,hu⟩
  ·rcases xa hy with⟨-,rfl⟩|⟨hne,-⟩
   ·rcases xa hp with⟨-,rfl⟩|⟨hne,-⟩
    ·exact ⟨h3,h3'⟩
    ·exact absurd rfl hne
   ·exact absurd rfl hne
  ·simp only[List.getElem?_set_ne hne] at hy hp
   exact h.nx j u y p hu hy hp
 ·rcases xa hj with⟨rfl,hr⟩|⟨-,hj⟩
  ·exact h4 r s hr.symm
  ·exact (h.wo j r s hj).more hlen
 ·have:=h.ev
  unfold mu at this ⊢;show(M.W.evs++es).length+mus (M.W.ths.set i t') (M.nx.set i x')<=_;rw[List.length_append];omega
inductive Stp (P:Pg) (M:LM) (i:Nat) (t:Th):LM->Prop
 |begin (hw:t.waits=0) (hb:t.begun=false) (hx:M.nx[i]?=some .none):
   Stp P M i t ⟨M.W.put i ({t with begun:=true},qC {xD 1 with thread:=i} (qE i t.tx)),M.cs,M.ws.set i (some ([],[])),M.nx.set i .none⟩
 |call (a:Ac) (hw:t.waits=0) (hb:t.begun=true) (hx:M.nx[i]?=some .none) (ha:(P.acts i t.tx)[t.act]?=some a) (hk:a.kind≠4):
   Stp P M i t ⟨M.W.put i ({t with waits:=2},qC (qU t a) (qE i t.tx)),M.cs,M.ws,M.nx.set i (.ans (qC (qU t a) (qE i t.tx)))⟩
 |cancel (a:Ac) (hw:t.waits=0) (hb:t.begun=true) (hx:M.nx[i]?=some .none) (ha:(P.acts i t.tx)[t.act]?=some a) (hk:a.kind=4):
   Stp P M i t ⟨M.W.put i ({t with waits:=7},qC (xD 7) (qE i t.tx)),M.cs,M.ws,M.nx.set i .abort⟩
 |try_ (r:MB) (s:MI) (hw:t.waits=0) (hb:t.begun=true) (hx:M.nx[i]?=some .none) (ha:(P.acts i t.tx)[t.act]?=none) (hs:M.ws[i]?=some (some (r,s))):
   Stp P M i t ⟨M.W.put i ({t with waits:=4},qC (xD 4) (qE i t.tx)),M.cs,M.ws,M.nx.set i (.rel (r.map (·.1)))⟩
 |wrote (a:Ac) (r:MB) (s:MI) (hw:t.waits=2) (hb:t.begun=true) (hx:M.nx[i]?=some (.ans (qC (qU t a) (qE i t.tx)))) (ha:(P.acts i t.tx)[t.act]?=some a) (hk:isWr t a) (hs:M.ws[i]?=some (some (r,s))) (ht:taken i t (ceAt M.cs a.cell)=false):
   Stp P M i t ⟨M.W.put i (wrTh t,qC {xD 3 with ret:=1} (qE i t.tx)),M.cs.set a.cell.toNat ⟨wrVal t a,qE i t.tx⟩,M.ws.set i (some (upd a.cell () r,if (yz a.cell s).isSome then s else upd a.cell (ceAt M.cs a.cell).val s)),M.nx.set i .none⟩
 |read (a:Ac) (r:MB) (s:MI) (hw:t.waits=2) (hb:t.begun=true) (hx:M.nx[i]?=some (.ans (qC (qU t a) (qE i t.tx)))) (ha:(P.acts i t.tx)[t.act]?=some a) (hk:isRd t a) (hs:M.ws[i]?=some (some (r,s))) (ht:taken i t (ceAt M.cs a.cell)=false):
   Stp P M i t ⟨M.W.put i (rdTh t a (ceAt M.cs a.cell).val,qC {xD 3 with ret:=3,val:=(ceAt M.cs a.cell).val} (qE i t.tx)),M.cs.set a.cell.toNat ⟨(ceAt M.cs a.cell).val,qE i t.tx⟩,M.ws.set i (some (upd a.cell () r,s)),M.nx.set i .none⟩
 |refused (a:Ac) (r:MB) (s:MI) (hw:t.waits=2) (hb:t.begun=true) (hx:M.nx[i]?=some (.ans (qC (qU t a) (qE i t.tx)))) (ha:(P.acts i t.tx)[t.act]?=some a) (hk:a.kind≠4) (hs:M.ws[i]?=some (some (r,s))) (ht:taken i t (ceAt M.cs a.cell)=true):
   Stp P M i t ⟨M.W.put i (xM t,qC (xD 6) (qE i t.tx)),offCs r s M.cs,M.ws,M.nx.set i .none⟩
 |abort (r:MB) (s:MI) (hw:t.waits=7) (hb:t.begun=true) (hx:M.nx[i]?=some .abort) (hs:M.ws[i]?=some (some (r,s))):
   Stp P M i t ⟨M.W.put i (xM t,qC (xD 6) (qE i t.tx)),offCs r s M.cs,M.ws,M.nx.set i .none⟩
 |let_ (k:Int) (l:List Int) (hw:t.waits=4) (hb:t.begun=true) (hx:M.nx[i]?=some (.rel (k::l))):
   Stp P M i t ⟨M.W,M.cs.set k.toNat ⟨(ceAt M.cs k).val,0⟩,M.ws,M.nx.set i (.rel l)⟩
 |commit (hw:t.waits=4) (hb:t.begun=true) (hx:M.nx[i]?=some (.rel [])):
   Stp P M i t ⟨M.W.put i (xM t,qC (xD 5) (qE i t.tx)),M.cs,M.ws,M.nx.set i .none⟩
section
variable {P:Pg} {M:LM}
theorem LInv.kinds (h:LInv P M) {i:Nat} (hi:i < P.threads.length) {t:Th} (hd:qP P i t=false) (htk:ThOk P i t) {a:Ac} (ha:(P.acts i t.tx)[t.act]?=some a) (hk:a.kind≠4):(a.kind=1/\a.val=0\/a.kind=2\/a.kind=3)/\0<=a.cell/\a.cell < P.cells.length/\-1000<=a.val/\a.val<=1000:=by
 have htx:=yX h.ok hi htk hd;rcases h.ok.at hi htx ha with⟨hk',-⟩|h
 ·exact absurd hk' hk
 ·exact h
theorem LInv.ceVal (h:LInv P M) (k:Int):inB M.W.evs.length (ceAt M.cs k).val:=by
 unfold ceAt;cases hc:M.cs[k.toNat]? with
 |none=>simp[inB,VB];omega
 |some c=>exact h.ce c (List.mem_of_getElem? hc)
theorem stp_of (h:LInv P M) {i:Nat} (hi:i < P.threads.length) {t:Th} (ht:M.W.ths[i]?=some t) (hdn:xW P M.W i=false):Stp P M i t (stepIn P M i):=by
 have hd:qP P i t=false:=by rw[←wDone_th ht];exact hdn
 obtain⟨htk,htr⟩:=h.th i t ht;obtain⟨x,hx⟩:∃x,M.nx[i]?=some x:=⟨_,List.getElem?_eq_getElem (by rw[h.nxl];exact hi)⟩
 obtain⟨o,ho⟩:∃o,M.ws[i]?=some o:=⟨_,List.getElem?_eq_getElem (by rw[h.wsl];exact hi)⟩
 obtain⟨hnx,hob⟩:=h.nx i t x o ht hx ho;have hws:t.begun=true->∃r s,M.ws[i]?=some (some (r,s)):=fun hb=>by
  cases o with
  |none=>exact absurd rfl (hob hb)
  |some p=>exact⟨p.1,p.2,ho⟩
 unfold stepIn;rw[ht,hx];simp only;cases x with
 |none=>
  have hw:t.waits=0:=hnx;have hnn:¬(qP P i t=true\/t.waits≠0):=by simp[hd,hw]
  by_cases hb:t.begun=false
  ·have e1:yx P i t={xD 1 with thread:=i}:=by simp[yx,hb]
   have hn:nextOf P i t=some ({t with begun:=true},qC {xD 1 with thread:=i} (qE i t.tx)):=by
    simp only[nextOf,e1];rw[if_neg hnn,if_pos hb]
   have e2:∀r,ya r (qC {xD 1 with thread:=(i:Int)} (qE i t.tx))=.none:=fun r=>by simp[ya,qC,xD]
   have e3:(qC {xD 1 with thread:=(i:Int)} (qE i t.tx)).kind=1:=rfl;simp only[doStep,ownStep,hn,e2,e3,if_true];exact .begin hw hb hx
  ·have hb':t.begun=true:=by simpa using hb
   have hn:∀E,yx P i t=E->nextOf P i t=some ({t with waits:=(qC E (qE i t.tx)).kind},qC E (qE i t.tx)):=fun E e1=>by
    simp only[nextOf,e1];rw[if_neg hnn,if_neg hb]
   cases ha:(P.acts i t.tx)[t.act]? with
   |none=>
    have e1:yx P i t=xD 4:=by simp[yx,hb',ha]
    have e2:∀r,ya r (qC (xD 4) (qE i t.tx))=.rel (r.map (·.1)):=fun r=>by simp[ya,qC,xD]
    have e3:(qC (xD 4) (qE i t.tx)).kind=4:=rfl;simp only[doStep,ownStep,hn _ e1,e2,e3];rw[if_neg (by decide)];obtain⟨r,s,hrs⟩:=hws hb';have e4:woR M.ws[i]?=r:=by rw[hrs];rfl
    rw[e4];exact .try_ r s hw hb' hx ha hrs
   |some a=>
    by_cases hk:a.kind=4
    ·have e1:yx P i t=xD 7:=by simp[yx,hb',ha,hk]
     have e2:∀r,ya r (qC (xD 7) (qE i t.tx))=.abort:=fun r=>by simp[ya,qC,xD]
     have e3:(qC (xD 7) (qE i t.tx)).kind=7:=rfl;simp only[doStep,ownStep,hn _ e1,e2,e3];rw[if_neg (by decide)];exact .cancel a hw hb' hx ha hk
    ·have e1:yx P i t=qU t a:=by simp[yx,hb',ha,hk]
     have ek:(qU t a).kind=2:=by unfold qU;split <;> (first|rfl|(split <;> rfl))
     have e3:(qC (qU t a) (qE i t.tx)).kind=2:=ek;have e2:∀r,ya r (qC (qU t a) (qE i t.tx))=.ans (qC (qU t a) (qE i t.tx)):=fun r=>by simp[ya,e3]
     simp only[doStep,ownStep,hn _ e1,e2,e3];rw[if_neg (by decide)];exact .call a hw hb' hx ha hk
 |abort=>
  have hw:t.waits=7:=hnx;have hb:=htk.begun (by omega);obtain⟨r,s,hrs⟩:=hws hb;have e1:woR M.ws[i]?=r:=by rw[hrs];rfl
  have e2:woS M.ws[i]?=s:=by rw[hrs];rfl
  have:yG P i t 0 true=some (xM t,qC (xD 6) (qE i t.tx)):=by simp[yG,hd,hw,xM]
  rw[e1,e2];simp only[doStep,abortStep,this,yq.putO];exact .abort r s hw hb hx hrs
 |rel l=>
  obtain⟨hw,hl,hlk⟩:t.waits=4/\l.length<=4/\∀k ∈ l,0<=k/\k < P.cells.length:=hnx;have hb:=htk.begun (by omega);cases l with
  |nil=>
   have:yG P i t 0 false=some (xM t,qC (xD 5) (qE i t.tx)):=by simp[yG,hd,hw,xM]
   simp only[doStep,relStep,this,yq.putO];exact .commit hw hb hx
  |cons k l=>exact .let_ k l hw hb hx
 |ans e=>
  obtain⟨hw,a,ha,hk4,rfl⟩:=hnx;have hb:=htk.begun (by omega);obtain⟨r,s,hrs⟩:=hws hb;have e1:woR M.ws[i]?=r:=by rw[hrs];rfl
  have e2:woS M.ws[i]?=s:=by rw[hrs];rfl
  rw[e1,e2];obtain⟨hkk,hc0,hc1,hv0,hv1⟩:=h.kinds hi hd htk ha hk4;have hobj:(qC (qU t a) (qE i t.tx)).obj=a.cell:=by
   show(qU t a).obj=a.cell;unfold qU;split <;> (first|rfl|(split <;> rfl))
  simp only[doStep,ansStep,hobj];cases htn:taken i t (ceAt M.cs a.cell) with
  |true=>
   have:yG P i t 0 true=some (xM t,qC (xD 6) (qE i t.tx)):=by simp[yG,hd,hw,xM]
   simp only[if_true,abortStep,this,yq.putO];exact .refused a r s hw hb hx ha hk4 hrs htn
  |false=>
   simp only[Bool.false_eq_true,if_false];by_cases hwr:isWr t a
   ·have hop:(qC (qU t a) (qE i t.tx)).op=2:=by
     show(qU t a).op=2;unfold qU;rcases hwr with h1|⟨h1,h2⟩
     ·rw [if_pos h1]
     ·rw [if_neg (by omega),if_pos ⟨h1,h2⟩]
    have hval:(qC (qU t a) (qE i t.tx)).val=wrVal t a:=by
     show(qU t a).val=wrVal t a;unfold qU wrVal;rcases hwr with h1|⟨h1,h2⟩
     ·rw [if_pos h1,if_pos h1]
     ·rw [if_neg (by omega),if_pos ⟨h1,h2⟩,if_neg (by omega)]
    have han:∀v,yG P i t v false=some (wrTh t,qC {xD 3 with ret:=1} (qE i t.tx)):=fun v=>by
     have hnr:¬(a.kind=1\/a.kind=3/\t.adding=false):=by
      rintro(h1|⟨h1,h2⟩)
      ·rcases hwr with h3|⟨h3,-⟩ <;> omega
      ·rcases hwr with h3|⟨-,h3⟩
       ·omega
       ·rw [h2] at h3;cases h3
     simp only[yG,hd,hw,ha,wrTh];simp[hnr]
    rw[if_pos hop,han,hval];exact .wrote a r s hw hb hx ha hwr hrs htn
   ·have hrd:isRd t a:=by
     unfold isWr at hwr;unfold isRd;rcases hkk with⟨h1,-⟩|h1|h1
     ·exact .inl h1
     ·exact absurd (.inl h1) hwr
     ·refine .inr ⟨h1,?_⟩
      cases had:t.adding with
      |false=>rfl
      |true=>exact absurd (.inr ⟨h1,had⟩) hwr
    have hop:(qC (qU t a) (qE i t.tx)).op≠2:=by
     show(qU t a).op≠2;unfold qU;unfold isWr at hwr;rw[if_neg fun h1=>hwr (.inl h1),if_neg fun h1=>hwr (.inr h1)];show(1:Int)≠2;decide
    have han:∀v,xK v=true->xK (v+a.val)=true->yG P i t v false=some (rdTh t a v,qC {xD 3 with ret:=3,val:=v} (qE i t.tx)):=fun v h1 h2=>by
     have hr':a.kind=1\/a.kind=3/\t.adding=false:=hrd;simp only[yG,hd,hw,ha,rdTh];simp only[Bool.false_eq_true,false_or,if_false,if_pos hr',h1,h2,Bool.true_eq_false,and_false,or_self];by_cases h3:a.kind=3 <;> simp[h3]
    have hT:tot P<=4748:=by unfold tot;have:=h.ok.threads.2;omega
    have hev:=h.ev;have within:∀v,inB M.W.evs.length v->xK v=true/\xK (v+a.val)=true:=fun v hv=>by
     unfold inB VB at hv;unfold xK;simp only[Bool.and_eq_true,decide_eq_true_eq];omega
    rw[if_neg hop];have hv:inB M.W.evs.length (ceAt M.cs a.cell).val:=h.ceVal a.cell;simp only[han _ (within _ hv).1 (within _ hv).2,yq.putO];exact .read a r s hw hb hx ha hrd hrs htn
end
