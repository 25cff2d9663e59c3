/- Parts of the proof; the first: The engine clock: New. Conditions: those of each theorem, as typed. -/
import Derived.Test.YtkfhgifhfkcehaaGreatDoorQC30
import Derived.Test.YtkfhgifhfkcehaaGreatDoorQC13
set_option linter.unusedVariables false
set_option linter.unusedSimpArgs false
set_option linter.unusedSectionVars false
set_option maxRecDepth 100000
set_option maxHeartbeats 4000000
namespace Go.Proofs.YtkfhgifhfkcehaaGreatDoor
open Go.Maps Go.RowKit
section
attribute [local irreducible] xL
theorem infoWk:(Tryz.prog.info? 321).map (fun i=>(i.zero,i.size,i.bytes))=some (some (.agg #[.int .i64 0,.map none,.map none]),3,24):=by kernel_rfl
theorem infoC:(Tryz.prog.info? 276).map (fun i=>(i.zero,i.size,i.bytes))=some (some (.agg #[.int .i64 0,.int .i64 0,.int .i64 0]),3,24):=by kernel_rfl
theorem ce_one (c:Ce):∀u ∈ c.cells,u.oneCell'=true:=by intro u hu;simp[Ce.cells] at hu;rcases hu with rfl|rfl|rfl <;> rfl
section
variable {w w':World} {ve:Value} {P:Pg}
def Mn (t:TypeId):Prop:=t=276\/t=274
theorem qW.kn {B bW gT:Nat} {vc vt:Value} {S:yk} (h:qW w B bW gT vc vt ve P S) (hk:Kd Mn w w'):qW w' B bW gT vc vt ve P S:=
 ⟨hk _ _ _ _ h.row (by unfold Mn;decide),h.hB,qq.kd h.cells hk (by unfold Mn;decide),h.thr.kd hk (by unfold Mn;decide) (by unfold Mn;decide) (by unfold Mn;decide),qq.kd h.ths hk (by unfold Mn;decide),qq.kd h.evs hk (by unfold Mn;decide),h.ok,h.tok⟩
theorem DrAt.kn {B bD bW gT gN:Nat} {vc vt pc pt rf:Value} {S:yk} {nx:List Value} (h:DrAt w B bD bW gT gN vc vt ve pc pt rf P S nx) (hk:Kd Mn w w'):DrAt w' B bD bW gT gN vc vt ve pc pt rf P S nx:=
 ⟨hk _ _ _ _ h.row (by unfold Mn;decide),h.hB,h.walk.kn hk,qq.kd h.pcells hk (by unfold Mn;decide),h.pthr.kd hk (by unfold Mn;decide) (by unfold Mn;decide) (by unfold Mn;decide),qq.kd h.next hk (by unfold Mn;decide)⟩
def xm (P:Pg):LM:=⟨⟨List.replicate P.threads.length Th.zero,[]⟩,P.cells.map fun c=>⟨c,0,0⟩,List.replicate P.threads.length none,List.replicate P.threads.length .none,0⟩
def NewRet (P:Pg) (ev:Value) (w:World) (e:Ending) (w':World):Prop:=
 (¬xV P/\e=.returned (.tuple #[.pointer none,ev])\/xV P/\∃C us ve,e=.returned (.tuple #[.pointer (some ⟨C.bM,0,none⟩),.nilIface])/\C.B=w.heap.size/\qX w' C ve us P (xm P))/\Below w.heap.size w w'
theorem la_new (vc vt:Value) (P:Pg) (w:World) (h:PgIs w w.heap.size vc vt P) (ev:Value) (hev:w.cell? ⟨2,0,none⟩=some ev) (hne:∃t v,ev=.iface t v) (h10:2 < w.heap.size) (hn:P.threads.length<=1000):
  Calls Tryz.prog 104 #[.agg #[vc,vt]] w (NewRet P ev w):=by
 obtain⟨ac,cc,rfl,mc⟩:=h.cells.ex;obtain⟨at',ct,rfl,mt⟩:=h.thr.ex;obtain⟨ty,va,rfl⟩:=hne;have H:=qj h;have HE:=qj hev;clear h hev;go_enter Tryz.func104,Tryz.ntmps104;go_wp2_with (at_make;refine wpList_makeN (f:=wkC) (e:=321) (sz:=3) (B:=w.heap.size) rfl _ _ _ rfl _ 24 Tryz.underlying271 infoWk rfl rfl (by first|omega|(simp <;> omega)) (by first|omega|(simp <;> omega)) (by first|omega|(simp <;> omega)) (0,.map none,.map none) rfl rfl (by decide) ?_;refine xt.halt ?_)
 refine xt.go ?_;intro W1 o1 b1 z1;have b1:Below w.heap.size w W1:=((Below.refl _ w).alloc (Nat.le_refl _) _).trans (b1.mono (by omega));have z1:w.heap.size+1 < W1.heap.size:=by omega
 have r1:W1.heap[w.heap.size]?=some (.cells #[.slice ac P.cells.length cc,.slice at' P.threads.length ct] 25 (0,0)):=qp (qy w _) ‹Below (w.heap.size+1) _ W1› (by omega);have O1:=qj o1;have B1:=qj b1;have R1:=qj r1;have lb1:w.heap.size < W1.heap.size:=by omega
 have y0:=qg r1 0;have y1:=qg r1 1;clear o1 b1 r1;go_wp2_with fail;have bX:Below W1.heap.size W1 (W1.alloc (.cells #[.pointer none,.slice none 0 0,.slice (some ⟨w.heap.size+1,0,none⟩) P.threads.length P.threads.length,.int .i64 0] 274)):=(Below.refl _ W1).alloc (Nat.le_refl _) _;have rX:=qy W1 (.cells #[.pointer none,.slice none 0 0,.slice (some ⟨w.heap.size+1,0,none⟩) P.threads.length P.threads.length,.int .i64 0] 274);have zX:(W1.alloc (.cells #[.pointer none,.slice none 0 0,.slice (some ⟨w.heap.size+1,0,none⟩) P.threads.length P.threads.length,.int .i64 0] 274)).heap.size=W1.heap.size+1:=by simp
 generalize W1.alloc (.cells #[.pointer none,.slice none 0 0,.slice (some ⟨w.heap.size+1,0,none⟩) P.threads.length P.threads.length,.int .i64 0] 274)=X at *;have bwX:Below w.heap.size w X:=B1.o.trans (bX.mono (by omega));refine(p_dStart _ _ P X ((H.o.below bwX).more (by omega)) (.func 144) #[.pointer (some ⟨W1.heap.size,0,none⟩)] #[] (.iface ty va) (qu bwX h10 HE.o) ⟨_,_,rfl⟩ (by omega)).mono ?_;rintro e V ⟨hv,bV⟩;have zV:=bV.size;have BV:=qj (bwX.trans (bV.mono (by omega)));have RV:=qj (qp rX bV (by omega));have RP:=qj (qp (qp R1.o bX lb1) bV (by omega));have OV:=qj (qq.below (qq.below O1.o bX) bV);rcases hv with⟨hno,rfl⟩|⟨hok,bD,bW,gT,gN,vc,vt,pc,pt,rfl,hdr⟩
 case inl=>
  have HN:=qj hno;clear hno y0 y1 bX rX zX bwX bV;go_wp2
  go_ret2
  exact⟨.inl ⟨HN.o,rfl⟩,BV.o⟩
 case inr=>
  have HOK:=qj hok;have HDR:=qj hdr;have hn4:=hok.nums;have hXB:X.heap.size<=bD:=hdr.hB;have hwX:w.heap.size<=X.heap.size:=by omega
  have m0:=qg RV.o 0;have mf:=qx RV.o 0;have lm:=qh RV.o;have p0:=qg RP.o 0;have lp:=qh RP.o;clear hok hdr y0 y1 bX rX zX bwX bV;go_wp2_with fail;have kY:Kd Mn V (V.setCell ⟨W1.heap.size,0,none⟩ (.pointer (some ⟨bD,0,none⟩))):=Kd.set RV.o (.inr rfl) _;have rY:=qB RV.o 0 (.pointer (some ⟨bD,0,none⟩));have bY:Below w.heap.size w (V.setCell ⟨W1.heap.size,0,none⟩ (.pointer (some ⟨bD,0,none⟩))):=BV.o.setCell (p:=⟨W1.heap.size,0,none⟩) (by show w.heap.size<=W1.heap.size;omega) _;have dY:=(HDR.o.base hwX).kn kY;have oY:=qq.kd OV.o kY (by unfold Mn;decide);generalize V.setCell ⟨W1.heap.size,0,none⟩ (.pointer (some ⟨bD,0,none⟩))=Y at *;have RY:=qj (show Y.heap[W1.heap.size]?=some (.cells #[.pointer (some ⟨bD,0,none⟩),.slice none 0 0,.slice (some ⟨w.heap.size+1,0,none⟩) P.threads.length P.threads.length,.int .i64 0] 274 (0,0)) from rY);have BY:=qj bY;have DY:=qj dY;have OY:=qj oY;obtain⟨cs0,hcs0⟩:∃cs0:List Ce,cs0=P.cells.map fun c=>⟨c,0,0⟩:=⟨_,rfl⟩
  have hcl:cs0.length=P.cells.length:=by rw[hcs0,List.length_map]
  have HCS:=qj hcs0;have hgW:w.heap.size+1 < W1.heap.size:=by omega
  clear kY rY bY dY oY HDR OV RV BV m0 mf p0 hcs0 R1 RP O1 B1
  go_loopw [32] (fun p wr=>∃(i:Nat) (cv:Value),i<=P.cells.length/\p=.int .i64 i/\Below w.heap.size w wr/\wr.heap[W1.heap.size]?=some (.cells #[.pointer (some ⟨bD,0,none⟩),cv,.slice (some ⟨w.heap.size+1,0,none⟩) P.threads.length P.threads.length,.int .i64 0] 274 (0,0))/\
   DrAt wr w.heap.size bD bW gT gN vc vt (.slice none 0 0) pc pt (.func (.func 144) #[.pointer (some ⟨W1.heap.size,0,none⟩)] #[]) P ⟨List.replicate P.threads.length Th.zero,[]⟩ (List.replicate P.threads.length .nilFunc)/\
   qq wkC 321 3 wr w.heap.size (.slice (some ⟨w.heap.size+1,0,none⟩) P.threads.length P.threads.length) (List.replicate P.threads.length (0,.map none,.map none))/\qq Ce.cells 276 3 wr w.heap.size cv (cs0.take i)) (fun p _=>P.cells.length - (intOf p).toNat)
  case atStart=>exact⟨0,.slice none 0 0,by omega,by go_num,BY.o,RY.o,DY.o,OY.o,qq.nil _ _⟩
  case round=>
   obtain⟨i,cv,hi,rfl,hB,hr,hD,hO,hC⟩:=hrel;clear BY RY DY OY;obtain⟨ao,co,rfl,-⟩:=hC.form2;have hlo:(cs0.take i).length=i:=by rw[List.length_take];omega
   rw[hlo] at hC hr;have e1:=qg hr 1;have lr:=qh hr;have zB:=hB.size;have HB:=qj hB;have HR:=qj hr;have HD:=qj hD;have HO:=qj hO;have HC:=qj hC;clear hB hr hD hO hC;by_cases hlt:i < P.cells.length
   ·obtain ⟨b,off,c,rfl,hb,hc,hcc⟩:=H.o.cells.intAt hlt
    have hcc:=qu HB.o hb hcc;have hbz:b < wr.heap.size:=by omega
    have hoc:cs0[i]?=some ⟨c,0,0⟩:=by rw[HCS.o,List.getElem?_map,hc];rfl
    have HOC:=qj hoc;clear hoc hc;go_wp2_with (at_builtin;refine qU rfl _ _ _ rfl _ 24 Tryz.underlying272 infoC rfl HC.o ⟨c,0,0⟩ (by first|omega|(simp <;> omega)) (by rfl) (by rfl) (by first|rfl|simp) rfl (ce_one _) (by first|omega|(simp only[List.length_append,List.length_cons,List.length_nil,List.length_replicate];omega)) (by first|omega|(simp only[List.length_append,List.length_cons,List.length_nil,List.length_replicate];omega)) ?_;refine xt.halt ?_)
    refine xt.go ?_;intro g4 c4 w4 o4 G4;have kg:=Kd.grw HC.o G4;have b4:=HB.o.trans (G4.below zB fun q h=>(HC.o.lt q h).1);have q2:=kg _ _ _ _ HR.o (by decide);have f6:=qx q2 1;have l6:=qh q2;have e1:=qg q2 1;have B4:=qj b4;have Q2:=qj q2;have D4:=qj (HD.o.kn (kg.mono fun t h=>.inl h));have OW4:=qj (qq.kd HO.o kg (by decide));have O4:=qj o4;clear b4 q2 kg o4 G4 lr;go_wp2_with fail;go_roundw
    case rel=>
     have kS:Kd (fun t=>t=274) w4 (w4.setCell ⟨W1.heap.size,1,none⟩ (.slice (some ⟨g4,0,none⟩) (i+1) c4)):=Kd.set (T:=fun t=>t=274) Q2.o rfl _;refine⟨i+1,_,by omega,by go_num,B4.o.setCell (p:=⟨W1.heap.size,1,none⟩) (by show w.heap.size<=W1.heap.size;omega) _,qB Q2.o 1 _,D4.o.kn (kS.mono fun t h=>.inr h),qq.kd OW4.o kS (by decide),?_⟩;rw[take_step HOC.o];exact qq.kd O4.o kS (by decide)
    case measure=>simp[intOf];omega
   ·obtain rfl:i=P.cells.length:=by omega
    go_wp2
    go_ret2
    refine⟨.inr ⟨HOK.o,⟨w.heap.size,W1.heap.size,bD,bW,gT,gN,w.heap.size+1,vc,vt,pc,pt,.slice ao P.cells.length co,fun _ _=>False⟩,List.replicate P.threads.length (0,.map none,.map none),.slice none 0 0,rfl,rfl,HR.o,by show w.heap.size<=W1.heap.size;omega,⟨_,HD.o,by simp[xm],?_⟩,?_,by simp[xm],⟨HO.o,by simp[xm],?_,?_⟩,fun _ _ hf=>hf.elim⟩,HB.o⟩
    ·intro j v x hv hx
     have h1:v=.nilFunc:=List.eq_of_mem_replicate (List.mem_of_getElem? hv);have h2:x=.none:=List.eq_of_mem_replicate (List.mem_of_getElem? hx);rw[h2];exact h1
    ·have:=HC.o
     rwa [show cs0.take P.cells.length=P.cells.map (fun c=>⟨c,0,0⟩) from by rw[←hcl,List.take_length];exact HCS.o] at this
    ·intro j u o hu ho
     have h1:u=(0,.map none,.map none):=List.eq_of_mem_replicate (List.mem_of_getElem? hu);have h2:o=none:=List.eq_of_mem_replicate (List.mem_of_getElem? ho);rw[h2];exact h1
    ·intro j k u u' hu hu' _ b hb
     have h1:u=(0,.map none,.map none):=List.eq_of_mem_replicate (List.mem_of_getElem? hu);rw[h1] at hb;rcases hb with hb|hb <;> cases hb
end
end
section
attribute [local irreducible] xL
def qV (P:Pg) (M:LM) (l:List Int):LM:=l.foldl (yn P) M
theorem stepsTo_snoc (P:Pg) (M:LM) (l:List Int) (i:Int):qV P M (l++[i])=yn P (qV P M l) i:=by simp[qV]
theorem stepsTo_app (P:Pg) (M:LM) (l l2:List Int):qV P M (l++l2)=qV P (qV P M l) l2:=by simp[qV]
def roundOf (P:Pg) (M:LM):LM:=qV P M (upI P.threads.length)
structure Goes (P:Pg) (Inv:LM->Prop) (mu:LM->Nat):Prop where
 step:∀(M:LM) (i:Int),Inv M->Inv (yn P M i)
 can:∀M,Inv M->CanStep P M
 less:∀M,Inv M->zj P M.W=false->mu (roundOf P M) < mu M
theorem Goes.steps {P:Pg} {Inv:LM->Prop} {mu:LM->Nat} (h:Goes P Inv mu):∀(l:List Int) (M:LM),Inv M->Inv (qV P M l)
 |[],M,hM=>hM
 |i::l,M,hM=>h.steps l _ (h.step M i hM)
def RunOf (P:Pg) (M:LM) (l:List Int) (full:Bool) (M':LM):Prop:=if full=true then ∃l2,M'=qV P M (l++l2)/\zj P M'.W=true else M'=qV P M l
def RunPost (B:Nat) (P:Pg) (M:LM) (l:List Int) (full:Bool) (w:World) (e:Ending) (w':World):Prop:=
 ∃M' ov vv,e=.returned (.tuple #[.agg #[ov,vv],.nilIface])/\RunOf P M l full M'/\qq Ob.cells 96 2 w' B ov (xe P)/\qq Ev.cells 53 8 w' B vv M'.W.evs/\Below B w w'
section
variable {w w':World} {C:LC} {ve:Value} {P:Pg} {M:LM} {us:List WkV} {Inv:LM->Prop} {mu:LM->Nat}
theorem la_drive (h:qX w C ve us P M) (hG:Goes P Inv mu) (hI:Inv M) (sv:Value) (l:List Int) (hs:Sl w C.B 1 sv l.length (l.map (.int .i64))) (hl:l.length<=300) (full:Bool):
  Calls Tryz.prog 87 #[.iface 205 (.pointer (some ⟨C.bM,0,none⟩)),.int .i64 P.threads.length,sv,.bool full] w (RunPost C.B P M l full w):=by
 obtain⟨sa,sc,rfl,-⟩:=hs.ex;have hn4:=h.ok.threads.2;have hBw:=h.size;have q1:decide ((l.length:Int) > 300)=false:=by simp;omega
 have b0:Below w.heap.size w (w.alloc (.cells #[.slice none 0 0,.slice none 0 0] 37)):=(Below.refl _ w).alloc (Nat.le_refl _) _;have r0:=qy w (.cells #[.slice none 0 0,.slice none 0 0] 37);have z0:(w.alloc (.cells #[.slice none 0 0,.slice none 0 0] 37)).heap.size=w.heap.size+1:=by simp
 have hX:=(h.below b0).frame (F':=fun k cs=>k=w.heap.size/\cs=#[.slice none 0 0,.slice none 0 0]) (by rintro k cs ⟨rfl,rfl⟩;exact r0);have hF:∃C':LC,C.B=C'.B/\C.bM=C'.bM/\C'.F=(fun k cs=>k=w.heap.size/\cs=#[.slice none 0 0,.slice none 0 0])/\qX (w.alloc (.cells #[.slice none 0 0,.slice none 0 0] 37)) C' ve us P M:=⟨{C with F:=fun k cs=>k=w.heap.size/\cs=#[.slice none 0 0,.slice none 0 0]},rfl,rfl,rfl,hX⟩
 have HS:=qj hs;have BX:=qj (b0.mono hBw);clear hX h hs b0 r0 z0;obtain⟨C',eB,eM,eF,hX⟩:=hF;rw[eB] at HS BX hBw ⊢;rw[eM];have HF:=qj eF;have HX:=qj hX;have HG:=qj hG;have HI:=qj hI;have hlC:P.threads.length < 1000:=by omega
 clear hG hI eB eM eF hX;go_enter Tryz.func87,Tryz.ntmps87;go_wp2_with fail;have zX:w.heap.size<=(w.alloc (.cells #[.slice none 0 0,.slice none 0 0] 37)).heap.size:=by simp
 generalize w.alloc (.cells #[.slice none 0 0,.slice none 0 0] 37)=X at *
 go_loopw [20] (fun p wr=>∃(i:Nat),i<=l.length/\p=.int .i64 i/\Below C'.B w wr/\w.heap.size<=wr.heap.size/\∃ve us,qX wr C' ve us P (qV P M (l.take i))) (fun p _=>l.length - (intOf p).toNat)
 case atStart=>exact⟨0,by omega,by go_num,BX.o,zX,ve,us,HX.o⟩
 case round=>
  obtain⟨i,hi,rfl,hB,hz,ve1,us1,hL⟩:=hrel;have HB:=qj hB;have HL:=qj hL;clear hB hL BX zX HX;have HIN:=qj (HG.o.steps (l.take i) M HI.o);by_cases hlt:i < l.length
  ·obtain ⟨b,off,c,rfl,hb,hc,hcc⟩:=(HS.o.below (w:=w) (w':=wr) HB.o:Sl wr C'.B 1 (.slice sa l.length sc) l.length (l.map (.int .i64))).intAt hlt
   have hbz:b < wr.heap.size:=by have:=HL.o.size;omega
   have HC:=qj hc;clear hc;go_wp2_with fail;refine(la_step HL.o (HG.o.can _ HIN.o) c).mono ?_;rintro e w1 ⟨rfl,hb1,ve2,us2,hl2⟩;have HB1:=qj (HB.o.trans hb1);have HL1:=qj hl2;have hz1:=hb1.size;clear hb1 hl2 hcc;go_wp2_with fail;go_roundw
   case rel=>exact⟨i+1,by omega,by go_num,HB1.o,by omega,ve2,us2,by rw[take_step HC.o,stepsTo_snoc];exact HL1.o⟩
   case measure=>simp[intOf];omega
  ·obtain rfl:i=l.length:=by omega
   rw[List.take_length] at HL HIN;clear HS;obtain⟨w5,rfl⟩:∃w5,w5=wr:=⟨_,rfl⟩
   go_wp2_with fail
   go_loopg [33] (mu (qV P M l)) (fun k _ wr=>∃l2 ve us,(full=false->l2=[])/\mu (qV P M (l++l2))<=k/\Below C'.B w wr/\w.heap.size<=wr.heap.size/\qX wr C' ve us P (qV P M (l++l2)))
   case atStart=>exact⟨[],ve1,us1,fun _=>rfl,by rw[List.append_nil];exact Nat.le_refl _,HB.o,hz,by rw[List.append_nil];exact HL.o⟩
   case round=>
    obtain⟨l2,ve3,us3,hfl,hk,hb,hz3,hl3⟩:=hrel;clear HB HL HIN;have HB:=qj hb;have HL:=qj hl3;have HK:=qj hk;have HFL:=qj hfl;have HIN:=qj (HG.o.steps (l++l2) M HI.o);clear hb hl3 hk hfl;cases full with
    |false=>
     obtain rfl:=HFL.o rfl;go_wp2_with fail;refine(la_history HL.o (HG.o.can _ HIN.o).evs).mono ?_;rintro e w1 ⟨ov,vv,rfl,ho,hv,hb1⟩;obtain⟨ao,co,rfl,-⟩:=ho.form2;obtain⟨ae,ce,rfl,-⟩:=hv.form2;have r0:=HL.o.fr w.heap.size #[.slice none 0 0,.slice none 0 0] (by rw[HF.o];exact⟨rfl,rfl⟩);have r1:=qp r0 hb1 (qh r0);have y0:=qg r1 0;have y1:=qg r1 1;have yf:∀j,w1.frozen? ⟨w.heap.size,j,none⟩=false:=fun j=>qx r1 j;have l1:=qh r1;have hBr:=HL.o.size;have HB1:=qj (HB.o.trans (hb1.mono hBr));have HO:=qj (qq.base ho hBr);have HV:=qj (qq.base hv hBr);have R1:=qj r1;have HRO:=qj (show RunOf P M l false (qV P M (l++[])) from by rw[List.append_nil];rfl);clear ho hv hb1 r0 r1 HL HB HIN HG;obtain⟨eo,heo⟩:∃eo,eo=xe P:=⟨_,rfl⟩
     obtain⟨ee,hee⟩:∃ee,ee=(qV P M (l++[])).W.evs:=⟨_,rfl⟩
     rw[←heo] at HO ⊢;rw[←hee] at HV ⊢;have HE:=qj (And.intro heo hee);clear heo hee;go_wp2;have r4:=row2 (u1:=.slice ao eo.length co) (u2:=.slice ae ee.length ce) R1.o;have c0:=qg r4 0;have c1:=qg r4 1;simp only[List.getElem?_toArray,List.getElem?_cons_zero,List.getElem?_cons_succ] at c0 c1;refine bodyPost_ret (v:=.tuple #[.agg #[.slice ao eo.length co,.slice ae ee.length ce],.nilIface]) (by simp[results,Tryz.results87,go_sem,c0,c1]) rfl ⟨_,_,_,rfl,HRO.o,?_,?_,?_⟩
     ·rw [←HE.o.1];exact qq.box2 HO.o R1.o (by decide)
     ·rw [←HE.o.2];exact qq.box2 HV.o R1.o (by decide)
     ·exact (HB1.o.setCell (p:=⟨w.heap.size,0,none⟩) hBw _).setCell (p:=⟨w.heap.size,1,none⟩) hBw _
    |true=>
     go_wp2_with fail;refine(la_done HL.o).mono ?_;rintro e w6 ⟨rfl,hb6⟩;have hBr:=HL.o.size;have HL6:=qj (HL.o.below hb6);have HB6:=qj (HB.o.trans (hb6.mono hBr));have hz6:=hb6.size;clear HL HB hb6;cases hd:zj P (qV P M (l++l2)).W with
     |true=>
      have HL:=qj HL6.o;have HB:=qj HB6.o;have HD:=qj hd;clear HL6 HB6 hd;go_wp2_with fail;refine(la_history HL.o (HG.o.can _ HIN.o).evs).mono ?_;rintro e w1 ⟨ov,vv,rfl,ho,hv,hb1⟩;obtain⟨ao,co,rfl,-⟩:=ho.form2;obtain⟨ae,ce,rfl,-⟩:=hv.form2;have r0:=HL.o.fr w.heap.size #[.slice none 0 0,.slice none 0 0] (by rw[HF.o];exact⟨rfl,rfl⟩);have r1:=qp r0 hb1 (qh r0);have y0:=qg r1 0;have y1:=qg r1 1;have yf:∀j,w1.frozen? ⟨w.heap.size,j,none⟩=false:=fun j=>qx r1 j;have l1:=qh r1;have hBr:=HL.o.size;have HB1:=qj (HB.o.trans (hb1.mono hBr));have HO:=qj (qq.base ho hBr);have HV:=qj (qq.base hv hBr);have R1:=qj r1;have HRO:=qj (show RunOf P M l true (qV P M (l++l2)) from⟨l2,rfl,HD.o⟩);clear ho hv hb1 r0 r1 HL HB HIN HG;obtain⟨eo,heo⟩:∃eo,eo=xe P:=⟨_,rfl⟩
      obtain⟨ee,hee⟩:∃ee,ee=(qV P M (l++l2)).W.evs:=⟨_,rfl⟩
      rw[←heo] at HO ⊢;rw[←hee] at HV ⊢;have HE:=qj (And.intro heo hee);clear heo hee;go_wp2;have r4:=row2 (u1:=.slice ao eo.length co) (u2:=.slice ae ee.length ce) R1.o;have c0:=qg r4 0;have c1:=qg r4 1;simp only[List.getElem?_toArray,List.getElem?_cons_zero,List.getElem?_cons_succ] at c0 c1;refine bodyPost_ret (v:=.tuple #[.agg #[.slice ao eo.length co,.slice ae ee.length ce],.nilIface]) (by simp[results,Tryz.results87,go_sem,c0,c1]) rfl ⟨_,_,_,rfl,HRO.o,?_,?_,?_⟩
      ·rw [←HE.o.1];exact qq.box2 HO.o R1.o (by decide)
      ·rw [←HE.o.2];exact qq.box2 HV.o R1.o (by decide)
      ·exact (HB1.o.setCell (p:=⟨w.heap.size,0,none⟩) hBw _).setCell (p:=⟨w.heap.size,1,none⟩) hBw _
     |false=>
      have HD:=qj hd;clear hd;go_wp2_with fail;obtain⟨w7,rfl⟩:∃w7,w7=w6:=⟨_,rfl⟩
      go_loopw [35] (fun p wr=>∃(i:Nat),i<=P.threads.length/\p=.int .i64 i/\Below C'.B w wr/\w.heap.size<=wr.heap.size/\∃ve us,qX wr C' ve us P (qV P M (l++l2++upI i))) (fun p _=>P.threads.length - (intOf p).toNat)
      case atStart=>exact⟨0,by omega,by go_num,HB6.o,by omega,ve3,us3,by rw[show upI 0=[] from rfl,List.append_nil];exact HL6.o⟩
      case round=>
       obtain⟨i,hi,rfl,hb,hz,ve4,us4,hl4⟩:=hrel;have HB:=qj hb;have HL:=qj hl4;clear hb hl4 HL6 HB6 HIN;have HIN:=qj (HG.o.steps (l++l2++upI i) M HI.o);by_cases hlt:i < P.threads.length
       ·go_wp2_with fail
        refine(la_step HL.o (HG.o.can _ HIN.o) i).mono ?_;rintro e w1 ⟨rfl,hb1,ve2,us2,hl2⟩;have HB1:=qj (HB.o.trans hb1);have HL1:=qj hl2;have hz1:=hb1.size;clear hb1 hl2;go_wp2_with fail;go_roundw
        case rel=>exact⟨i+1,by omega,by go_num,HB1.o,by omega,ve2,us2,by rw[upI_succ,←List.append_assoc,stepsTo_snoc];exact HL1.o⟩
        case measure=>simp[intOf];omega
       ·obtain rfl:i=P.threads.length:=by omega
        go_wp2_with fail;have hless:mu (qV P M (l++(l2++upI P.threads.length))) < mu (qV P M (l++l2)):=by
         have:=HG.o.less _ (HG.o.steps (l++l2) M HI.o) HD.o;rw[←List.append_assoc,stepsTo_app];exact this
        go_roundg (mu (qV P M (l++(l2++upI P.threads.length))))
        case measure=>have:=HK.o;omega
        case rel=>exact⟨l2++upI P.threads.length,ve4,us4,(fun h=>by cases h),Nat.le_refl _,HB.o,hz,by rw[←List.append_assoc];exact HL.o⟩
end
end
section
attribute [local irreducible] xL
def RunRet (P:Pg) (l:List Int) (full:Bool) (ev:Value) (w:World) (e:Ending) (w':World):Prop:=
 (¬xV P/\e=.returned (.tuple #[.agg #[.slice none 0 0,.slice none 0 0],ev])\/xV P/\∃M' ov vv,e=.returned (.tuple #[.agg #[ov,vv],.nilIface])/\RunOf P (xm P) l full M'/\qq Ob.cells 96 2 w' w.heap.size ov (xe P)/\qq Ev.cells 53 8 w' w.heap.size vv M'.W.evs)/\Below w.heap.size w w'
def Going (P:Pg):Prop:=PgOk P->∃(Inv:LM->Prop) (mu:LM->Nat),Goes P Inv mu/\Inv (xm P)
theorem la_run (vc vt:Value) (P:Pg) (w:World) (h:PgIs w w.heap.size vc vt P) (ev:Value) (hev:w.cell? ⟨2,0,none⟩=some ev) (hne:∃t v,ev=.iface t v) (h10:2 < w.heap.size) (hn:P.threads.length<=1000)
  (sv:Value) (l:List Int) (hs:Sl w w.heap.size 1 sv l.length (l.map (.int .i64))) (hl:l.length<=300) (full:Bool) (hG:Going P):
  Calls Tryz.prog 55 #[.agg #[vc,vt],sv,.bool full] w (RunRet P l full ev w):=by
 obtain⟨ac,cc,rfl,mc⟩:=h.cells.ex;obtain⟨at',ct,rfl,mt⟩:=h.thr.ex;obtain⟨sa,sc,rfl,-⟩:=hs.ex;obtain⟨ty,va,rfl⟩:=hne;have H:=qj h;have HE:=qj hev;have HS:=qj hs;have HG:=qj hG;clear h hev hs hG;go_enter Tryz.func55,Tryz.ntmps55;go_wp2_with fail;have b0:Below w.heap.size w ((w.alloc (.cells #[.slice ac P.cells.length cc,.slice at' P.threads.length ct] 25)).alloc (.cells #[.slice none 0 0,.slice none 0 0] 37)):=((Below.refl _ w).alloc (Nat.le_refl _) _).alloc (by simp) _;have r0:=qF (o:=.cells #[.slice none 0 0,.slice none 0 0] 37) (qy w (.cells #[.slice ac P.cells.length cc,.slice at' P.threads.length ct] 25));have r1:=qL (w:=w.alloc (.cells #[.slice ac P.cells.length cc,.slice at' P.threads.length ct] 25)) (o:=.cells #[.slice none 0 0,.slice none 0 0] 37) (g:=w.heap.size+1) (by simp);have z0:((w.alloc (.cells #[.slice ac P.cells.length cc,.slice at' P.threads.length ct] 25)).alloc (.cells #[.slice none 0 0,.slice none 0 0] 37)).heap.size=w.heap.size+2:=by simp
 generalize (w.alloc (.cells #[.slice ac P.cells.length cc,.slice at' P.threads.length ct] 25)).alloc (.cells #[.slice none 0 0,.slice none 0 0] 37)=X at *;refine(la_new _ _ P X ((H.o.below b0).more (by omega)) (.iface ty va) (qu b0 h10 HE.o) ⟨_,_,rfl⟩ (by omega) hn).mono ?_;rintro e V ⟨hv,bV⟩;have zV:=bV.size;have BV:=qj (b0.trans (bV.mono (by omega)));have RV:=qj (qp r0 bV (by omega));have RH:=qj (qp r1 bV (by omega));have y0:=qg RH.o 0;have y1:=qg RH.o 1;have yf:∀j,V.frozen? ⟨w.heap.size+1,j,none⟩=false:=fun j=>qx RH.o j;have ly:=qh RH.o;rcases hv with⟨hno,rfl⟩|⟨hok,C,us,ve,rfl,hB,hla⟩
 case inl=>
  have HN:=qj hno;clear hno b0 r0 r1 z0 bV;go_wp2;have r4:=row2 (u1:=.slice none 0 0) (u2:=.slice none 0 0) RH.o;have c0:=qg r4 0;have c1:=qg r4 1;simp only[List.getElem?_toArray,List.getElem?_cons_zero,List.getElem?_cons_succ] at c0 c1;refine bodyPost_ret (v:=.tuple #[.agg #[.slice none 0 0,.slice none 0 0],.iface ty va]) (by simp[results,Tryz.results55,go_sem,c0,c1]) rfl ⟨.inl ⟨HN.o,rfl⟩,?_⟩;exact(BV.o.setCell (p:=⟨w.heap.size+1,0,none⟩) (by show w.heap.size<=w.heap.size+1;omega) _).setCell (p:=⟨w.heap.size+1,1,none⟩) (by show w.heap.size<=w.heap.size+1;omega) _
 case inr=>
  have HOK:=qj hok;have HL:=qj hla;have hXB:X.heap.size=C.B:=hB.symm;have hCB:w.heap.size+2=C.B:=by omega
  have p1:=qg RV.o 1;have lp:=qh RV.o;clear hok hla b0 r0 r1 z0 bV hB;obtain⟨Inv,mu,hg,hi0⟩:=HG.o HOK.o.ok;have HSC:=qj (show Sl V C.B 1 (.slice sa l.length sc) l.length (l.map (.int .i64)) from(HS.o.below BV.o).more (by omega));have HGG:=qj hg;have HII:=qj hi0;clear hg hi0 HS;go_wp2_with fail;refine(la_drive HL.o HGG.o HII.o _ l HSC.o hl full).mono ?_;rintro e U ⟨M',ov,vv,rfl,hro,ho,hv,hb⟩;obtain⟨ao,co,rfl,-⟩:=ho.form2;obtain⟨ae,ce,rfl,-⟩:=hv.form2;have r1:=qp RH.o hb (by omega);have x0:=qg r1 0;have x1:=qg r1 1;have xf:∀j,U.frozen? ⟨w.heap.size+1,j,none⟩=false:=fun j=>qx r1 j;have lx:=qh r1;have HB1:=qj (BV.o.trans (hb.mono (by omega)));have HO:=qj (qq.base ho (show w.heap.size<=C.B by omega));have HV:=qj (qq.base hv (show w.heap.size<=C.B by omega));have R1:=qj r1;have HRO:=qj hro;clear ho hv hb r1 hro y0 y1 yf p1 HL HSC HGG HII;obtain⟨eo,heo⟩:∃eo,eo=xe P:=⟨_,rfl⟩
  obtain⟨ee,hee⟩:∃ee,ee=M'.W.evs:=⟨_,rfl⟩
  rw[←heo] at HO ⊢;rw[←hee] at HV ⊢;have HEE:=qj (And.intro heo hee);clear heo hee;go_wp2;have r4:=row2 (u1:=.slice ao eo.length co) (u2:=.slice ae ee.length ce) R1.o;have c0:=qg r4 0;have c1:=qg r4 1;simp only[List.getElem?_toArray,List.getElem?_cons_zero,List.getElem?_cons_succ] at c0 c1;refine bodyPost_ret (v:=.tuple #[.agg #[.slice ao eo.length co,.slice ae ee.length ce],.nilIface]) (by simp[results,Tryz.results55,go_sem,c0,c1]) rfl ⟨.inr ⟨HOK.o,M',_,_,rfl,HRO.o,?_,?_⟩,?_⟩
  ·rw [←HEE.o.1];exact qq.box2 HO.o R1.o (by decide)
  ·rw [←HEE.o.2];exact qq.box2 HV.o R1.o (by decide)
  ·exact (HB1.o.setCell (p:=⟨w.heap.size+1,0,none⟩) (by show w.heap.size<=w.heap.size+1;omega) _).setCell (p:=⟨w.heap.size+1,1,none⟩) (by show w.heap.size<=w.heap.size+1;omega) _
theorem la_Run (vc vt:Value) (P:Pg) (w:World) (h:PgIs w w.heap.size vc vt P) (ev:Value) (hev:w.cell? ⟨2,0,none⟩=some ev) (hne:∃t v,ev=.iface t v) (h10:2 < w.heap.size) (hn:P.threads.length<=1000)
  (sv:Value) (l:List Int) (hs:Sl w w.heap.size 1 sv l.length (l.map (.int .i64))) (hl:l.length<=300) (hG:Going P):
  Calls Tryz.prog 31 #[.agg #[vc,vt],sv] w (RunRet P l false ev w):=by
 obtain⟨ac,cc,rfl,mc⟩:=h.cells.ex;obtain⟨at',ct,rfl,mt⟩:=h.thr.ex;obtain⟨sa,sc,rfl,-⟩:=hs.ex;obtain⟨ty,va,rfl⟩:=hne;have H:=qj h;have HE:=qj hev;have HS:=qj hs;have HG:=qj hG;clear h hev hs hG;go_enter Tryz.func31,Tryz.ntmps31;go_wp2_with fail;have b0:Below w.heap.size w ((w.alloc (.cells #[.slice ac P.cells.length cc,.slice at' P.threads.length ct] 25)).alloc (.cells #[.slice none 0 0,.slice none 0 0] 37)):=((Below.refl _ w).alloc (Nat.le_refl _) _).alloc (by simp) _;have r1:=qL (w:=w.alloc (.cells #[.slice ac P.cells.length cc,.slice at' P.threads.length ct] 25)) (o:=.cells #[.slice none 0 0,.slice none 0 0] 37) (g:=w.heap.size+1) (by simp);have z0:((w.alloc (.cells #[.slice ac P.cells.length cc,.slice at' P.threads.length ct] 25)).alloc (.cells #[.slice none 0 0,.slice none 0 0] 37)).heap.size=w.heap.size+2:=by simp
 generalize (w.alloc (.cells #[.slice ac P.cells.length cc,.slice at' P.threads.length ct] 25)).alloc (.cells #[.slice none 0 0,.slice none 0 0] 37)=X at *;refine(la_run _ _ P X ((H.o.below b0).more (by omega)) (.iface ty va) (qu b0 h10 HE.o) ⟨_,_,rfl⟩ (by omega) hn _ l ((HS.o.below b0).more (by omega)) hl false HG.o).mono ?_;rintro e U ⟨hv,bV⟩;have zV:=bV.size;have BV:=qj (b0.trans (bV.mono (by omega)));have RH:=qj (qp r1 bV (by omega));have y0:=qg RH.o 0;have y1:=qg RH.o 1;have yf:∀j,U.frozen? ⟨w.heap.size+1,j,none⟩=false:=fun j=>qx RH.o j;have ly:=qh RH.o;have hwX:w.heap.size<=X.heap.size:=by omega
 rcases hv with⟨hno,rfl⟩|⟨hok,M',ov,vv,rfl,hro,ho,hv⟩
 ·have HN:=qj hno
  clear hno r1 z0 b0 bV;go_wp2;have r4:=row2 (u1:=.slice none 0 0) (u2:=.slice none 0 0) RH.o;have c0:=qg r4 0;have c1:=qg r4 1;simp only[List.getElem?_toArray,List.getElem?_cons_zero,List.getElem?_cons_succ] at c0 c1;refine bodyPost_ret (v:=.tuple #[.agg #[.slice none 0 0,.slice none 0 0],.iface ty va]) (by simp[results,Tryz.results31,go_sem,c0,c1]) rfl ⟨.inl ⟨HN.o,rfl⟩,?_⟩;exact(BV.o.setCell (p:=⟨w.heap.size+1,0,none⟩) (by show w.heap.size<=w.heap.size+1;omega) _).setCell (p:=⟨w.heap.size+1,1,none⟩) (by show w.heap.size<=w.heap.size+1;omega) _
 ·obtain ⟨ao,co,rfl,-⟩:=ho.form2
  obtain⟨ae,ce,rfl,-⟩:=hv.form2;have HOK:=qj hok;have HO:=qj (qq.base ho hwX);have HV:=qj (qq.base hv hwX);have HRO:=qj hro;clear hok ho hv hro r1 z0 b0 bV;obtain⟨eo,heo⟩:∃eo,eo=xe P:=⟨_,rfl⟩
  obtain⟨ee,hee⟩:∃ee,ee=M'.W.evs:=⟨_,rfl⟩
  rw[←heo] at HO ⊢;rw[←hee] at HV ⊢;have HEE:=qj (And.intro heo hee);clear heo hee;go_wp2;have r4:=row2 (u1:=.slice ao eo.length co) (u2:=.slice ae ee.length ce) RH.o;have c0:=qg r4 0;have c1:=qg r4 1;simp only[List.getElem?_toArray,List.getElem?_cons_zero,List.getElem?_cons_succ] at c0 c1;refine bodyPost_ret (v:=.tuple #[.agg #[.slice ao eo.length co,.slice ae ee.length ce],.nilIface]) (by simp[results,Tryz.results31,go_sem,c0,c1]) rfl ⟨.inr ⟨HOK.o,M',_,_,rfl,HRO.o,?_,?_⟩,?_⟩
  ·rw [←HEE.o.1];exact qq.box2 HO.o RH.o (by decide)
  ·rw [←HEE.o.2];exact qq.box2 HV.o RH.o (by decide)
  ·exact (BV.o.setCell (p:=⟨w.heap.size+1,0,none⟩) (by show w.heap.size<=w.heap.size+1;omega) _).setCell (p:=⟨w.heap.size+1,1,none⟩) (by show w.heap.size<=w.heap.size+1;omega) _
theorem la_Full (vc vt:Value) (P:Pg) (w:World) (h:PgIs w w.heap.size vc vt P) (ev:Value) (hev:w.cell? ⟨2,0,none⟩=some ev) (hne:∃t v,ev=.iface t v) (h10:2 < w.heap.size) (hn:P.threads.length<=1000)
  (sv:Value) (l:List Int) (hs:Sl w w.heap.size 1 sv l.length (l.map (.int .i64))) (hl:l.length<=300) (hG:Going P):
  Calls Tryz.prog 32 #[.agg #[vc,vt],sv] w (RunRet P l true ev w):=by
 obtain⟨ac,cc,rfl,mc⟩:=h.cells.ex;obtain⟨at',ct,rfl,mt⟩:=h.thr.ex;obtain⟨sa,sc,rfl,-⟩:=hs.ex;obtain⟨ty,va,rfl⟩:=hne;have H:=qj h;have HE:=qj hev;have HS:=qj hs;have HG:=qj hG;clear h hev hs hG;go_enter Tryz.func32,Tryz.ntmps32;go_wp2_with fail;have b0:Below w.heap.size w ((w.alloc (.cells #[.slice ac P.cells.length cc,.slice at' P.threads.length ct] 25)).alloc (.cells #[.slice none 0 0,.slice none 0 0] 37)):=((Below.refl _ w).alloc (Nat.le_refl _) _).alloc (by simp) _;have r1:=qL (w:=w.alloc (.cells #[.slice ac P.cells.length cc,.slice at' P.threads.length ct] 25)) (o:=.cells #[.slice none 0 0,.slice none 0 0] 37) (g:=w.heap.size+1) (by simp);have z0:((w.alloc (.cells #[.slice ac P.cells.length cc,.slice at' P.threads.length ct] 25)).alloc (.cells #[.slice none 0 0,.slice none 0 0] 37)).heap.size=w.heap.size+2:=by simp
 generalize (w.alloc (.cells #[.slice ac P.cells.length cc,.slice at' P.threads.length ct] 25)).alloc (.cells #[.slice none 0 0,.slice none 0 0] 37)=X at *;refine(la_run _ _ P X ((H.o.below b0).more (by omega)) (.iface ty va) (qu b0 h10 HE.o) ⟨_,_,rfl⟩ (by omega) hn _ l ((HS.o.below b0).more (by omega)) hl true HG.o).mono ?_;rintro e U ⟨hv,bV⟩;have zV:=bV.size;have BV:=qj (b0.trans (bV.mono (by omega)));have RH:=qj (qp r1 bV (by omega));have y0:=qg RH.o 0;have y1:=qg RH.o 1;have yf:∀j,U.frozen? ⟨w.heap.size+1,j,none⟩=false:=fun j=>qx RH.o j;have ly:=qh RH.o;have hwX:w.heap.size<=X.heap.size:=by omega
 rcases hv with⟨hno,rfl⟩|⟨hok,M',ov,vv,rfl,hro,ho,hv⟩
 ·have HN:=qj hno
  clear hno r1 z0 b0 bV;go_wp2;have r4:=row2 (u1:=.slice none 0 0) (u2:=.slice none 0 0) RH.o;have c0:=qg r4 0;have c1:=qg r4 1;simp only[List.getElem?_toArray,List.getElem?_cons_zero,List.getElem?_cons_succ] at c0 c1;refine bodyPost_ret (v:=.tuple #[.agg #[.slice none 0 0,.slice none 0 0],.iface ty va]) (by simp[results,Tryz.results32,go_sem,c0,c1]) rfl ⟨.inl ⟨HN.o,rfl⟩,?_⟩;exact(BV.o.setCell (p:=⟨w.heap.size+1,0,none⟩) (by show w.heap.size<=w.heap.size+1;omega) _).setCell (p:=⟨w.heap.size+1,1,none⟩) (by show w.heap.size<=w.heap.size+1;omega) _
 ·obtain ⟨ao,co,rfl,-⟩:=ho.form2
  obtain⟨ae,ce,rfl,-⟩:=hv.form2;have HOK:=qj hok;have HO:=qj (qq.base ho hwX);have HV:=qj (qq.base hv hwX);have HRO:=qj hro;clear hok ho hv hro r1 z0 b0 bV;obtain⟨eo,heo⟩:∃eo,eo=xe P:=⟨_,rfl⟩
  obtain⟨ee,hee⟩:∃ee,ee=M'.W.evs:=⟨_,rfl⟩
  rw[←heo] at HO ⊢;rw[←hee] at HV ⊢;have HEE:=qj (And.intro heo hee);clear heo hee;go_wp2;have r4:=row2 (u1:=.slice ao eo.length co) (u2:=.slice ae ee.length ce) RH.o;have c0:=qg r4 0;have c1:=qg r4 1;simp only[List.getElem?_toArray,List.getElem?_cons_zero,List.getElem?_cons_succ] at c0 c1;refine bodyPost_ret (v:=.tuple #[.agg #[.slice ao eo.length co,.slice ae ee.length ce],.nilIface]) (by simp[results,Tryz.results32,go_sem,c0,c1]) rfl ⟨.inr ⟨HOK.o,M',_,_,rfl,HRO.o,?_,?_⟩,?_⟩
  ·rw [←HEE.o.1];exact qq.box2 HO.o RH.o (by decide)
  ·rw [←HEE.o.2];exact qq.box2 HV.o RH.o (by decide)
  ·exact (BV.o.setCell (p:=⟨w.heap.size+1,0,none⟩) (by show w.heap.size<=w.heap.size+1;omega) _).setCell (p:=⟨w.heap.size+1,1,none⟩) (by show w.heap.size<=w.heap.size+1;omega) _
end
def gTh (t:Th):Nat:=40*t.tx+(if t.begun then 1 else 0)+4*t.act+(if t.adding then 2 else 0)+(if t.waits=0 then 0 else 1)
def yq:Nx->Nat
 |.none=>0
 |.abort=>1
 |.commit=>1
 |.lock l=>10+l.length
 |.tick=>10
 |.look _ l=>5+l.length
 |.write _ l=>1+l.length
 |.ans _=>1
def mTh (t:Th) (x:Nx):Nat:=16*(148 - gTh t)+yq x
def mus:List Th->List Nx->Nat
 |t::ts,x::xs=>mTh t x+mus ts xs
 |_,_=>0
def mu (M:LM):Nat:=mus M.W.ths M.nx
theorem mus_set:∀(a:List Th) (b:List Nx) (i:Nat) (t t':Th) (x x':Nx),a[i]?=some t->b[i]?=some x->mus (a.set i t') (b.set i x')+mTh t x=mus a b+mTh t' x'
 |[],b,i,t,t',x,x',h,_=>by simp at h
 |y::a,[],i,t,t',x,x',_,h=>by simp at h
 |y::a,z::b,0,t,t',x,x',h,h2=>by
  simp only[List.getElem?_cons_zero,Option.some.injEq] at h h2;subst h;subst h2;simp[mus];omega
 |y::a,z::b,i+1,t,t',x,x',h,h2=>by
  have:=mus_set a b i t t' x x' (by simpa using h) (by simpa using h2);simp only[List.set_cons_succ,mus];omega
def tot (P:Pg):Nat:=2371*P.threads.length
theorem mus_zero:∀n:Nat,mus (List.replicate n Th.zero) (List.replicate n .none)<=2368*n
 |0=>by simp[mus]
 |n+1=>by
  have:=mus_zero n;simp only[List.replicate_succ,mus];have:mTh Th.zero .none=2368:=rfl;omega
def LsOk (P:Pg) (l:List Int):Prop:=l≠[]/\l.length<=4/\∀k ∈ l,0<=k/\k < P.cells.length
def NxOk (P:Pg) (i:Nat) (t:Th) (o:Wo):Nx->Prop
 |.none=>t.waits=0
 |.abort=>t.waits=7
 |.commit=>t.waits=4
 |.lock l=>t.waits=4/\LsOk P l
 |.tick=>t.waits=4
 |.look _ l=>t.waits=4/\LsOk P l
 |.write _ l=>t.waits=4/\LsOk P l
 |.ans e=>t.waits=2/\∃a,(P.acts i t.tx)[t.act]?=some a/\a.kind≠4/\e=qE (qY t a) (qG i t.tx)
structure WoOk (P:Pg) (k:Nat) (r:MB) (s:MI):Prop where
 rsrt:KSrt r
 ssrt:KSrt s
 rin:∀p ∈ r,0<=p.1/\p.1 < P.cells.length
 sin:∀p ∈ s,0<=p.1/\p.1 < P.cells.length
 val:∀p ∈ s,inB k p.2
structure LInv (P:Pg) (M:LM):Prop where
 ok:PgOk P
 thl:M.W.ths.length=P.threads.length
 wsl:M.ws.length=P.threads.length
 nxl:M.nx.length=P.threads.length
 csl:M.cs.length=P.cells.length
 th:∀(i:Nat) (t:Th),M.W.ths[i]?=some t->ThOk P i t/\inB M.W.evs.length t.read
 nx:∀(i:Nat) (t:Th) (x:Nx) (o:Wo),M.W.ths[i]?=some t->M.nx[i]?=some x->M.ws[i]?=some o->NxOk P i t o x/\(t.begun=true->o≠none)
 wo:∀(i:Nat) (tm:Int) (r:MB) (s:MI),M.ws[i]?=some (some (tm,r,s))->WoOk P M.W.evs.length r s
 ce:∀c ∈ M.cs,inB M.W.evs.length c.val
 ev:M.W.evs.length+mu M<=tot P
 clk:0<=M.clk/\M.clk+mu M<=tot P
theorem WoOk.more {P:Pg} {k k':Nat} {r:MB} {s:MI} (h:WoOk P k r s) (hk:k<=k'):WoOk P k' r s:=⟨h.rsrt,h.ssrt,h.rin,h.sin,fun p hp=>(h.val p hp).more hk⟩
theorem LInv.turn {P:Pg} {M:LM} (h:LInv P M) {i:Nat} {t t':Th} {x x':Nx} {o o':Wo} {cs':List Ce} {es:List Ev} (ht:M.W.ths[i]?=some t) (hx:M.nx[i]?=some x) (ho:M.ws[i]?=some o)
  (h1:ThOk P i t') (h2:inB (M.W.evs++es).length t'.read) (h3:NxOk P i t' o' x') (h3':t'.begun=true->o'≠none) (h4:∀tm r s,o'=some (tm,r,s)->WoOk P (M.W.evs++es).length r s)
  (h5:cs'.length=M.cs.length) (h6:∀c' ∈ cs',inB (M.W.evs++es).length c'.val) (hm:mTh t' x' < mTh t x) (he:es.length<=1) {clk':Int} (hc:0<=clk'/\clk'<=M.clk+1):
  LInv P ⟨⟨M.W.ths.set i t',M.W.evs++es⟩,cs',M.ws.set i o',M.nx.set i x',clk'⟩/\mu ⟨⟨M.W.ths.set i t',M.W.evs++es⟩,cs',M.ws.set i o',M.nx.set i x',clk'⟩ < mu M:=by
 have hmu:=mus_set M.W.ths M.nx i t t' x x' ht hx;have hlt:mus (M.W.ths.set i t') (M.nx.set i x')+1<=mus M.W.ths M.nx:=by omega
 have hlen:M.W.evs.length<=(M.W.evs++es).length:=by simp
 refine⟨⟨h.ok,by simpa using h.thl,by simpa using h.wsl,by simpa using h.nxl,h5.trans h.csl,fun j u hu=>?_,fun j u y p hu hy hp=>?_,fun j tm r s hj=>?_,h6,?_,?_⟩,by unfold mu;show mus (M.W.ths.set i t') (M.nx.set i x') < _;omega⟩
 ·rcases xd hu with⟨rfl,rfl⟩|⟨-,hu⟩
  ·exact ⟨h1,h2⟩
  ·exact ⟨(h.th j u hu).1,(h.th j u hu).2.more hlen⟩
 ·rcases xd hu with⟨rfl,rfl⟩|⟨hne,hu⟩
  ·rcases xd hy with⟨-,rfl⟩|⟨hne,-⟩
   ·rcases xd hp with⟨-,rfl⟩|⟨hne,-⟩
    ·exact ⟨h3,h3'⟩
    ·exact absurd rfl hne
   ·exact absurd rfl hne
  ·simp only[List.getElem?_set_ne hne] at hy hp
   exact h.nx j u y p hu hy hp
 ·rcases xd hj with⟨rfl,hr⟩|⟨-,hj⟩
  ·exact h4 tm r s hr.symm
  ·exact (h.wo j tm r s hj).more hlen
 ·have:=h.ev
  unfold mu at this ⊢;show(M.W.evs++es).length+mus (M.W.ths.set i t') (M.nx.set i x')<=_;rw[List.length_append];omega
 ·have:=h.clk
  unfold mu at this ⊢;show 0<=clk'/\clk'+((mus (M.W.ths.set i t') (M.nx.set i x'):Nat):Int)<=_;omega
theorem stage_lock (l:List Int):yq (yw l)<=10+l.length:=by cases l <;> simp[yw,yq]
theorem stage_write (now:Int) (l:List Int):yq (za now l)<=1+l.length:=by cases l <;> simp[za,yq]
theorem stage_look {now:Int} {s:MI} (hs:s.length<=4) (l:List Int):yq (zh now s l)<=5+l.length:=by
 cases l with
 |nil=>have:=stage_write now (s.map (·.1));rw[List.length_map] at this;simp only[zh,List.length_nil];omega
 |cons a l=>simp[zh,yq]
theorem nxok_lock {P:Pg} {i:Nat} {t:Th} {o:Wo} {l:List Int} (hw:t.waits=4) (h4:l.length<=4) (hl:∀k ∈ l,0<=k/\k < P.cells.length):NxOk P i t o (yw l):=by
 cases l with
 |nil=>exact hw
 |cons a l=>exact⟨hw,by simp,h4,hl⟩
theorem nxok_write {P:Pg} {i:Nat} {t:Th} {o:Wo} {now:Int} {l:List Int} (hw:t.waits=4) (h4:l.length<=4) (hl:∀k ∈ l,0<=k/\k < P.cells.length):NxOk P i t o (za now l):=by
 cases l with
 |nil=>exact hw
 |cons a l=>exact⟨hw,by simp,h4,hl⟩
theorem nxok_look {P:Pg} {i:Nat} {t:Th} {o:Wo} {now:Int} {s:MI} {l:List Int} (hw:t.waits=4) (h4:l.length<=4) (hl:∀k ∈ l,0<=k/\k < P.cells.length) (hs:s.length<=4) (hsl:∀p ∈ s,0<=p.1/\p.1 < P.cells.length):NxOk P i t o (zh now s l):=by
 cases l with
 |nil=>
  refine nxok_write hw (by rw[List.length_map];exact hs) (fun k hk=>?_);obtain⟨p,hp,rfl⟩:=List.mem_map.1 hk;exact hsl p hp
 |cons a l=>exact⟨hw,by simp,h4,hl⟩
inductive Stp (P:Pg) (M:LM) (i:Nat) (t:Th):LM->Prop
 |begin (hw:t.waits=0) (hb:t.begun=false) (hx:M.nx[i]?=some .none):
   Stp P M i t ⟨M.W.put i ({t with begun:=true},qE {xG 1 with thread:=i} (qG i t.tx)),M.cs,M.ws.set i (some (M.clk,[],[])),M.nx.set i .none,M.clk⟩
 |call (a:Ac) (hw:t.waits=0) (hb:t.begun=true) (hx:M.nx[i]?=some .none) (ha:(P.acts i t.tx)[t.act]?=some a) (hk:a.kind≠4):
   Stp P M i t ⟨M.W.put i ({t with waits:=2},qE (qY t a) (qG i t.tx)),M.cs,M.ws,M.nx.set i (.ans (qE (qY t a) (qG i t.tx))),M.clk⟩
 |cancel (a:Ac) (hw:t.waits=0) (hb:t.begun=true) (hx:M.nx[i]?=some .none) (ha:(P.acts i t.tx)[t.act]?=some a) (hk:a.kind=4):
   Stp P M i t ⟨M.W.put i ({t with waits:=7},qE (xG 7) (qG i t.tx)),M.cs,M.ws,M.nx.set i .abort,M.clk⟩
 |try_ (tm:Int) (r:MB) (s:MI) (hw:t.waits=0) (hb:t.begun=true) (hx:M.nx[i]?=some .none) (ha:(P.acts i t.tx)[t.act]?=none) (hs:M.ws[i]?=some (some (tm,r,s))):
   Stp P M i t ⟨M.W.put i ({t with waits:=4},qE (xG 4) (qG i t.tx)),M.cs,M.ws,M.nx.set i (if s=[] then .commit else yw (s.map (·.1))),M.clk⟩
 |wrote (a:Ac) (tm:Int) (r:MB) (s:MI) (hw:t.waits=2) (hb:t.begun=true) (hx:M.nx[i]?=some (.ans (qE (qY t a) (qG i t.tx)))) (ha:(P.acts i t.tx)[t.act]?=some a) (hk:isWr t a) (hs:M.ws[i]?=some (some (tm,r,s))):
   Stp P M i t ⟨M.W.put i (wrTh t,qE {xG 3 with ret:=1} (qG i t.tx)),M.cs,M.ws.set i (some (tm,r,upd a.cell (wrVal t a) s)),M.nx.set i .none,M.clk⟩
 |kept (a:Ac) (tm:Int) (r:MB) (s:MI) (v:Int) (hw:t.waits=2) (hb:t.begun=true) (hx:M.nx[i]?=some (.ans (qE (qY t a) (qG i t.tx)))) (ha:(P.acts i t.tx)[t.act]?=some a) (hk:isRd t a) (hs:M.ws[i]?=some (some (tm,r,s))) (hf:yZ a.cell s=some v):
   Stp P M i t ⟨M.W.put i (rdTh t a v,qE {xG 3 with ret:=3,val:=v} (qG i t.tx)),M.cs,M.ws,M.nx.set i .none,M.clk⟩
 |read (a:Ac) (tm:Int) (r:MB) (s:MI) (hw:t.waits=2) (hb:t.begun=true) (hx:M.nx[i]?=some (.ans (qE (qY t a) (qG i t.tx)))) (ha:(P.acts i t.tx)[t.act]?=some a) (hk:isRd t a) (hs:M.ws[i]?=some (some (tm,r,s))) (hf:yZ a.cell s=none) (ht:stale tm (ceAt M.cs a.cell)=false):
   Stp P M i t ⟨M.W.put i (rdTh t a (ceAt M.cs a.cell).val,qE {xG 3 with ret:=3,val:=(ceAt M.cs a.cell).val} (qG i t.tx)),M.cs,M.ws.set i (some (tm,upd a.cell () r,s)),M.nx.set i .none,M.clk⟩
 |refused (a:Ac) (tm:Int) (r:MB) (s:MI) (hw:t.waits=2) (hb:t.begun=true) (hx:M.nx[i]?=some (.ans (qE (qY t a) (qG i t.tx)))) (ha:(P.acts i t.tx)[t.act]?=some a) (hk:isRd t a) (hs:M.ws[i]?=some (some (tm,r,s))) (hf:yZ a.cell s=none) (ht:stale tm (ceAt M.cs a.cell)=true):
   Stp P M i t ⟨M.W.put i (xw t,qE (xG 6) (qG i t.tx)),ze (qG i t.tx) M.cs,M.ws,M.nx.set i .none,M.clk⟩
 |abort (hw:t.waits=7) (hb:t.begun=true) (hx:M.nx[i]?=some .abort):
   Stp P M i t ⟨M.W.put i (xw t,qE (xG 6) (qG i t.tx)),ze (qG i t.tx) M.cs,M.ws,M.nx.set i .none,M.clk⟩
 |lock_ (k:Int) (l:List Int) (hw:t.waits=4) (hb:t.begun=true) (hx:M.nx[i]?=some (.lock (k::l))) (ho:(ceAt M.cs k).own=0):
   Stp P M i t ⟨M.W,M.cs.set k.toNat ⟨(ceAt M.cs k).val,(ceAt M.cs k).ver,qG i t.tx⟩,M.ws,M.nx.set i (yw l),M.clk⟩
 |lockNo (k:Int) (l:List Int) (hw:t.waits=4) (hb:t.begun=true) (hx:M.nx[i]?=some (.lock (k::l))) (ho:(ceAt M.cs k).own≠0):
   Stp P M i t ⟨M.W.put i (xw t,qE (xG 6) (qG i t.tx)),ze (qG i t.tx) M.cs,M.ws,M.nx.set i .none,M.clk⟩
 |tick (tm:Int) (r:MB) (s:MI) (hw:t.waits=4) (hb:t.begun=true) (hx:M.nx[i]?=some .tick) (hs:M.ws[i]?=some (some (tm,r,s))):
   Stp P M i t ⟨M.W,M.cs,M.ws,M.nx.set i (zh (M.clk+1) s (r.map (·.1))),M.clk+1⟩
 |look_ (now:Int) (k:Int) (l:List Int) (tm:Int) (r:MB) (s:MI) (hw:t.waits=4) (hb:t.begun=true) (hx:M.nx[i]?=some (.look now (k::l))) (hs:M.ws[i]?=some (some (tm,r,s))) (ht:taken i t tm (ceAt M.cs k)=false):
   Stp P M i t ⟨M.W,M.cs,M.ws,M.nx.set i (zh now s l),M.clk⟩
 |lookNo (now:Int) (k:Int) (l:List Int) (tm:Int) (r:MB) (s:MI) (hw:t.waits=4) (hb:t.begun=true) (hx:M.nx[i]?=some (.look now (k::l))) (hs:M.ws[i]?=some (some (tm,r,s))) (ht:taken i t tm (ceAt M.cs k)=true):
   Stp P M i t ⟨M.W.put i (xw t,qE (xG 6) (qG i t.tx)),ze (qG i t.tx) M.cs,M.ws,M.nx.set i .none,M.clk⟩
 |write_ (now:Int) (k:Int) (l:List Int) (tm:Int) (r:MB) (s:MI) (hw:t.waits=4) (hb:t.begun=true) (hx:M.nx[i]?=some (.write now (k::l))) (hs:M.ws[i]?=some (some (tm,r,s))):
   Stp P M i t ⟨M.W,M.cs.set k.toNat ⟨(yZ k s).getD 0,now,0⟩,M.ws,M.nx.set i (za now l),M.clk⟩
 |commit (hw:t.waits=4) (hb:t.begun=true) (hx:M.nx[i]?=some .commit):
   Stp P M i t ⟨M.W.put i (xw t,qE (xG 5) (qG i t.tx)),M.cs,M.ws,M.nx.set i .none,M.clk⟩
section
variable {P:Pg} {M:LM}
theorem LInv.kinds (h:LInv P M) {i:Nat} (hi:i < P.threads.length) {t:Th} (hd:qR P i t=false) (htk:ThOk P i t) {a:Ac} (ha:(P.acts i t.tx)[t.act]?=some a) (hk:a.kind≠4):(a.kind=1/\a.val=0\/a.kind=2\/a.kind=3)/\0<=a.cell/\a.cell < P.cells.length/\-1000<=a.val/\a.val<=1000:=by
 have htx:=zb h.ok hi htk hd;rcases h.ok.at hi htx ha with⟨hk',-⟩|h
 ·exact absurd hk' hk
 ·exact h
theorem LInv.ceVal (h:LInv P M) (k:Int):inB M.W.evs.length (ceAt M.cs k).val:=by
 unfold ceAt;cases hc:M.cs[k.toNat]? with
 |none=>simp[inB,VB];omega
 |some c=>exact h.ce c (List.mem_of_getElem? hc)
theorem stp_of (h:LInv P M) {i:Nat} (hi:i < P.threads.length) {t:Th} (ht:M.W.ths[i]?=some t) (hdn:ye P M.W i=false):Stp P M i t (stepIn P M i):=by
 have hd:qR P i t=false:=by rw[←wDone_th ht];exact hdn
 obtain⟨htk,htr⟩:=h.th i t ht;obtain⟨x,hx⟩:∃x,M.nx[i]?=some x:=⟨_,List.getElem?_eq_getElem (by rw[h.nxl];exact hi)⟩
 obtain⟨o,ho⟩:∃o,M.ws[i]?=some o:=⟨_,List.getElem?_eq_getElem (by rw[h.wsl];exact hi)⟩
 obtain⟨hnx,hob⟩:=h.nx i t x o ht hx ho;have hws:t.begun=true->∃tm r s,M.ws[i]?=some (some (tm,r,s)):=fun hb=>by
  cases o with
  |none=>exact absurd rfl (hob hb)
  |some p=>exact⟨p.1,p.2.1,p.2.2,ho⟩
 have hab:t.waits≠0->yV P i t 0 true=some (xw t,qE (xG 6) (qG i t.tx)):=fun hw=>by simp[yV,hd,hw,xw]
 unfold stepIn;rw[ht,hx];simp only;cases x with
 |none=>
  have hw:t.waits=0:=hnx;have hnn:¬(qR P i t=true\/t.waits≠0):=by simp[hd,hw]
  by_cases hb:t.begun=false
  ·have e1:yB P i t={xG 1 with thread:=i}:=by simp[yB,hb]
   have hn:nextOf P i t=some ({t with begun:=true},qE {xG 1 with thread:=i} (qG i t.tx)):=by
    simp only[nextOf,e1];rw[if_neg hnn,if_pos hb]
   have e2:∀r,yj r (qE {xG 1 with thread:=(i:Int)} (qG i t.tx))=.none:=fun r=>by simp[yj,qE,xG]
   have e3:(qE {xG 1 with thread:=(i:Int)} (qG i t.tx)).kind=1:=rfl;simp only[doStep,ownStep,hn,e2,e3,if_true];exact .begin hw hb hx
  ·have hb':t.begun=true:=by simpa using hb
   have hn:∀E,yB P i t=E->nextOf P i t=some ({t with waits:=(qE E (qG i t.tx)).kind},qE E (qG i t.tx)):=fun E e1=>by
    simp only[nextOf,e1];rw[if_neg hnn,if_neg hb]
   cases ha:(P.acts i t.tx)[t.act]? with
   |none=>
    have e1:yB P i t=xG 4:=by simp[yB,hb',ha]
    have e2:∀r,yj r (qE (xG 4) (qG i t.tx))=(if r=[] then .commit else yw (r.map (·.1))):=fun r=>by simp[yj,qE,xG]
    have e3:(qE (xG 4) (qG i t.tx)).kind=4:=rfl;simp only[doStep,ownStep,hn _ e1,e2,e3];rw[if_neg (by decide)];obtain⟨tm,r,s,hrs⟩:=hws hb';have e4:woS M.ws[i]?=s:=by rw[hrs];rfl
    rw[e4];exact .try_ tm r s hw hb' hx ha hrs
   |some a=>
    by_cases hk:a.kind=4
    ·have e1:yB P i t=xG 7:=by simp[yB,hb',ha,hk]
     have e2:∀r,yj r (qE (xG 7) (qG i t.tx))=.abort:=fun r=>by simp[yj,qE,xG]
     have e3:(qE (xG 7) (qG i t.tx)).kind=7:=rfl;simp only[doStep,ownStep,hn _ e1,e2,e3];rw[if_neg (by decide)];exact .cancel a hw hb' hx ha hk
    ·have e1:yB P i t=qY t a:=by simp[yB,hb',ha,hk]
     have ek:(qY t a).kind=2:=by unfold qY;split <;> (first|rfl|(split <;> rfl))
     have e3:(qE (qY t a) (qG i t.tx)).kind=2:=ek;have e2:∀r,yj r (qE (qY t a) (qG i t.tx))=.ans (qE (qY t a) (qG i t.tx)):=fun r=>by simp[yj,e3]
     simp only[doStep,ownStep,hn _ e1,e2,e3];rw[if_neg (by decide)];exact .call a hw hb' hx ha hk
 |abort=>
  have hw:t.waits=7:=hnx;simp only[doStep,yK,hab (by omega),yk.putO];exact .abort hw (htk.begun (by omega)) hx
 |commit=>
  have hw:t.waits=4:=hnx;have:yV P i t 0 false=some (xw t,qE (xG 5) (qG i t.tx)):=by simp[yV,hd,hw,xw]
  simp only[doStep,this,yk.putO];exact .commit hw (htk.begun (by omega)) hx
 |lock l=>
  obtain⟨hw,hne,-,-⟩:t.waits=4/\LsOk P l:=hnx;have hb:=htk.begun (by omega);cases l with
  |nil=>exact absurd rfl hne
  |cons k l=>
   simp only[doStep,lockStep];by_cases ho:(ceAt M.cs k).own=0
   ·rw [if_pos ho]
    exact .lock_ k l hw hb hx ho
   ·rw [if_neg ho]
    simp only[yK,hab (by omega),yk.putO];exact .lockNo k l hw hb hx ho
 |tick=>
  have hw:t.waits=4:=hnx;have hb:=htk.begun (by omega);obtain⟨tm,r,s,hrs⟩:=hws hb;have e0:woT M.ws[i]?=tm:=by rw[hrs];rfl
  have e1:woR M.ws[i]?=r:=by rw[hrs];rfl
  have e2:woS M.ws[i]?=s:=by rw[hrs];rfl
  rw[e0,e1,e2];exact .tick tm r s hw hb hx hrs
 |look now l=>
  obtain⟨hw,hne,-,-⟩:t.waits=4/\LsOk P l:=hnx;have hb:=htk.begun (by omega);obtain⟨tm,r,s,hrs⟩:=hws hb;have e0:woT M.ws[i]?=tm:=by rw[hrs];rfl
  have e1:woR M.ws[i]?=r:=by rw[hrs];rfl
  have e2:woS M.ws[i]?=s:=by rw[hrs];rfl
  rw[e0,e1,e2];cases l with
  |nil=>exact absurd rfl hne
  |cons k l=>
   simp only[doStep,lookStep];cases ho:taken i t tm (ceAt M.cs k) with
   |false=>exact .look_ now k l tm r s hw hb hx hrs ho
   |true=>
    simp only[if_true,yK,hab (by omega),yk.putO];exact .lookNo now k l tm r s hw hb hx hrs ho
 |write now l=>
  obtain⟨hw,hne,-,-⟩:t.waits=4/\LsOk P l:=hnx;have hb:=htk.begun (by omega);obtain⟨tm,r,s,hrs⟩:=hws hb;have e0:woT M.ws[i]?=tm:=by rw[hrs];rfl
  have e1:woR M.ws[i]?=r:=by rw[hrs];rfl
  have e2:woS M.ws[i]?=s:=by rw[hrs];rfl
  rw[e0,e1,e2];cases l with
  |nil=>exact absurd rfl hne
  |cons k l=>exact .write_ now k l tm r s hw hb hx hrs
 |ans e=>
  obtain⟨hw,a,ha,hk4,rfl⟩:=hnx;have hb:=htk.begun (by omega);obtain⟨tm,r,s,hrs⟩:=hws hb;have e0:woT M.ws[i]?=tm:=by rw[hrs];rfl
  have e1:woR M.ws[i]?=r:=by rw[hrs];rfl
  have e2:woS M.ws[i]?=s:=by rw[hrs];rfl
  rw[e0,e1,e2];obtain⟨hkk,hc0,hc1,hv0,hv1⟩:=h.kinds hi hd htk ha hk4;have hobj:(qE (qY t a) (qG i t.tx)).obj=a.cell:=by
   show(qY t a).obj=a.cell;unfold qY;split <;> (first|rfl|(split <;> rfl))
  simp only[doStep,ansStep,hobj];by_cases hwr:isWr t a
  ·have hop:(qE (qY t a) (qG i t.tx)).op=2:=by
    show(qY t a).op=2;unfold qY;rcases hwr with h1|⟨h1,h2⟩
    ·rw [if_pos h1]
    ·rw [if_neg (by omega),if_pos ⟨h1,h2⟩]
   have hval:(qE (qY t a) (qG i t.tx)).val=wrVal t a:=by
    show(qY t a).val=wrVal t a;unfold qY wrVal;rcases hwr with h1|⟨h1,h2⟩
    ·rw [if_pos h1,if_pos h1]
    ·rw [if_neg (by omega),if_pos ⟨h1,h2⟩,if_neg (by omega)]
   have han:∀v,yV P i t v false=some (wrTh t,qE {xG 3 with ret:=1} (qG i t.tx)):=fun v=>by
    have hnr:¬(a.kind=1\/a.kind=3/\t.adding=false):=by
     rintro(h1|⟨h1,h2⟩)
     ·rcases hwr with h3|⟨h3,-⟩ <;> omega
     ·rcases hwr with h3|⟨-,h3⟩
      ·omega
      ·rw [h2] at h3;cases h3
    simp only[yV,hd,hw,ha,wrTh];simp[hnr]
   rw[if_pos hop,han,hval];exact .wrote a tm r s hw hb hx ha hwr hrs
  ·have hrd:isRd t a:=by
    unfold isWr at hwr;unfold isRd;rcases hkk with⟨h1,-⟩|h1|h1
    ·exact .inl h1
    ·exact absurd (.inl h1) hwr
    ·refine .inr ⟨h1,?_⟩
     cases had:t.adding with
     |false=>rfl
     |true=>exact absurd (.inr ⟨h1,had⟩) hwr
   have hop:(qE (qY t a) (qG i t.tx)).op≠2:=by
    show(qY t a).op≠2;unfold qY;unfold isWr at hwr;rw[if_neg fun h1=>hwr (.inl h1),if_neg fun h1=>hwr (.inr h1)];show(1:Int)≠2;decide
   have han:∀v,xN v=true->xN (v+a.val)=true->yV P i t v false=some (rdTh t a v,qE {xG 3 with ret:=3,val:=v} (qG i t.tx)):=fun v h1 h2=>by
    have hr':a.kind=1\/a.kind=3/\t.adding=false:=hrd;simp only[yV,hd,hw,ha,rdTh];simp only[Bool.false_eq_true,false_or,if_false,if_pos hr',h1,h2,Bool.true_eq_false,and_false,or_self];by_cases h3:a.kind=3 <;> simp[h3]
   have hT:tot P<=9484:=by unfold tot;have:=h.ok.threads.2;omega
   have hev:=h.ev;have within:∀v,inB M.W.evs.length v->xN v=true/\xN (v+a.val)=true:=fun v hv=>by
    unfold inB VB at hv;unfold xN;simp only[Bool.and_eq_true,decide_eq_true_eq];omega
   rw[if_neg hop];have hsort:=(h.wo i tm r s hrs)
   cases hf:yZ a.cell s with
   |some v=>
    have hv:=hsort.val (a.cell,v) ((yu hsort.ssrt).1 hf);simp only[han v (within v hv).1 (within v hv).2,yk.putO];exact .kept a tm r s v hw hb hx ha hrd hrs hf
   |none=>
    have hv:inB M.W.evs.length (ceAt M.cs a.cell).val:=h.ceVal a.cell;cases hst:stale tm (ceAt M.cs a.cell) with
    |true=>
     simp only[if_true,yK,hab (by omega),yk.putO];exact .refused a tm r s hw hb hx ha hrd hrs hf hst
    |false=>
     simp only[Bool.false_eq_true,if_false,han _ (within _ hv).1 (within _ hv).2,yk.putO];exact .read a tm r s hw hb hx ha hrd hrs hf hst
end
