/- Parts of the proof; the first: LatchOpaque: what latch does is opaque. Conditions: those of each theorem, as typed. -/
import Derived.Test.YtkfhgifhfkcehaaGreatDoorQO31
import Derived.Test.YtkfhgifhfkcehaaGreatDoorQO30
import Derived.Test.YtkfhgifhfkcehaaGreatDoorQO25
import Derived.LaidEql
import Derived.Test.YtkfhgifhfkcehaaGreatDoorQO18
import Derived.Test.YtkfhgifhfkcehaaGreatDoorQO21
import Derived.ProofKit
import Derived.ChangeSame
import Derived.ChangeSlices
import Derived.WideKeyArgs
import Derived.Deep.Slices
import Derived.Deep.SlicePairs
import Derived.Deep.Fields
import Derived.Test.YtkfhgifhfkcehaaGreatDoorRows
import Derived.Lib.LaidTab
import Derived.Stop.LaidErr
import Derived.Deep.DeepHandedRow
import Derived.Deep.DeepWitnessRowRef
set_option linter.unusedVariables false
set_option linter.unusedSimpArgs false
set_option linter.unusedSectionVars false
set_option maxRecDepth 100000
set_option maxHeartbeats 4000000
namespace Go.Proofs.YtkfhgifhfkcehaaGreatDoor
open Go.ChangeAt Go.ChangeShapes Go.Deep Go.Maps Go.RowKit Go.WideShapes
section
attribute [local irreducible] xF
theorem lo_table {P:Pg} {M:LM} {A:Au} (hv:xS P) (h:Lall P M A):M.W.evs.length<=400/\(∀e ∈ M.W.evs,EvOk (qZ P).length e)/\Fed M.W.evs A/\RegOk (qZ P)/\qZ P≠[]/\A.length<=12/\(∀s ∈ A,∀d ∈ s.deeds,DdR (qZ P).length d):=by
 have hc:=hv.ok.cells;refine⟨h.evs,fun e he=>?_,h.ji.fed,⟨by simp[qZ];omega,fun o ho=>?_⟩,fun e=>?_,?_,fun s hs d hd=>?_⟩
 ·have:=h.ji.evs e he
  simpa[qZ] using this
 ·obtain ⟨c,hc,rfl⟩:=List.mem_map.1 ho
  have:=hv.ok.cell c hc;exact⟨rfl,by show -1000000000<=c;omega,by show c<=1000000000;omega⟩
 ·have:(qZ P).length=0:=by rw[e];rfl
  simp[qZ] at this;rw[this] at hc;simp at hc
 ·have hn:=h.ji.ids
  have h4:M.W.ths.length<=4:=by have:=h.li.thl;have:=hv.nums;omega
  have hsub:A.map (·.id) ⊆ (List.range 12).map (fun n:Nat=>(n:Int)+1):=by
   intro x hx;obtain⟨s,hs,rfl⟩:=List.mem_map.1 hx;obtain⟨i,t,k,ht,qh,-,hk⟩:=h.ji.all s hs;have hi:=(List.getElem?_eq_some_iff.1 ht).1;have hb:=h.ji.bt i t ht;have hk3:k < 3:=by
    rcases hk with⟨h1,-⟩|⟨h1,h2,-⟩
    ·omega
    ·have:=hb.2 h2;omega
   refine List.mem_map.2 ⟨3*i+k,List.mem_range.2 (by omega),?_⟩;rw[qh];unfold qE;omega
  have:=List.Nodup.length_le_of_subset hn hsub;simpa using this
 ·have h1:=(fed_txs h.ji.fed h.ji.evs s hs).deeds d hd
  simpa[qZ] using(⟨h1.obj,h1.op,h1.key⟩:DdR P.cells.length d)
theorem opaque_run {P:Pg} {l:List Int} {full:Bool} {M:LM} (hv:xS P) (hr:RunOf P (xm P) l full M):∃A,Fed M.W.evs A/\M.W.evs.length<=400/\(∀e ∈ M.W.evs,EvOk (qZ P).length e)/\RegOk (qZ P)/\qZ P≠[]/\A.length<=12/\PartOk (qZ P) M.W.evs:=by
 obtain⟨⟨A,ord,σ,h⟩,hp⟩:=lt_run hv.ok hr;obtain⟨h1,h2,h3,h4,h5,h6,h7⟩:=lo_table hv h.la;refine⟨A,h3,h1,h2,h4,h5,h6,fun n hn=>?_⟩;obtain⟨M',A',ord,σ,h',he⟩:=hp n hn;obtain⟨k1,k2,k3,k4,k5,k6,k7⟩:=lo_table hv h'.la;refine⟨A',by rw[←he];exact k3,k6,k7,?_⟩;have:=h'.ends;simpa[qZ,Function.comp_def] using this
theorem sh_Check (ov vv:Value) (os:List Ob) (es:List Ev) (A:Au) (w:World) (ho:Sl w w.heap.size 2 ov os.length (os.flatMap Ob.cells)) (he:Sl w w.heap.size 8 vv es.length (es.flatMap Ev.cells)) (hne:os≠[]) (hr:RegOk os) (hel:es.length<=400) (hes:∀e ∈ es,EvOk os.length e) (hW:qX w) (hF:Fed es A):
  Calls Tryz.prog 25 #[.agg #[ov,vv]] w fun e w'=>e=.returned .nilIface/\Below w.heap.size w w':=by
 obtain⟨ao,co,rfl,mo⟩:=ho.ex;obtain⟨ae,ce,rfl,me⟩:=he.ex;have b0:Below w.heap.size w (w.alloc (.cells #[.slice ao os.length co,.slice ae es.length ce] 37)):=(Below.refl _ w).alloc (Nat.le_refl _) _;have r0:=qu w (.cells #[.slice ao os.length co,.slice ae es.length ce] 37);have TC:=qh (sh_taken (.slice ao os.length co) (.slice ae es.length ce) os es A _ ((ho.below b0).more b0.size) ((he.below b0).more b0.size) hne hr hel hes (hW.below b0) hF);clear ho he hne hel hes hW hF hr;go_enter Tryz.func25,Tryz.ntmps25;go_wp2_with fail;generalize w.alloc (.cells #[.slice ao os.length co,.slice ae es.length ce] 37)=W at *;refine TC.o.mono ?_;rintro e W1 ⟨bA,rfl,-,b1⟩;go_wp2_with fail;go_ret;exact⟨rfl,b0.trans (b1.mono b0.size)⟩
theorem eqE (b:Addr) (X:World):Sem.run Tryz.prog (binOp BinOp.eql 30 (.iface 375 (.pointer (some b))) (.iface 375 (.pointer (some b)))) X=.ok (.bool true) X:=by
 have h1:(Tryz.prog.info? 375).map (·.comparable)=some true:=by kernel_rfl
 have h2:(Tryz.prog.info? 389).isSome=true:=by kernel_rfl
 obtain⟨i,hi,hc⟩:=Option.map_eq_some_iff.1 h1;obtain⟨j,hj⟩:=Option.isSome_iff_exists.1 h2;exact run_eql_iface_ptr_same X b Tryz.underlying30 Tryz.underlying375 hi hc hj
theorem eqN (b:Addr) (X:World):Sem.run Tryz.prog (binOp BinOp.eql 30 .nilIface (.iface 375 (.pointer (some b)))) X=.ok (.bool false) X:=
 run_eql_iface_nil_left X _ _ Tryz.underlying30
theorem law_latchOpaque (vc vt:Value) (P:Pg) (sv:Value) (l:List Int) (bf:Bool) (w:World) (hG:GlobS w) (h:PgIs w w.heap.size vc vt P) (hs:Sl w w.heap.size 1 sv l.length (l.map (.int .i64))):
  Calls Tryz.prog 5 #[.agg #[vc,vt],sv,.bool bf] w fun e w'=>e=.returned (.bool true)/\Below w.heap.size w w':=by
 obtain⟨ac,cc,rfl,mc⟩:=h.cells.ex;obtain⟨at',ct,rfl,mt⟩:=h.thr.ex;obtain⟨sa,sc,rfl,ms⟩:=hs.ex;have b0:Below w.heap.size w (w.alloc (.cells #[.slice ac P.cells.length cc,.slice at' P.threads.length ct] 25)):=(Below.refl _ w).alloc (Nat.le_refl _) _;have r0:=qu w (.cells #[.slice ac P.cells.length cc,.slice at' P.threads.length ct] 25);have hf:=qh (l_first20 _ (hG.below b0).t.prog);have H:=qh h;have HS:=qh hs;have HG:=qh hG;have B0:=qh b0;have R0:=qh r0;have l0:=qg r0;clear h hs hG b0 r0;go_enter Tryz.func5,Tryz.ntmps5;go_wp2_with fail;generalize w.alloc (.cells #[.slice ac P.cells.length cc,.slice at' P.threads.length ct] 25)=W at *;refine(hf.o).mono ?_;rintro e W1 ⟨rfl,b1⟩;have r1:=qj R0.o b1 l0;have l1:=qg r1;have y0:=qd r1 0;have y1:=qd r1 1;simp at y0 y1;have B1:=qh (B0.o.trans (b1.mono B0.o.size));have hz1:=B1.o.size;have hsm:=qh (l_small20 _ _ P W1 ((H.o.below B1.o).more hz1));have R1:=qh r1;clear r1 b1 hf;go_wp2_with fail;refine(hsm.o).mono ?_;rintro e W2 ⟨b,rfl,hb20,b2⟩;have r2:=qj R1.o b2 l1;have l2:=qg r2;clear y0 y1;have y0:=qd r2 0;have y1:=qd r2 1;simp at y0 y1;have B2:=qh (B1.o.trans (b2.mono hz1));have hz2:=B2.o.size;have R2:=qh r2;clear r2 b2 hsm;cases b with
 |false=>
  go_wp2;go_ret;exact⟨rfl,B2.o⟩
 |true=>
 have h20:=hb20 rfl;clear hb20;by_cases hl:l.length<=300
 case neg=>
  have q:decide (300 < l.length)=true:=by simp;omega
  have q2:decide ((300:Int) < (l.length:Int))=true:=by simp;omega
  go_wp2;go_ret;exact⟨rfl,B2.o⟩
 case pos=>
 have q:decide (300 < l.length)=false:=by simp;omega
 have q2:decide ((300:Int) < (l.length:Int))=false:=by simp;omega
 have hG2:=HG.o.below B2.o;obtain⟨g1,tt,tv,g2⟩:=hG2.t.prog;have hR:=qh (la_Run _ _ P W2 ((H.o.below B2.o).more hz2) (.iface tt tv) g2 ⟨_,_,rfl⟩ (by omega) (by omega) _ l ((HS.o.below B2.o).more hz2) hl (going P));have G2:=qh g2;clear g2;go_wp2_with fail;refine(hR.o).mono ?_;rintro e W3 ⟨hv,b3⟩;have B3:=qh (B2.o.trans (b3.mono hz2));have G3:=qh (HG.o.below B3.o);have hz3:=B3.o.size;have R3:=qh (qj R2.o b3 (qg R2.o));have hb23:W2.heap.size<=W3.heap.size:=b3.size;rcases hv with⟨hnv,rfl⟩|⟨hval,M,ov,vv,rfl,hro,ho,hv⟩
 ·have b4:Below W3.heap.size W3 (W3.alloc (.cells #[.slice none 0 0,.slice none 0 0] 37)):=(Below.refl _ W3).alloc (Nat.le_refl _) _
  have RH4:=qh (qu W3 (.cells #[.slice none 0 0,.slice none 0 0] 37));have B4:=qh (B3.o.trans (b4.mono hz3));have b24:=qh (b3.trans (b4.mono b3.size));have R4:=qh (qj R3.o b4 (qg R3.o));clear y0 y1;have y0:=qd R4.o 0;have y1:=qd R4.o 1;have yl:=qg R4.o;clear b3 b4 hR;cases bf with
  |false=>
   go_wp2_with fail;generalize W3.alloc (.cells #[.slice none 0 0,.slice none 0 0] 37)=W4 at *;simp at y0 y1;have VC:=qh (p_Valid _ _ P W4 ((H.o.below B4.o).more B4.o.size) (.iface tt tv) (qx b24.o (by omega) G2.o) (by have:=b24.o.size;omega));go_wp2_with fail;refine VC.o.mono ?_;rintro e W9 ⟨hvv,b9⟩;obtain rfl:e=.returned (.iface tt tv):=by
    rcases hvv with⟨h1,-⟩|⟨-,h2⟩
    ·exact absurd h1 hnv
    ·exact h2
   go_wp2_with fail;go_ret;exact⟨rfl,B4.o.trans (b9.mono B4.o.size)⟩
  |true=>
   go_wp2_with fail;generalize W3.alloc (.cells #[.slice none 0 0,.slice none 0 0] 37)=W4 at *;simp at y0 y1;have hFF:=qh (la_Full _ _ P W4 ((H.o.below B4.o).more B4.o.size) (.iface tt tv) (qx b24.o (by omega) G2.o) ⟨_,_,rfl⟩ (by have:=b24.o.size;omega) (by omega) _ l ((HS.o.below B4.o).more B4.o.size) hl (going P));go_wp2_with fail;refine(hFF.o).mono ?_;rintro e W5 ⟨hv5,b5⟩;have b25:=qh (b24.o.trans (b5.mono b24.o.size));have B5:=qh (B4.o.trans (b5.mono B4.o.size));have rh5:=qj RH4.o b5 (qg RH4.o);have R5:=qh (qj R4.o b5 (qg R4.o));have x0:=qd rh5 0;have x1:=qd rh5 1;simp at x0 x1;have xl:=qg rh5;have xf:=fun j=>qq rh5 j;have hbh:w.heap.size<=W3.heap.size:=hz3;rcases hv5 with⟨-,rfl⟩|⟨hval,-⟩
   case inr=>exact absurd hval hnv
   case inl=>
    have rhF:=qh (qA (qA rh5 0 (.slice none 0 0)) 1 (.slice none 0 0));have nep:W3.heap.size≠w.heap.size:=by have:=qg R3.o;omega
    have RF:=qh (qH (j:=1) (v:=.slice none 0 0) (qH (j:=0) (v:=.slice none 0 0) R5.o nep) nep);have y0:=qd RF.o 0;have y1:=qd RF.o 1;simp at y0 y1;have yl:=qg RF.o;have BF:=qh ((B5.o.setCell (p:=⟨W3.heap.size,0,none⟩) hbh (.slice none 0 0)).setCell (p:=⟨W3.heap.size,1,none⟩) hbh (.slice none 0 0));have hb3:W2.heap.size<=W3.heap.size:=hb23;have b2F:=qh ((b25.o.setCell (p:=⟨W3.heap.size,0,none⟩) hb3 (.slice none 0 0)).setCell (p:=⟨W3.heap.size,1,none⟩) hb3 (.slice none 0 0));clear rh5 b5 hFF;go_wp2_with fail;generalize (W5.setCell ⟨W3.heap.size,0,none⟩ (.slice none 0 0)).setCell ⟨W3.heap.size,1,none⟩ (.slice none 0 0)=W6 at *;have VC:=qh (p_Valid _ _ P W6 ((H.o.below BF.o).more BF.o.size) (.iface tt tv) (qx b2F.o (by omega) G2.o) (by have:=b2F.o.size;omega));go_wp2_with fail;refine VC.o.mono ?_;rintro e W9 ⟨hvv,b9⟩;obtain rfl:e=.returned (.iface tt tv):=by
     rcases hvv with⟨h1,-⟩|⟨-,h2⟩
     ·exact absurd h1 hnv
     ·exact h2
    go_wp2_with fail;go_ret;exact⟨rfl,BF.o.trans (b9.mono BF.o.size)⟩
 ·obtain ⟨oa,oc,rfl⟩:=qp.slv ho
  obtain⟨ea,ec,rfl⟩:=qp.slv hv;have b4:Below W3.heap.size W3 (W3.alloc (.cells #[.slice oa (qZ P).length oc,.slice ea M.W.evs.length ec] 37)):=(Below.refl _ W3).alloc (Nat.le_refl _) _;have RH4:=qh (qu W3 (.cells #[.slice oa (qZ P).length oc,.slice ea M.W.evs.length ec] 37));have B4:=qh (B3.o.trans (b4.mono hz3));have b24:=qh (b3.trans (b4.mono b3.size));have R4:=qh (qj R3.o b4 (qg R3.o));have HOX:=qh (qp.below ho b4);have HEX:=qh (qp.below hv b4);clear y0 y1;have y0:=qd R4.o 0;have y1:=qd R4.o 1;have yl:=qg R4.o;clear b3 b4 hR ho hv;cases bf with
  |false=>
   have RHX:=qh RH4.o;clear RH4;obtain⟨A,hfd,hel,hes,hreg,hne,hA12,hpart⟩:=opaque_run hval hro;have GX:=HG.o.below B4.o;obtain⟨bb,hbb⟩:=GX.bud;have SC:=qh (l_Judge 3000 ⟨by omega,by omega⟩ _ _ (qZ P) M.W.evs A (W3.alloc (.cells #[.slice oa (qZ P).length oc,.slice ea M.W.evs.length ec] 37)) HOX.o.sl HEX.o.sl hne hreg hel hes GX.t.words hfd hA12 GX.pow GX.t.ans ⟨by have:=GX.big;omega,hbb⟩ hpart);have CCx:=qh (fun(X:World) (hX:Below (W3.alloc (.cells #[.slice oa (qZ P).length oc,.slice ea M.W.evs.length ec] 37)).heap.size (W3.alloc (.cells #[.slice oa (qZ P).length oc,.slice ea M.W.evs.length ec] 37)) X)=>sh_Check _ _ (qZ P) M.W.evs A X (qp.below HOX.o hX).sl (qp.below HEX.o hX).sl hne hreg hel hes (GX.t.words.below hX) hfd);have HBB:=qh hbb;have BGX:=qh GX.big;clear GX hbb hfd hel hes hreg hne hA12 hpart HOX HEX hro;generalize (qZ P).length=on at *;generalize M.W.evs.length=en at *;have yh:=qd RHX.o;have yh0:=yh 0;have yh1:=yh 1;have yhl:=qg RHX.o;have RH2:=qh RHX.o;clear yh RHX;go_wp2_with fail;generalize W3.alloc (.cells #[.slice oa on oc,.slice ea en ec] 37)=W4 at *;simp at yh0 yh1;go_wp2_with fail;refine SC.o.mono ?_;rintro e W8 ⟨yy,ay,ny,cy,py,ky,er,rfl,hres,b8⟩;have b9:Below W8.heap.size W8 (W8.alloc (.cells #[.bool yy,.slice none 0 0,.slice ay ny cy,.int .i64 py,.int .i64 ky] 75)):=(Below.refl _ W8).alloc (Nat.le_refl _) _;have r9:=qh (qu W8 (.cells #[.bool yy,.slice none 0 0,.slice ay ny cy,.int .i64 py,.int .i64 ky] 75));have b89:=qh (b8.trans (b9.mono b8.size));have CK:=qh (CCx.o _ b89.o);have rh9:=qj RH2.o b89.o (qg RH2.o);have z0:=qd rh9 0;have z1:=qd rh9 1;simp at z0 z1;have zl:=qg rh9;have hbb9:=qx b89.o (by have:=BGX.o;omega) HBB.o;clear yh0 yh1 b8 b9 rh9;rcases hres with⟨rfl,rfl⟩|rfl
   ·go_wp2_with fail
    generalize W8.alloc (.cells #[.bool true,.slice none 0 0,.slice ay ny cy,.int .i64 py,.int .i64 ky] 75)=W9 at *;refine CK.o.mono ?_;rintro e W10 ⟨rfl,b10⟩;have r10:=qj r9.o b10 (qg r9.o);have u0:=qd r10 0;simp at u0;have ul:=qg r10;have hbb10:=qx b10 (by have:=BGX.o;have:=b89.o.size;omega) hbb9;have gl10:0 < W10.heap.size:=by have:=BGX.o;have:=b89.o.size;have:=b10.size;omega
    clear r10;have heq:=eqN bb W10;go_wp2_with fail;go_ret;exact⟨rfl,(B4.o.trans (b89.o.mono B4.o.size)).trans (b10.mono (Nat.le_trans B4.o.size b89.o.size))⟩
   ·go_wp2_with fail
    generalize W8.alloc (.cells #[.bool yy,.slice none 0 0,.slice ay ny cy,.int .i64 py,.int .i64 ky] 75)=W9 at *;refine CK.o.mono ?_;rintro e W10 ⟨rfl,b10⟩;have hbb10:=qx b10 (by have:=BGX.o;have:=b89.o.size;omega) hbb9;have gl10:0 < W10.heap.size:=by have:=BGX.o;have:=b89.o.size;have:=b10.size;omega
    have heq:=eqE bb W10;go_wp2_with fail;go_ret;exact⟨rfl,(B4.o.trans (b89.o.mono B4.o.size)).trans (b10.mono (Nat.le_trans B4.o.size b89.o.size))⟩
  |true=>
   clear HOX HEX hro;generalize (qZ P).length=on0 at *;generalize M.W.evs.length=en0 at *;go_wp2_with fail;have hlt34:W3.heap.size < (W3.alloc (.cells #[.slice oa on0 oc,.slice ea en0 ec] 37)).heap.size:=by simp
   generalize W3.alloc (.cells #[.slice oa on0 oc,.slice ea en0 ec] 37)=W4 at *;simp at y0 y1;have hFF:=qh (la_Full _ _ P W4 ((H.o.below B4.o).more B4.o.size) (.iface tt tv) (qx b24.o (by omega) G2.o) ⟨_,_,rfl⟩ (by have:=b24.o.size;omega) (by omega) _ l ((HS.o.below B4.o).more B4.o.size) hl (going P));go_wp2_with fail;refine(hFF.o).mono ?_;rintro e W5 ⟨hv5,b5⟩;have b25:=qh (b24.o.trans (b5.mono b24.o.size));have B5:=qh (B4.o.trans (b5.mono B4.o.size));have rh5:=qj RH4.o b5 (qg RH4.o);have R5:=qh (qj R4.o b5 (qg R4.o));have x0:=qd rh5 0;have x1:=qd rh5 1;simp at x0 x1;have xl:=qg rh5;have xf:=fun j=>qq rh5 j;have hbh:w.heap.size<=W3.heap.size:=hz3;rcases hv5 with⟨hno,-⟩|⟨-,M5,ov5,vv5,rfl,hro5,ho5,hv5'⟩
   case inl=>exact absurd hval hno
   case inr=>
    obtain⟨oa5,oc5,rfl⟩:=qp.slv ho5;obtain⟨ea5,ec5,rfl⟩:=qp.slv hv5';have rhF:=qh (qA (qA rh5 0 (.slice oa5 (qZ P).length oc5)) 1 (.slice ea5 M5.W.evs.length ec5));have HOX:=qh (qp.set (j:=1) (u:=.slice ea5 M5.W.evs.length ec5) (qp.set (j:=0) (u:=.slice oa5 (qZ P).length oc5) ho5 hlt34) hlt34);have HEX:=qh (qp.set (j:=1) (u:=.slice ea5 M5.W.evs.length ec5) (qp.set (j:=0) (u:=.slice oa5 (qZ P).length oc5) hv5' hlt34) hlt34);have BF:=qh ((B5.o.setCell (p:=⟨W3.heap.size,0,none⟩) hbh (.slice oa5 (qZ P).length oc5)).setCell (p:=⟨W3.heap.size,1,none⟩) hbh (.slice ea5 M5.W.evs.length ec5));have RHX:=qh rhF.o;clear rhF rh5 b5 hFF ho5 hv5' RH4 R4 R5;obtain⟨A,hfd,hel,hes,hreg,hne,hA12,hpart⟩:=opaque_run hval hro5;have GX:=HG.o.below BF.o;obtain⟨bb,hbb⟩:=GX.bud;have SC:=qh (l_Judge 3000 ⟨by omega,by omega⟩ _ _ (qZ P) M5.W.evs A ((W5.setCell ⟨W3.heap.size,0,none⟩ (.slice oa5 (qZ P).length oc5)).setCell ⟨W3.heap.size,1,none⟩ (.slice ea5 M5.W.evs.length ec5)) HOX.o.sl HEX.o.sl hne hreg hel hes GX.t.words hfd hA12 GX.pow GX.t.ans ⟨by have:=GX.big;omega,hbb⟩ hpart);have CCx:=qh (fun(X:World) (hX:Below ((W5.setCell ⟨W3.heap.size,0,none⟩ (.slice oa5 (qZ P).length oc5)).setCell ⟨W3.heap.size,1,none⟩ (.slice ea5 M5.W.evs.length ec5)).heap.size ((W5.setCell ⟨W3.heap.size,0,none⟩ (.slice oa5 (qZ P).length oc5)).setCell ⟨W3.heap.size,1,none⟩ (.slice ea5 M5.W.evs.length ec5)) X)=>sh_Check _ _ (qZ P) M5.W.evs A X (qp.below HOX.o hX).sl (qp.below HEX.o hX).sl hne hreg hel hes (GX.t.words.below hX) hfd);have HBB:=qh hbb;have BGX:=qh GX.big;clear GX hbb hfd hel hes hreg hne hA12 hpart HOX HEX hro5;generalize (qZ P).length=on at *;generalize M5.W.evs.length=en at *;have yh:=qd RHX.o;have yh0:=yh 0;have yh1:=yh 1;have yhl:=qg RHX.o;have RH2:=qh RHX.o;clear yh RHX;go_wp2_with fail;generalize (W5.setCell ⟨W3.heap.size,0,none⟩ (.slice oa5 on oc5)).setCell ⟨W3.heap.size,1,none⟩ (.slice ea5 en ec5)=W6 at *;simp at yh0 yh1;go_wp2_with fail;refine SC.o.mono ?_;rintro e W8 ⟨yy,ay,ny,cy,py,ky,er,rfl,hres,b8⟩;have b9:Below W8.heap.size W8 (W8.alloc (.cells #[.bool yy,.slice none 0 0,.slice ay ny cy,.int .i64 py,.int .i64 ky] 75)):=(Below.refl _ W8).alloc (Nat.le_refl _) _;have r9:=qh (qu W8 (.cells #[.bool yy,.slice none 0 0,.slice ay ny cy,.int .i64 py,.int .i64 ky] 75));have b89:=qh (b8.trans (b9.mono b8.size));have CK:=qh (CCx.o _ b89.o);have rh9:=qj RH2.o b89.o (qg RH2.o);have z0:=qd rh9 0;have z1:=qd rh9 1;simp at z0 z1;have zl:=qg rh9;have hbb9:=qx b89.o (by have:=BGX.o;omega) HBB.o;clear yh0 yh1 b8 b9 rh9;rcases hres with⟨rfl,rfl⟩|rfl
    ·go_wp2_with fail
     generalize W8.alloc (.cells #[.bool true,.slice none 0 0,.slice ay ny cy,.int .i64 py,.int .i64 ky] 75)=W9 at *;refine CK.o.mono ?_;rintro e W10 ⟨rfl,b10⟩;have r10:=qj r9.o b10 (qg r9.o);have u0:=qd r10 0;simp at u0;have ul:=qg r10;have hbb10:=qx b10 (by have:=BGX.o;have:=b89.o.size;omega) hbb9;have gl10:0 < W10.heap.size:=by have:=BGX.o;have:=b89.o.size;have:=b10.size;omega
     clear r10;have heq:=eqN bb W10;go_wp2_with fail;go_ret;exact⟨rfl,(BF.o.trans (b89.o.mono BF.o.size)).trans (b10.mono (Nat.le_trans BF.o.size b89.o.size))⟩
    ·go_wp2_with fail
     generalize W8.alloc (.cells #[.bool yy,.slice none 0 0,.slice ay ny cy,.int .i64 py,.int .i64 ky] 75)=W9 at *;refine CK.o.mono ?_;rintro e W10 ⟨rfl,b10⟩;have hbb10:=qx b10 (by have:=BGX.o;have:=b89.o.size;omega) hbb9;have gl10:0 < W10.heap.size:=by have:=BGX.o;have:=b89.o.size;have:=b10.size;omega
     have heq:=eqE bb W10;go_wp2_with fail;go_ret;exact⟨rfl,(BF.o.trans (b89.o.mono BF.o.size)).trans (b10.mono (Nat.le_trans BF.o.size b89.o.size))⟩
end
section
variable {H:Type} {enc:TypeId×Value->H} {P:Program} {W:World}
theorem cell_live {a:Addr} {u:Value} (h:W.cell? a=some u):a.block < W.heap.size/\a.spot=none:=by
 unfold World.cell? at h
 split at h
 ·rename_i hb
  refine⟨(Array.getElem?_eq_some_iff.1 hb).1,?_⟩
  split at h
  ·cases h
  ·rename_i hs;cases hh:a.spot <;> simp_all
 ·cases h
theorem addr_flat {a:Addr} (h:a.spot=none) (j:Nat):a.add j=⟨a.block,a.off+j,none⟩:=by
 obtain⟨b,o,s⟩:=a;simp only at h;subst h;unfold Addr.add
 split <;> simp_all
theorem Sl.of_each {α:Type} {f:α->List Value} {sz n cap:Nat} (hf:∀x,(f x).length=sz) (h0:0 < sz) {a:Addr} {l:List α} (hl:l.length=n) (hn:n<=9223372036854775807)
  (h:∀i x,l[i]?=some x->∀j,j < sz->W.cell? (a.add (i*sz+j))=(f x)[j]?):Sl W W.heap.size sz (.slice (some a) n cap) n (l.flatMap f):=by
 refine⟨_,_,rfl,hn,by rw[flat_length f sz hf,hl],fun hp=>?_⟩;have hcell:∀i x,l[i]?=some x->∀j,(hj:j < sz)->W.cell? (a.add (i*sz+j))=some ((f x)[j]'(by rw[hf];exact hj)):=fun i x hi j hj=>by
  rw[h i x hi j hj];exact List.getElem?_eq_getElem _
 obtain⟨hb,hs⟩:=cell_live (hcell 0 (l[0]'(by omega)) (List.getElem?_eq_getElem _) 0 h0);have hs':a.spot=none:=by
  rw[Nat.zero_mul,Nat.zero_add] at hs;simpa[Addr.add] using hs
 have hb':a.block < W.heap.size:=by
  rw[Nat.zero_mul,Nat.zero_add] at hb;simpa[Addr.add] using hb
 refine⟨a.block,a.off,?_,hb',fun j u hu=>?_⟩
 ·rw [show (⟨a.block,a.off,none⟩:Addr)=a by obtain⟨b,o,s⟩:=a;simp only at hs';rw[hs']]
 ·have hj:j < (l.flatMap f).length:=(List.getElem?_eq_some_iff.1 hu).1
  rw[flat_length f sz hf] at hj;have e:j=j / sz*sz+j % sz:=by rw[Nat.mul_comm];exact(Nat.div_add_mod j sz).symm
  have hq:j / sz < l.length:=Nat.div_lt_of_lt_mul (by rw[Nat.mul_comm];exact hj);have hr:j % sz < sz:=Nat.mod_lt _ h0;rw[e,flat_get f sz hf l (j / sz) (j % sz) _ (List.getElem?_eq_getElem hq) hr] at hu;rw[←addr_flat hs',e,h (j / sz) _ (List.getElem?_eq_getElem hq) (j % sz) hr];exact hu
theorem sl_ints {t e:TypeId} {v:Value} {d:DataW H} {p:List MemPlace} (ht:P.underlying t=some (.slice e)) (he:P.underlying e=some (.int .i64)) (ce:P.cellsOf e=1)
  (h:DataW.Trod enc P W 0 (fun _=>true) true t v d p) (hs:∃a len cap,v=.slice a len cap):
  ∃a n cap,∃l:List Int,v=.slice a n cap/\l.length=n/\Sl W W.heap.size 1 v n (l.flatMap intC):=by
 obtain⟨a',n',c',rfl⟩:=hs;obtain⟨fuel,hf⟩:=h;rcases open_ints ht he ce hf with⟨hc,_⟩|⟨a,len,cap,zs,hc,_,hl,hm,hz,_,hcell,hwf⟩
 ·simp [Value.cells] at hc
  obtain⟨rfl,rfl,rfl⟩:=hc;exact⟨none,0,0,[],rfl,rfl,⟨none,0,rfl,by omega,rfl,by simp⟩⟩
 ·simp [Value.cells] at hc
  obtain⟨rfl,rfl,rfl⟩:=hc;have hz':zs.length=c':=by rw[hz];simp
  have hlm:n'<=zs.length:=by omega
  have hmx:c'<=9223372036854775807:=hm;have hlt:(zs.take n').length=n':=by rw[List.length_take];omega
  refine⟨some a,n',c',zs.take n',rfl,hlt,Sl.of_each (f:=intC) (sz:=1) (fun _=>rfl) (by decide) hlt (by omega) ?_⟩;intro i x hi j hj;have hi':i < n':=by
   have:=(List.getElem?_eq_some_iff.1 hi).1;rw[List.length_take] at this;omega
  rw[List.getElem?_take,if_pos hi'] at hi;have:=hcell i (by omega)
  match j,hj with
  |0,_=>simpa[intC,List.getD,hi] using this
theorem isl_open {α:Type} {R:World->Nat->Value->α->Prop} {t e:TypeId} {fuel:Nat} {u:Value} {y:DataW H×List MemPlace} (ht:P.underlying t=some (.slice e)) (ce:P.cellsOf e=1)
  (hel:∀n v z,DataW.trod enc P W 0 (fun _=>true) true n e [v]=some z->∃x,R W W.heap.size v x) (h:DataW.trod enc P W 0 (fun _=>true) true fuel t [u]=some y):∃l:List α,IsL R W W.heap.size u l:=by
 rcases open_slice1 ht ce h with⟨hc,-⟩|⟨a,len,cap,m,n,V,D,Pl,hc,-,hl,hm,hmm,-,hall⟩
 ·simp only[List.cons.injEq,and_true] at hc
  subst hc;exact⟨[],[],⟨none,0,rfl,by simp,by simp,fun h=>by simp at h⟩,fun k v x hv=>by simp at hv⟩
 ·simp only[List.cons.injEq,and_true] at hc
  subst hc;have hlm:len<=m:=by rw[hmm];split <;> omega
  have each:∀i,i < len->∃x,R W W.heap.size (V i) x:=fun i hi=>hel n (V i) _ (hall i (by omega)).2;have:∃q:Nat->List α,∀i,i < len->∃x,q i=[x]/\R W W.heap.size (V i) x:=by
   obtain⟨q,hq⟩:=choose_lt (α:=List α) (p:=fun i l=>∃x,l=[x]/\R W W.heap.size (V i) x) fun i hi=>let ⟨x,hx⟩:=each i hi;⟨[x],x,rfl,hx⟩;exact⟨q,hq⟩
  obtain⟨q,hq⟩:=this;have hlen:∀n,n<=len->((List.range n).flatMap q).length=n:=fun n=>by
   induction n with
   |zero=>intro _;rfl
   |succ n ih=>
    intro hn;obtain⟨x,hx,-⟩:=hq n (by omega);rw[List.range_succ,List.flatMap_append,List.length_append,ih (by omega)];simp[hx]
  have hget:∀n,n<=len->∀i,i < n->∀x,((List.range n).flatMap q)[i]?=some x->R W W.heap.size (V i) x:=fun n=>by
   induction n with
   |zero=>intro _ i hi;omega
   |succ n ih=>
    intro hn i hi x hx;rw[List.range_succ,List.flatMap_append] at hx;by_cases hin:i < n
    ·rw [List.getElem?_append_left (by rw[hlen n (by omega)];exact hin)] at hx
     exact ih (by omega) i hin x hx
    ·obtain rfl:i=n:=by omega
     obtain⟨x',hx',hR⟩:=hq i (by omega);rw[List.getElem?_append_right (by rw[hlen i (by omega)];omega),hlen i (by omega)] at hx;simp[hx'] at hx;subst hx;exact hR
  refine⟨(List.range len).flatMap q,(List.range len).map V,?_,fun k v x hv hx=>?_⟩
  ·rw [hlen len (Nat.le_refl _)]
   have:=Sl.of_each (W:=W) (f:=yv) (sz:=1) (n:=len) (cap:=cap) (fun _=>rfl) (by decide) (a:=a) (l:=(List.range len).map V) (by simp) (by unfold maxLen at hm;omega) (fun i x hi j hj=>by
    have hi':i < len:=by have:=(List.getElem?_eq_some_iff.1 hi).1;simpa using this
    rw[List.getElem?_map,List.getElem?_range hi'] at hi;simp only[Option.map_some,Option.some.injEq] at hi;subst hi
    match j,hj with
    |0,_=>simpa[yv] using(hall i (by omega)).1)
   rwa [flat_val] at this
  ·have hk:k < len:=by have:=(List.getElem?_eq_some_iff.1 hv).1;simpa using this
   rw[List.getElem?_map,List.getElem?_range hk] at hv;simp only[Option.map_some,Option.some.injEq] at hv;subst hv;exact hget len (Nat.le_refl _) k hk x hx
theorem trodAll_kept (hl:laidOutB P=true) {W W':World} {sp:Nat->Bool}:∀{ts:List TypeId} {vs:List Value} {ds:List (DataW H)} {ps:List MemPlace},(ts.all fun t=>P.readableRec t&&decide (t < P.types.size))=true->
  DataW.TrodAll enc P W 0 (fun _=>true) true ts vs ds ps->(∀p ∈ ps,W.sameAt W' p)->(∀p ∈ ps,sp p.block=true)->DataW.TrodAll enc P W' 0 sp true ts vs ds ps
 |[],[],[],_,_,h,_,_=>h
 |t::_,_::_,_::_,_,hT,⟨p,q,h1,h2,e⟩,hs,hsp=>by
  simp only[List.all_cons,Bool.and_eq_true,decide_eq_true_eq] at hT;exact⟨p,q,WideElems.Trod_stays hl hT.1.1 hT.1.2 h1 (fun x hx=>hs x (by rw[e];exact List.mem_append_left _ hx)) (fun x hx=>hsp x (by rw[e];exact List.mem_append_left _ hx)),
   trodAll_kept hl hT.2 h2 (fun x hx=>hs x (by rw[e];exact List.mem_append_right _ hx)) (fun x hx=>hsp x (by rw[e];exact List.mem_append_right _ hx)),e⟩
theorem post_args {f:Func} {s:ChangeSpec} {apart fresh handsOn again:Bool} {W W':World} {args:Array Value} {v:Value} {ds gs:List (DataW H)} {before:List MemPlace}
  (hW:DataW.Whole enc P f.params.toList s.vars apart W args.toList ds gs before)
  (hA:DataW.TrodAll enc P W 0 (fun _=>true) true f.params.toList args.toList ds before)
  (hl:laidOutB P=true) (hT:(f.params.toList.all fun t=>P.readableRec t&&decide (t < P.types.size))=true) (hv:s.vars=[])
  (hres:∀(b:Nat) (sp:Nat->Bool) (hd:Bool),DataW.TrodAll enc P W' b sp hd f.resultTypes.toList (v.resultList f.resultTypes.size) (s.fn H (ds++gs)).results [])
  (hargs:(s.fn H (ds++gs)).args=ds) (hvars:(s.fn H (ds++gs)).vars=[])
  (hb:Below W.heap.size W W')
  (hok:∀(j:Nat) (t:TypeId) (r:Value),f.resultTypes[j]?=some t->(v.resultList f.resultTypes.size)[j]?=some r->Value.okWide P W' .any 0 t r):
  s.post enc P f apart fresh handsOn again W args v W':=by
 have hlt:∀p ∈ before,p.block < W.heap.size:=fun p hp=>hW.lt p hp;have key:∀sp:Nat->Bool,(∀p ∈ before,sp p.block=true)->DataW.TrodAll enc P W' 0 sp true f.params.toList args.toList (s.fn H (ds++gs)).args before:=fun sp hsp=>by
  rw[hargs];exact trodAll_kept hl hT hA (fun p hp=>hb.same (hlt p hp)) hsp
 have hvs:∀sp:Nat->Bool,DataW.TrodVars enc P W' sp s.vars (s.fn H (ds++gs)).vars []:=fun sp=>by rw[hv,hvars];rfl
 have hold:∀p ∈ before,(fun b=>decide (b < W.heap.size)) p.block=true:=fun p hp=>by simpa using hlt p hp
 refine⟨ds,gs,before,[],before,[],hW,hres _ _ _,key _ hold,hvs _,World.keptBut_mono (fun p hp=>⟨hp,.inr (.inl hp)⟩) (hb.frame (· ∈ before)),fun _=>?_⟩;obtain⟨_,_,_,_,_,hz,hn⟩:=hW;refine⟨hok,_,_,([]++before)++[],⟨[]++before,[],trodAll_append (key _ (fun _ _=>rfl)) (hres _ _ _),hvs _,rfl,?_,?_⟩,?_⟩
 ·intro b off hp
  have hin:MemPlace.cell b off ∈ before:=by simpa using hp
  rw[hb.frozen (hlt _ hin)];exact hz b off hin
 ·intro ha
  simpa using hn ha
 ·intro p hp _
  simpa using hp
end
section
variable {H:Type} {enc:TypeId×Value->H} {W:World}
theorem acts_open {fuel:Nat} {u:Value} {y:DataW H×List MemPlace} (h:DataW.trod enc Tryz.prog W 0 (fun _=>true) true fuel 80 [u]=some y):∃l:List Ac,IsActs W W.heap.size u l:=by
 rcases open_slice Tryz.underlying80 h with⟨hc,-⟩|⟨a,len,cap,m,k,D,Pl,hc,-,hl,hm,hmm,-,hall⟩
 ·simp only[List.cons.injEq,and_true] at hc
  subst hc;exact⟨[],none,0,rfl,by simp,by simp,fun h=>by simp at h⟩
 ·simp only[List.cons.injEq,and_true] at hc
  subst hc;have hlm:len<=m:=by rw[hmm];split <;> omega
  have ce:Tryz.prog.cellsOf 118=3:=by kernel_rfl
  have ci:Tryz.prog.cellsOf 3=1:=by kernel_rfl
  have each:∀i,i < len->∃x:Int×Int×Int,∀j,j < 3->W.cell? (a.add (i*3+j))=(Ac.cells ⟨x.1,x.2.1,x.2.2⟩)[j]?:=fun i hi=>by
   obtain⟨cs',h1,h2⟩:=hall i (by omega);rw[ce] at h1;obtain⟨_,hlen,hcell⟩:=World.cells?_some h1;obtain⟨xs,k',hk,hxy,_,hxl,hf⟩:=DataW.trod_struct Tryz.underlying118 h2
   match xs,hxl,cs',hlen with
   |[y0,y1,y2],_,[v0,v1,v2],_=>
    have g0:=hf 0 _ rfl;have g1:=hf 1 _ rfl;have g2:=hf 2 _ rfl;simp[ci] at g0 g1 g2;have e0:=hcell 0 (by omega);have e1:=hcell 1 (by omega);have e2:=hcell 2 (by omega);rw[add_add] at e0 e1 e2;obtain⟨x,q0,-,w0⟩:=DataW.trod_int Tryz.underlying3 g0;obtain⟨y,q1,-,w1⟩:=DataW.trod_int Tryz.underlying3 g1;obtain⟨z,q2,-,w2⟩:=DataW.trod_int Tryz.underlying3 g2;simp only[List.cons.injEq,and_true] at q0 q1 q2;subst q0 q1 q2;refine⟨(x,y,z),fun j hj=>?_⟩
    match j,hj with
    |0,_=>simpa[Ac.cells] using e0
    |1,_=>simpa[Ac.cells] using e1
    |2,_=>simpa[Ac.cells] using e2
  obtain⟨q,hq⟩:=choose_lt each;refine⟨(List.range len).map fun i=>⟨(q i).1,(q i).2.1,(q i).2.2⟩,?_⟩;have hll:((List.range len).map fun i=>(⟨(q i).1,(q i).2.1,(q i).2.2⟩:Ac)).length=len:=by simp
  unfold IsActs;rw[hll];refine Sl.of_each Ac.len (by omega) (by simp) (by unfold maxLen at hm;omega) fun i x hi j hj=>?_;have hi':i < len:=by have:=(List.getElem?_eq_some_iff.1 hi).1;simpa using this
  rw[List.getElem?_map,List.getElem?_range hi'] at hi;simp only[Option.map_some,Option.some.injEq] at hi;subst hi;exact hq i hi' j hj
theorem thr_open {fuel:Nat} {u:Value} {y:DataW H×List MemPlace} (h:DataW.trod enc Tryz.prog W 0 (fun _=>true) true fuel 23 [u]=some y):∃l,IsThr W W.heap.size u l:=
 isl_open Tryz.underlying23 (by kernel_rfl) (fun n v z hz=>isl_open Tryz.underlying79 (by kernel_rfl) (fun n v z hz=>acts_open hz) hz) h
theorem pg_open {r:Reach} {b0:Nat} {v:Value} {d:DataW H} {p:List MemPlace} (hv:Value.okWide Tryz.prog W r b0 25 v) (h:DataW.Trod enc Tryz.prog W 0 (fun _=>true) true 25 v d p):∃vc vt P,v=.agg #[vc,vt]/\PgIs W W.heap.size vc vt P:=by
 obtain⟨cs,rfl,hs⟩:=okWide_struct Tryz.underlying25 hv;obtain⟨fuel,hf⟩:=h;have c2:Tryz.prog.cellsOf 25=2:=by kernel_rfl
 have ci:Tryz.prog.cellsOf 22=1:=by kernel_rfl
 have ct:Tryz.prog.cellsOf 23=1:=by kernel_rfl
 rw[c2] at hs;obtain⟨xs,k',hk,hxy,_,hxl,hfs⟩:=DataW.trod_struct Tryz.underlying25 hf
 match cs,hs,xs,hxl with
 |⟨[u0,u1]⟩,_,[y0,y1],_=>
  have g0:=hfs 0 _ rfl;have g1:=hfs 1 _ rfl;simp[Value.cells,ci,ct] at g0 g1;obtain⟨P2,h2⟩:=thr_open g1;have hsl:∃a len cap,u0=.slice a len cap:=by
   rcases open_slice Tryz.underlying22 g0 with⟨hc,-⟩|⟨a,len,cap,m,k,D,Pl,hc,-⟩ <;> simp only[List.cons.injEq,and_true] at hc
   ·exact ⟨_,_,_,hc⟩
   ·exact ⟨_,_,_,hc⟩
  obtain⟨a,n,c,l,e,hl,h1⟩:=sl_ints Tryz.underlying22 Tryz.underlying3 (by kernel_rfl) (d:=y0.1) (p:=y0.2) ⟨k',by
   obtain⟨_,_,_,rfl⟩:=hsl;simpa[Value.cells] using g0⟩ hsl
  subst e;refine⟨_,_,⟨l,P2⟩,rfl,⟨?_,h2⟩⟩;show Sl W W.heap.size 1 _ l.length (l.map (.int .i64));rw[hl];have:l.flatMap intC=l.map (.int .i64):=by
   clear h1 hl
   induction l with
   |nil=>rfl
   |cons x l ih=>simp[intC,ih]
  rw[←this];exact h1
theorem sched_open {r:Reach} {b0:Nat} {v:Value} {d:DataW H} {p:List MemPlace} (hv:Value.okWide Tryz.prog W r b0 22 v) (h:DataW.Trod enc Tryz.prog W 0 (fun _=>true) true 22 v d p):∃l:List Int,Sl W W.heap.size 1 v l.length (l.map (.int .i64)):=by
 obtain⟨a,n,c,l,rfl,hl,h1⟩:=sl_ints Tryz.underlying22 Tryz.underlying3 (by kernel_rfl) h (okWide_slice Tryz.underlying22 hv);refine⟨l,?_⟩;rw[hl];have:l.flatMap intC=l.map (.int .i64):=by
  clear h1 hl
  induction l with
  |nil=>rfl
  |cons x l ih=>simp[intC,ih]
 rw[←this];exact h1
end
def strData (zs:List (List UInt8)):DataW Unit:=.agg (zs.map fun z=>.lit (.string z))
theorem cells_of_strs {enc:TypeId×Value->Unit} {P:Program} {w:World} {base:Nat} {sp:Nat->Bool} {held:Bool} {fuel:Nat} {t e:TypeId} {n:Nat} {cs:List Value} {zs:List (List UInt8)} {p:List MemPlace}
  (ht:P.underlying t=some (.array n e)) (he:P.underlying e=some .string) (hce:P.cellsOf e=1) (h:DataW.trod enc P w base sp held fuel t cs=some (strData zs,p)) (i:Nat) (z:List UInt8) (hz:zs[i]?=some z):
  ∃s:ByteArray,cs[i]?=some (.string s)/\s.data.toList=z:=by
 cases fuel with
 |zero=>simp[DataW.trod] at h
 |succ fuel=>
  simp only[DataW.trod,ht,hce,Nat.mul_one] at h
  split at h
  ·rename_i hl
   obtain⟨xs,hm,hx⟩:=Option.map_eq_some_iff.1 h;have hxs:xs.map (·.1)=zs.map fun z=>(DataW.lit (.string z):DataW Unit):=by
    have:=congrArg Prod.fst hx;simpa[strData] using this
   have hxl:xs.length=n:=by simpa using Lib.mapM_length hm
   have hzl:zs.length=n:=by
    have:=congrArg List.length hxs;simp at this;omega
   have hi:i < n:=by have:=(List.getElem?_eq_some_iff.1 hz).1;omega
   obtain⟨b,hb,hf⟩:=Lib.mapM_at hm i i (by simp[hi]);obtain⟨s,hc,rfl,_⟩:=DataW.trod_string he hf;refine⟨s,?_,?_⟩
   ·have:=congrArg (·[0]?) hc
    simpa[List.getElem?_take,List.getElem?_drop] using this
   ·have h2:(xs.map (·.1))[i]?=some (DataW.lit (.string s.data.toList):DataW Unit):=by simp[hb]
    rw[hxs] at h2;simp only[List.getElem?_map,hz,Option.map_some,Option.some.injEq,DataW.lit.injEq,Lit.string.injEq] at h2;exact h2.symm
  ·cases h
theorem strs_at {P:Program} {W:World} {name:String} {zs:List (List UInt8)} {rest:List (String×DataW Unit)} {g:Nat} {t e:TypeId} {n:Nat}
  (hg:P.globalNamed name=some g) (hty:(P.globals[g]?).map (·.type)=some t) (ht:P.underlying t=some (.array n e)) (he:P.underlying e=some .string) (hce:P.cellsOf e=1)
  (h:laidMet P ((name,strData zs)::rest) W) (i:Nat) (z:List UInt8) (hz:zs[i]?=some z):∃s:ByteArray,W.cell? ⟨g,i,none⟩=some (.string s)/\s.data.toList=z:=by
 obtain⟨ps,⟨g',t',cs,fuel,p,q,hg',ht',hvar,hd,_,_⟩,_⟩:=h;obtain rfl:=Option.some.inj (hg.symm.trans hg');obtain rfl:=Option.some.inj (hty.symm.trans ht');obtain⟨s,h1,h2⟩:=cells_of_strs ht he hce hd i z hz;have:=World.var?_cell hg hvar i;exact⟨s,by rw[this];simpa using h1,h2⟩
theorem ba_of {s:ByteArray} {l:List UInt8} (h:s.data.toList=l):s=⟨l.toArray⟩:=by
 obtain⟨⟨d⟩⟩:=s;simp only at h;subst h;rfl
theorem live_of {W:World} {b off:Nat} {u:Value} (h:W.cell? ⟨b,off,none⟩=some u):b < W.heap.size:=(cell_live h).1
theorem errRow (u:TypeId) (h:Tryz.prog.typeName? 3 u=some "*errors.errorString"):u=375:=
 typeName_ptr_named (nm:= "errors.errorString") (by rw[show "*" ++ "errors.errorString" = "*errors.errorString" by decide];kernel_rfl) (by kernel_rfl) (by decide) u (by rw[show "*" ++ "errors.errorString" = "*errors.errorString" by decide];exact h)
theorem glob_of_laid {W:World} (h:laidMet Tryz.prog Rows.latchOpaqueUptoRow.laid W):GlobS W:=by
 obtain⟨aP,sP,hP,-⟩:=laid_sentinel (P:=Tryz.prog) (n:= "umpire/api.ErrProg") (g:=2) (tp:=375) (te:=389) (ts:=9) (h.tail.tail.tail.tail.tail.tail.tail.tail.tail.tail.tail.tail.tail.tail.tail.tail.tail) (by kernel_rfl) (by kernel_rfl) Tryz.underlying30 errRow Tryz.underlying375 Tryz.underlying389 rfl rfl Tryz.underlying9 (by kernel_rfl) (by kernel_rfl);have cP:=World.var?_cell (P:=Tryz.prog) (show Tryz.prog.globalNamed "umpire/api.ErrProg" =some 2 by kernel_rfl) hP 0;obtain⟨aA,sA,hA,-⟩:=laid_sentinel (P:=Tryz.prog) (n:= "umpire/api.ErrAnswer") (g:=15) (tp:=375) (te:=389) (ts:=9) (h.tail.tail.tail.tail.tail.tail.tail.tail) (by kernel_rfl) (by kernel_rfl) Tryz.underlying30 errRow Tryz.underlying375 Tryz.underlying389 rfl rfl Tryz.underlying9 (by kernel_rfl) (by kernel_rfl);have cA:=World.var?_cell (P:=Tryz.prog) (show Tryz.prog.globalNamed "umpire/api.ErrAnswer" =some 15 by kernel_rfl) hA 0;obtain⟨aB,sB,hB,-⟩:=laid_sentinel (P:=Tryz.prog) (n:= "umpire/api.ErrBudget") (g:=0) (tp:=375) (te:=389) (ts:=9) (h.tail.tail.tail.tail.tail.tail.tail.tail.tail.tail.tail.tail.tail.tail.tail) (by kernel_rfl) (by kernel_rfl) Tryz.underlying30 errRow Tryz.underlying375 Tryz.underlying389 rfl rfl Tryz.underlying9 (by kernel_rfl) (by kernel_rfl);have cB:=World.var?_cell (P:=Tryz.prog) (show Tryz.prog.globalNamed "umpire/api.ErrBudget" =some 0 by kernel_rfl) hB 0;obtain⟨sO,cO,eO⟩:=strs_at (P:=Tryz.prog) (zs:=[[114,101,103,105,115,116,101,114],[99,111,117,110,116,101,114],[113,117,101,117,101],[109,97,112]]) (show Tryz.prog.globalNamed "umpire/event.objects" =some 16 by kernel_rfl) (show(Tryz.prog.globals[16]?).map (·.type)=some 337 by kernel_rfl) Tryz.underlying337 Tryz.underlying9 (by kernel_rfl) (h.tail.tail.tail.tail.tail.tail.tail.tail.tail.tail.tail.tail.tail.tail.tail.tail.tail.tail.tail) 0 [114,101,103,105,115,116,101,114] rfl;obtain⟨sK,cK,eK⟩:=strs_at (P:=Tryz.prog) (zs:=[[111,107],[110,111,110,101],[118,97,108]]) (show Tryz.prog.globalNamed "umpire/event.answers" =some 19 by kernel_rfl) (show(Tryz.prog.globals[19]?).map (·.type)=some 340 by kernel_rfl) Tryz.underlying340 Tryz.underlying9 (by kernel_rfl) (h.tail.tail.tail.tail.tail.tail.tail.tail.tail.tail.tail.tail.tail.tail.tail.tail.tail.tail.tail.tail.tail.tail) 0 [111,107] rfl;obtain⟨sV,cV,eV⟩:=strs_at (P:=Tryz.prog) (zs:=[[111,107],[110,111,110,101],[118,97,108]]) (show Tryz.prog.globalNamed "umpire/event.answers" =some 19 by kernel_rfl) (show(Tryz.prog.globals[19]?).map (·.type)=some 340 by kernel_rfl) Tryz.underlying340 Tryz.underlying9 (by kernel_rfl) (h.tail.tail.tail.tail.tail.tail.tail.tail.tail.tail.tail.tail.tail.tail.tail.tail.tail.tail.tail.tail.tail.tail) 2 [118,97,108] rfl;have tp:Lib.TabIs Tryz.prog W "internal/strconv.uint64pow10" .u64 Lib.pow10Tab:=Lib.tabIs_of_head (g:=23) (t:=371) (e:=334) (n:=20) (by kernel_rfl) (by kernel_rfl) Tryz.underlying371 Tryz.underlying334 (by kernel_rfl) (by kernel_rfl) (h.tail.tail);have t6:Lib.TabIs Tryz.prog W "math/bits.deBruijn64tab" .u8 [0,1,56,2,57,49,28,3,61,58,42,50,38,29,17,4,62,47,59,36,45,43,51,22,53,39,33,30,24,18,12,5,63,55,48,27,60,41,37,16,46,35,44,21,52,32,23,11,54,26,40,15,34,20,31,10,25,14,19,9,13,8,7,6]:=Lib.tabIs_of_head (g:=25) (t:=374) (e:=5) (n:=64) (by kernel_rfl) (by kernel_rfl) Tryz.underlying374 Tryz.underlying5 (by kernel_rfl) (by kernel_rfl) (h.tail);have hbig:25 < W.heap.size:=live_of (t6.cell (g:=25) (by kernel_rfl) 0 (by decide));rw[ba_of eO] at cO;rw[ba_of eK] at cK;rw[ba_of eV] at cV;have gt:GlobT W:=⟨⟨by omega,375,.pointer (some aP),by simpa using cP⟩,⟨by omega,cK,cV,cO⟩,⟨by omega,375,.pointer (some aA),by simpa using cA⟩⟩
 exact⟨gt,tp,by omega,⟨aB,by simpa using cB⟩⟩
theorem own:ownKnob Tryz.prog.godebug=none:=by kernel_rfl
noncomputable def low:Nat:=(World.holding Tryz.prog default ⟨#[],#[],[]⟩).heap.size
def yw (h:Array Obj) (g:Nat) (cs:Array Value):Array Obj:=h.modify g fun
 |.cells _ t frozen=>.cells cs t frozen
 |o=>o
noncomputable def laidWorld (os:Os):World:=
 let w0:=World.holding Tryz.prog os ⟨#[.cells #[.string ⟨#[116,111,111,32,109,97,110,121]⟩] 389,
  .cells #[.string ⟨#[110,111,32,115,117,99,104,32,99,111,100,101]⟩] 389,
  .cells #[.string ⟨#[110,111,32,111,98,106,101,99,116]⟩] 389,
  .cells #[.string ⟨#[110,111,32,101,118,101,110,116]⟩] 389,
  .cells #[.string ⟨#[110,111,32,111,112,101,114,97,116,105,111,110,32,111,102,32,116,104,97,116,32,111,98,106,101,99,116]⟩] 389,
  .cells #[.string ⟨#[110,111,32,97,110,115,119,101,114,32,111,102,32,116,104,97,116,32,111,112,101,114,97,116,105,111,110]⟩] 389,
  .cells #[.string ⟨#[110,111,32,115,117,99,104,32,116,114,97,110,115,97,99,116,105,111,110]⟩] 389,
  .cells #[.string ⟨#[105,116,32,104,97,115,32,98,101,103,117,110,32,97,108,114,101,97,100,121]⟩] 389,
  .cells #[.string ⟨#[116,104,101,32,116,104,114,101,97,100,32,105,115,32,98,117,115,121]⟩] 389,
  .cells #[.string ⟨#[105,116,32,100,111,101,115,32,110,111,116,32,99,111,109,101,32,104,101,114,101]⟩] 389,
  .cells #[.string ⟨#[110,111,32,108,101,118,101,108]⟩] 389,
  .cells #[.string ⟨#[116,111,111,32,109,97,110,121,32,116,114,97,110,115,97,99,116,105,111,110,115,32,116,111,32,98,101,32,106,117,100,103,101,100]⟩] 389,
  .cells #[.string ⟨#[116,104,101,32,115,101,97,114,99,104,32,104,97,115,32,115,101,101,110,32,116,111,111,32,109,117,99,104]⟩] 389,
  .cells #[.string ⟨#[116,104,101,114,101,32,105,115,32,110,111,110,101]⟩] 389,
  .cells #[.string ⟨#[110,111,32,112,114,111,103,114,97,109]⟩] 389,
  .cells #[.string ⟨#[105,116,32,119,97,115,32,115,116,111,112,112,101,100]⟩] 389],#[],[]⟩
 let h0:=yw w0.heap 3 #[.iface 375 (.pointer (some ⟨low+0,0,none⟩))]
 let h1:=yw h0 14 #[.iface 375 (.pointer (some ⟨low+1,0,none⟩))]
 let h2:=yw h1 1 #[.iface 375 (.pointer (some ⟨low+2,0,none⟩))]
 let h3:=yw h2 5 #[.iface 375 (.pointer (some ⟨low+3,0,none⟩))]
 let h4:=yw h3 4 #[.iface 375 (.pointer (some ⟨low+4,0,none⟩))]
 let h5:=yw h4 15 #[.iface 375 (.pointer (some ⟨low+5,0,none⟩))]
 let h6:=yw h5 12 #[.iface 375 (.pointer (some ⟨low+6,0,none⟩))]
 let h7:=yw h6 10 #[.iface 375 (.pointer (some ⟨low+7,0,none⟩))]
 let h8:=yw h7 11 #[.iface 375 (.pointer (some ⟨low+8,0,none⟩))]
 let h9:=yw h8 13 #[.iface 375 (.pointer (some ⟨low+9,0,none⟩))]
 let h10:=yw h9 6 #[.iface 375 (.pointer (some ⟨low+10,0,none⟩))]
 let h11:=yw h10 9 #[.iface 375 (.pointer (some ⟨low+11,0,none⟩))]
 let h12:=yw h11 0 #[.iface 375 (.pointer (some ⟨low+12,0,none⟩))]
 let h13:=yw h12 7 #[.iface 375 (.pointer (some ⟨low+13,0,none⟩))]
 let h14:=yw h13 2 #[.iface 375 (.pointer (some ⟨low+14,0,none⟩))]
 let h15:=yw h14 8 #[.iface 375 (.pointer (some ⟨low+15,0,none⟩))]
 let h16:=yw h15 24 #[.int .u8 0,.int .u8 1,.int .u8 28,.int .u8 2,.int .u8 29,.int .u8 14,.int .u8 24,.int .u8 3,.int .u8 30,.int .u8 22,.int .u8 20,.int .u8 15,.int .u8 25,.int .u8 17,.int .u8 4,.int .u8 8,.int .u8 31,.int .u8 27,.int .u8 13,.int .u8 23,.int .u8 21,.int .u8 19,.int .u8 16,.int .u8 7,.int .u8 26,.int .u8 12,.int .u8 18,.int .u8 6,.int .u8 11,.int .u8 5,.int .u8 10,.int .u8 9]
 let h17:=yw h16 25 #[.int .u8 0,.int .u8 1,.int .u8 56,.int .u8 2,.int .u8 57,.int .u8 49,.int .u8 28,.int .u8 3,.int .u8 61,.int .u8 58,.int .u8 42,.int .u8 50,.int .u8 38,.int .u8 29,.int .u8 17,.int .u8 4,.int .u8 62,.int .u8 47,.int .u8 59,.int .u8 36,.int .u8 45,.int .u8 43,.int .u8 51,.int .u8 22,.int .u8 53,.int .u8 39,.int .u8 33,.int .u8 30,.int .u8 24,.int .u8 18,.int .u8 12,.int .u8 5,.int .u8 63,.int .u8 55,.int .u8 48,.int .u8 27,.int .u8 60,.int .u8 41,.int .u8 37,.int .u8 16,.int .u8 46,.int .u8 35,.int .u8 44,.int .u8 21,.int .u8 52,.int .u8 32,.int .u8 23,.int .u8 11,.int .u8 54,.int .u8 26,.int .u8 40,.int .u8 15,.int .u8 34,.int .u8 20,.int .u8 31,.int .u8 10,.int .u8 25,.int .u8 14,.int .u8 19,.int .u8 9,.int .u8 13,.int .u8 8,.int .u8 7,.int .u8 6]
 let h18:=yw h17 23 #[.int .u64 1,.int .u64 10,.int .u64 100,.int .u64 1000,.int .u64 10000,.int .u64 100000,.int .u64 1000000,.int .u64 10000000,.int .u64 100000000,.int .u64 1000000000,.int .u64 10000000000,.int .u64 100000000000,.int .u64 1000000000000,.int .u64 10000000000000,.int .u64 100000000000000,.int .u64 1000000000000000,.int .u64 10000000000000000,.int .u64 100000000000000000,.int .u64 1000000000000000000,.int .u64 10000000000000000000]
 let h19:=yw h18 16 #[.string ⟨#[114,101,103,105,115,116,101,114]⟩,.string ⟨#[99,111,117,110,116,101,114]⟩,.string ⟨#[113,117,101,117,101]⟩,.string ⟨#[109,97,112]⟩]
 let h20:=yw h19 17 #[.string ⟨#[98,101,103,105,110]⟩,.string ⟨#[99,97,108,108]⟩,.string ⟨#[114,101,116,117,114,110]⟩,.string ⟨#[116,114,121]⟩,.string ⟨#[99,111,109,109,105,116]⟩,.string ⟨#[97,98,111,114,116]⟩,.string ⟨#[99,97,110,99,101,108]⟩]
 let h21:=yw h20 18 #[.string ⟨#[114,101,97,100]⟩,.string ⟨#[119,114,105,116,101]⟩,.string ⟨#[97,100,100]⟩,.string ⟨#[103,101,116]⟩,.string ⟨#[101,110,113]⟩,.string ⟨#[100,101,113]⟩,.string ⟨#[112,117,116]⟩,.string ⟨#[108,111,111,107]⟩,.string ⟨#[100,101,108]⟩]
 let h22:=yw h21 19 #[.string ⟨#[111,107]⟩,.string ⟨#[110,111,110,101]⟩,.string ⟨#[118,97,108]⟩]
 let h23:=yw h22 20 #[.string ⟨#[108,105,118,101]⟩,.string ⟨#[112,101,110,100,105,110,103]⟩,.string ⟨#[99,111,109,109,105,116,116,101,100]⟩,.string ⟨#[97,98,111,114,116,101,100]⟩]
 let h24:=yw h23 21 #[.string ⟨#[115,101,114,105,97,108]⟩,.string ⟨#[115,116,114,105,99,116]⟩,.string ⟨#[102,105,110,97,108]⟩,.string ⟨#[111,112,97,113,117,101]⟩]
 {w0 with heap:=h24}
theorem laid_met (os:Os) (args:Array Value):laidMet Tryz.prog Rows.latchOpaqueUptoRow.laid ((laidWorld os).forCall (fun _ _=>0) ⟨#[],args,[]⟩).memory:=
 laidMet_of_run' 8 (by kernel_rfl) (by kernel_rfl)
