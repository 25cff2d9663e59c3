/- Parts of the proof; the first: The placements that may be done. Conditions: those of each theorem, as typed. -/
import Derived.Test.YtkfhgifhfkcehaaGreatDoorQC22
set_option linter.unusedVariables false
set_option linter.unusedSimpArgs false
set_option linter.unusedSectionVars false
set_option maxRecDepth 100000
set_option maxHeartbeats 4000000
namespace Go.Proofs.YtkfhgifhfkcehaaGreatDoor
open Go.Maps Go.RowKit
section
attribute [local irreducible] xL
structure TnR where
 id:Int
 com:Bool
 p:Nat
 sv:Value
def TnR.cells (r:TnR):List Value:=[.int .i64 r.id,.bool r.com,.int .i64 (r.p:Nat),r.sv]
theorem TnR.len (r:TnR):r.cells.length=4:=rfl
theorem infoTn:(Tryz.prog.info? 195).map (fun i=>(i.zero,i.size,i.bytes))=some (some (.agg #[.int .i64 0,.bool false,.int .i64 0,.slice none 0 0]),4,48):=by kernel_rfl
theorem tn_one (i:Int) {b:Bool} {p:Nat} {a:Option Addr} {n c:Nat}:∀u ∈ TnR.cells ⟨i,b,p,.slice a n c⟩,u.oneCell'=true:=by intro u hu;simp[TnR.cells] at hu;rcases hu with rfl|rfl|rfl|rfl <;> rfl
def TurnIs (w:World) (r:TnR) (t:Tn):Prop:=r.id=t.id/\r.com=t.com/\r.p=t.dest.1/\OwnS w 0 r.sv t.dest.2
def yW (w:World) (B:Nat) (v:Value) (ts:List Tn):Prop:=∃rs:List TnR,qq TnR.cells 195 4 w B v rs/\rs.length=ts.length/\∀(k:Nat) (r:TnR) (t:Tn),rs[k]?=some r->ts[k]?=some t->TurnIs w r t
theorem TurnIs.below {w w':World} {r:TnR} {t:Tn} (h:TurnIs w r t) (hb:Below w.heap.size w w'):TurnIs w' r t:=⟨h.1,h.2.1,h.2.2.1,qq.below h.2.2.2 hb⟩
theorem yW.below {w w':World} {B:Nat} {v:Value} {ts:List Tn} (h:yW w B v ts) (hb:Below w.heap.size w w'):yW w' B v ts:=
 let ⟨rs,a,b,c⟩:=h;⟨rs,qq.below a hb,b,fun k r t hr ht=>(c k r t hr ht).below hb⟩
theorem yW.drew {w:World} {B:Nat} {v:Value} {ts:List Tn} (h:yW w B v ts):yW w.drew B v ts:=
 let ⟨rs,a,b,c⟩:=h;⟨rs,qq.drew a,b,fun k r t hr ht=>⟨(c k r t hr ht).1,(c k r t hr ht).2.1,(c k r t hr ht).2.2.1,qq.drew (c k r t hr ht).2.2.2⟩⟩
theorem yW.snoc {w w':World} {B:Nat} {v v':Value} {ts:List Tn} {rs:List TnR} {r:TnR} {t:Tn} (hv:qq TnR.cells 195 4 w B v rs) (hl:rs.length=ts.length) (hc:∀(k:Nat) (r:TnR) (t:Tn),rs[k]?=some r->ts[k]?=some t->TurnIs w r t) (h1:TurnIs w r t)
  (h':qq TnR.cells 195 4 w' B v' (rs++[r])) (hb:Grw w w' v v'):yW w' B v' (ts++[t]):=by
 have key:∀(r:TnR) (t:Tn),TurnIs w r t->TurnIs w' r t:=fun r t h=>⟨h.1,h.2.1,h.2.2.1,qq.grwT h.2.2.2 hv (by decide) hb⟩
 refine⟨_,h',by simp[hl],fun k r' t' hr ht=>?_⟩;rcases Nat.lt_trichotomy k ts.length with h|h|h
 ·rw [List.getElem?_append_left (by omega)] at hr ht
  exact key _ _ (hc k r' t' hr ht)
 ·subst h
  rw[List.getElem?_append_right (by omega)] at hr ht;simp[hl] at hr ht;subst hr ht;exact key _ _ h1
 ·rw [List.getElem?_append_right (by omega)] at ht
  rw[List.getElem?_eq_none (by simp;omega)] at ht;cases ht
theorem shr_bit {p k:Nat} (hp:p < 4096) (hk:k<=12):(bits BinOp.and IntKind.i64 ((p:Int) / 2 ^ min k 64) 1==1)=p.testBit k:=by
 have e1:(p:Int) / 2 ^ min k 64=((p / 2 ^ k:Nat):Int):=by rw[show min k 64=k by omega,Int.natCast_ediv,Int.natCast_pow];rfl
 have hl:p / 2 ^ k < 4611686018427387904:=Nat.lt_of_le_of_lt (Nat.div_le_self _ _) (by omega);have e2:bits BinOp.and IntKind.i64 ((p:Int) / 2 ^ min k 64) 1=((p / 2 ^ k&&&1:Nat):Int):=by rw[e1];exact bits_and_nat (b:=1) hl (by decide)
 rw[e2,Nat.and_one_is_mod,Nat.testBit_eq_decide_div_mod_eq];by_cases h:p / 2 ^ k % 2=1
 ·rw [h];rfl
 ·have:p / 2 ^ k % 2=0:=by omega
  rw[this];rfl
theorem andNot_ne {a b:Nat} (ha:a < 4096) (hb:b < 4096):(bits BinOp.andNot IntKind.i64 (a:Int) (b:Int) !=0)=!(a&&&b==a):=by
 have h:=bits_andNot_nat (a:=a) (b:=b) (by omega) (by omega);by_cases e:a&&&b=a
 ·have h0:bits BinOp.andNot IntKind.i64 (a:Int) (b:Int)=0:=by rw[h];exact e
  rw[h0,e];simp
 ·have h0:bits BinOp.andNot IntKind.i64 (a:Int) (b:Int)≠0:=fun h1=>e (by rw[h] at h1;exact h1)
  rw[show (bits BinOp.andNot IntKind.i64 (a:Int) (b:Int) !=0)=true from bne_iff_ne.2 h0,show(a&&&b==a)=false from beq_eq_false_iff_ne.2 e];rfl
theorem len_turns1 (g:Gm) (n:Nd) (i:Nat) (t:St):(g.turns1 n i t).length<=2:=by
 unfold Gm.turns1
 split
 ·rw [List.length_append]
  refine Nat.add_le_add (b:=1) (d:=1) ?_ ?_
  ·split
   ·split <;> simp
   ·simp
  ·split <;> simp
 ·simp
theorem len_turnsK (g:Gm) (n:Nd):∀k,(g.turnsK n k).length<=2*k
 |0=>by simp[Gm.turnsK]
 |k+1=>by
  have ih:=len_turnsK g n k;unfold Gm.turnsK at *;rw[List.range_succ,List.flatMap_append,List.length_append];simp only[List.flatMap_cons,List.flatMap_nil,List.append_nil];refine Nat.le_trans (Nat.add_le_add (d:=2) ih ?_) (by omega)
  split
  ·exact len_turns1 _ _ _ _
  ·simp
theorem g_turns {w:World} {B bG m:Nat} {g:Gm} {σ0 σ:List Int} {tv mv fv sv:Value} {p:Nat} (h:GameAt w B bG g σ0 tv mv fv) (hg:g.txs.length<=12) (hs:OwnS w 0 sv σ) (hp:p < 2 ^ g.txs.length) (hm:∀x ∈ g.masks,x < 4096) (hml:g.masks.length=g.txs.length) (hok:∀s ∈ g.txs,∀d ∈ s.deeds,DdR σ.length d) (hσ:σ.length<=8) (hE:ErrAt 15 w):
  Calls Tryz.prog 97 #[.pointer (some ⟨bG,0,none⟩),.agg #[.int .i64 p,sv]] w fun e w'=>∃v',e=.returned v'/\yW w' w.heap.size v' (g.turns (p,σ))/\Below w.heap.size w w':=by
 obtain⟨aS,cS,rfl,-⟩:=(qq.sl hs).ex;obtain⟨rs,o1,hrl,hrc⟩:=h.txs;obtain⟨at1,ct1,rfl,-⟩:=(qq.sl o1).ex;have hmk:=h.masks;obtain⟨am1,cm1,rfl,-⟩:=(qq.sl hmk).ex;obtain⟨gl,gt,gm⟩:=g;simp only at hg hp hm hml hok hrl hrc hmk;have b0:Below w.heap.size w (w.alloc (.cells #[.int .i64 p,.slice aS σ.length cS] 181)):=(Below.refl _ w).alloc (Nat.le_refl _) _;have r0:=qj (qy w (.cells #[.int .i64 p,.slice aS σ.length cS] 181));have HZ:=qj (show(w.alloc (.cells #[.int .i64 p,.slice aS σ.length cS] 181)).heap.size=w.heap.size+1 by simp);have rg:=qp h.row b0 (qh h.row);have y:=qg rg 1;have RG:=qj h.row;have O1:=qj o1;have HRC:=qj hrc;have HRL:=qj hrl;have HMK:=qj hmk;have HS:=qj hs;have HOK:=qj hok;have HM:=qj hm;have HE:=qj hE;have B0:=qj b0;have gll:=qh rg;have HML:=qj hml;clear h o1 hrc hrl hmk hs hok hm hE b0 rg hml;go_enter Tryz.func97,Tryz.ntmps97;go_wp2_with fail;generalize w.alloc (.cells #[.int .i64 p,.slice aS σ.length cS] 181)=W at *;simp at y;go_wp2_with fail
 go_loopw [5,17] (fun q x wr=>∃(k:Nat),k<=rs.length/\x=.int .i64 k/\yW wr w.heap.size q ((Gm.mk gl gt gm).turnsK (p,σ) k)/\wr.heap[w.heap.size]?=some (.cells #[.int .i64 p,.slice aS σ.length cS] 181 (0,0))/\Below w.heap.size w wr) (fun _ x _=>rs.length - (intOf x).toNat)
 case atStart=>exact⟨0,by omega,by go_num,⟨[],qq.nil _ _,rfl,fun k r t hr=>by simp at hr⟩,r0.o,B0.o⟩
 case round=>
  obtain⟨k,hk,rfl,qt,qr,qb⟩:=hrel;have hsz:=qb.size;have QT:=qj qt;have QR:=qj qr;have QB:=qj qb;clear qt qr qb r0 B0 HZ y gll W;by_cases hlt:k < rs.length
  ·obtain ⟨b,off,o,rfl,hb,hox,hc⟩:=(qq.sl (qq.below O1.o QB.o)).atF TxR.len rfl hlt
   obtain⟨s,hs⟩:∃s,gt[k]?=some s:=⟨_,List.getElem?_eq_getElem (by have:=HRL.o;omega)⟩
   obtain⟨⟨e1,e2,e3,e4,e5,e6⟩,od⟩:=HRC.o k o s hox hs;obtain⟨i1,th1,st1,be1,fi1,tr1,dv⟩:=o;obtain⟨ad1,cd1,hdv⟩:=qq.slv od;simp only at hdv e1 e2 e3 e4 e5 e6 od;subst hdv;obtain⟨nd1,hnd⟩:∃n,s.deeds.length=n:=⟨_,rfl⟩
   rw[hnd] at hc;have c0:wr.cell? ⟨b,off+k*7,none⟩=some (.int .i64 i1):=hc 0 (by decide);have c1:wr.cell? ⟨b,off+k*7+1,none⟩=some (.int .i64 th1):=hc 1 (by decide);have c2:wr.cell? ⟨b,off+k*7+2,none⟩=some (.int .i64 st1):=hc 2 (by decide);have c3:wr.cell? ⟨b,off+k*7+3,none⟩=some (.int .i64 be1):=hc 3 (by decide);have c4:wr.cell? ⟨b,off+k*7+4,none⟩=some (.int .i64 fi1):=hc 4 (by decide);have c5:wr.cell? ⟨b,off+k*7+5,none⟩=some (.int .i64 tr1):=hc 5 (by decide);have c6:wr.cell? ⟨b,off+k*7+6,none⟩=some (.slice ad1 nd1 cd1):=hc 6 (by decide);have SX:=qj (turnsK_succ (g:=Gm.mk gl gt gm) (n:=(p,σ)) hs);have HSS:=qj hs;have HND:=qj hnd;have OD:=qj od;have E1:=qj e1;have E3:=qj e3;clear hc hox hs e1 e2 e3 e4 e5 e6 hnd od;have b3:Below wr.heap.size wr (wr.alloc (.cells #[.int .i64 i1,.int .i64 th1,.int .i64 st1,.int .i64 be1,.int .i64 fi1,.int .i64 tr1,.slice ad1 nd1 cd1] 56)):=(Below.refl _ wr).alloc (Nat.le_refl _) _;have r3:=qy wr (.cells #[.int .i64 i1,.int .i64 th1,.int .i64 st1,.int .i64 be1,.int .i64 fi1,.int .i64 tr1,.slice ad1 nd1 cd1] 56);have hz3:=qj (show(wr.alloc (.cells #[.int .i64 i1,.int .i64 th1,.int .i64 st1,.int .i64 be1,.int .i64 fi1,.int .i64 tr1,.slice ad1 nd1 cd1] 56)).heap.size=wr.heap.size+1 by simp);go_wp2_with fail;generalize wr.alloc (.cells #[.int .i64 i1,.int .i64 th1,.int .i64 st1,.int .i64 be1,.int .i64 fi1,.int .i64 tr1,.slice ad1 nd1 cd1] 56)=W3 at *;have rn3:=qp QR.o b3 (qh QR.o);have BB3:=qj (QB.o.trans (b3.mono hsz));have rg3:=qp RG.o BB3.o (qh RG.o);have x:=qg rn3;have x0:=x 0;have x1:=x 1;have yg:=qg rg3;have y0:=yg 0;have y2:=yg 2;have z:=qg r3;have z0:=z 0;have z2:=z 2;have z6:=z 6;simp at x0 x1 y0 y2 z0 z2 z6;have xl:=qh rn3;have yl:=qh rg3;have zl:=qh r3;have R3:=qj r3;have B3:=qj b3;clear x yg z rn3 rg3 r3 b3 c0 c1 c2 c3 c4 c5 c6;have hp12:p < 4096:=Nat.lt_of_lt_of_le hp (pow_wrap (i:=gt.length) hg).2;have hk12:k<=12:=by have:=HRL.o;omega
   have hsb:=shr_bit hp12 hk12;rw[show min k 64=k by omega] at hsb;have hmk:k < gm.length:=by have:=HRL.o;have:=HML.o;omega
   obtain⟨b2,off2,mx,rfl,hb2,hmx,hcm⟩:=(qq.sl (qq.below HMK.o BB3.o)).atF intC_len rfl (by simpa using hmk);have hmxe:mx=((gm.getD k 0:Nat):Int):=by
    rw[List.getElem?_map,List.getElem?_eq_getElem hmk] at hmx;rw[List.getD_eq_getElem?_getD,List.getElem?_eq_getElem hmk];simpa using hmx.symm
   obtain⟨mN,hmN⟩:∃mN,gm.getD k 0=mN:=⟨_,rfl⟩
   rw[hmN] at hmxe;subst hmxe;have hmN4:mN < 4096:=HM.o _ (by rw[←hmN,List.getD_eq_getElem?_getD,List.getElem?_eq_getElem hmk];exact List.getElem_mem hmk);have v0:W3.cell? ⟨b2,off2+k,none⟩=some (.int .i64 (mN:Int)):=by have:=hcm 0 (by decide);simpa[intC] using this
   have han:=andNot_ne hmN4 hp12;have HMN:=qj hmN;clear hcm hmx hmN;cases hbit:p.testBit k with
   |true=>
    rw[hbit] at hsb;refine qT (W3.heap.size) [0,1,0,0,0,0,0,0,0,0,1,0,0,1,0,1,0,0,0] (.fin [0,1,2,3,4,5,6,7,8,9,10,11,12,13,14,15,16,17,18]) (by kernel_rfl) ?_;simp only[yp,qP,qD,sD,sE,sF,sG,Option.bind_some]
    repeat first|(refine qC fun K hK=>?_;go_simp;refine hK _ _ ?_;clear hK K)|(apply qJ;(intro w2 hw2;have hk1:=hw2.cell;have hk3:=hw2.1;clear hw2;go_simp;with_reducible rfl);simp only[Act.put,sA,sB,sC])|(refine xX rfl rfl fun K hK=>?_;simp only[Act.put,sA,sB,sC];refine hK _ _ ?_;clear hK K)|refine qA ?_
    go_wp2_with fail;refine⟨⟨k+1,by omega,by go_num,?_,qp QR.o B3.o.drew (qh QR.o),QB.o.trans (B3.o.drew.mono hsz)⟩,by simp[intOf];omega⟩;have hmay:(Gm.mk gl gt gm).may p k=false:=by
     show(!p.testBit k&&(gm.getD k 0&&&p==gm.getD k 0))=false;rw[HMN.o,hbit];rfl
    have e:(Gm.mk gl gt gm).turns1 (p,σ) k s=[]:=by unfold Gm.turns1;rw[if_neg (by rw[hmay];simp)]
    rw[SX.o,e,List.append_nil];exact QT.o.below B3.o.drew
   |false=>
    rw[hbit] at hsb;cases hmb:(mN&&&p==mN) with
    |false=>
     rw[hmb] at han;refine qT (W3.heap.size) [0,1,0,0,0,0,0,0,0,0,1,0,0,1,0,1,0,0,0] (.fin [0,1,2,3,4,5,6,7,8,9,10,11,12,13,14,15,16,17,18]) (by kernel_rfl) ?_;simp only[yp,qP,qD,sD,sE,sF,sG,Option.bind_some]
     repeat first|(refine qC fun K hK=>?_;go_simp;refine hK _ _ ?_;clear hK K)|(apply qJ;(intro w2 hw2;have hk1:=hw2.cell;have hk3:=hw2.1;clear hw2;go_simp;with_reducible rfl);simp only[Act.put,sA,sB,sC])|refine qZ rfl rfl ?_|refine qA ?_
     go_wp2_with fail;refine⟨⟨k+1,by omega,by go_num,?_,qp QR.o B3.o.drew (qh QR.o),QB.o.trans (B3.o.drew.mono hsz)⟩,by simp[intOf];omega⟩;have hmay:(Gm.mk gl gt gm).may p k=false:=by
      show(!p.testBit k&&(gm.getD k 0&&&p==gm.getD k 0))=false;rw[HMN.o,hbit,hmb];rfl
     have e:(Gm.mk gl gt gm).turns1 (p,σ) k s=[]:=by unfold Gm.turns1;rw[if_neg (by rw[hmay];simp)]
     rw[SX.o,e,List.append_nil];exact QT.o.below B3.o.drew
    |true=>
     rw[hmb] at han;refine qT (W3.heap.size) [0,1,0,0,0,0,0,0,0,0,1,0,0,1,0,1,0,0,0] (.fin [0,1,2,3,4,5,6,7,8,9,10,11,12,13,14,15,16,17,18]) (by kernel_rfl) ?_;simp only[yp,qP,qD,sD,sE,sF,sG,Option.bind_some]
     repeat first|(refine qC fun K hK=>?_;go_simp;refine hK _ _ ?_;clear hK K)|(apply qJ;(intro w2 hw2;have hk1:=hw2.cell;have hk3:=hw2.1;clear hw2;go_simp;with_reducible rfl);simp only[Act.put,sA,sB,sC])|refine qZ rfl rfl ?_|refine qA ?_
     go_wp2_with fail;have hmay:(Gm.mk gl gt gm).may p k=true:=by
      show(!p.testBit k&&(gm.getD k 0&&&p==gm.getD k 0))=true;rw[HMN.o,hbit,hmb];rfl
     have HMAY:=qj hmay;have QT3:=qj (QT.o.below B3.o.drew);have BWR:=qj (QB.o.trans (B3.o.drew.mono hsz));have hsz3:wr.heap.size<=W3.drew.heap.size:=B3.o.drew.size;have hdd:=qq.below OD.o (show Below w.heap.size w W3.drew from BWR.o);rw[HND.o] at hdd;have RC:=qj (pl_Run (.slice aS σ.length cS) (.slice ad1 nd1 cd1) σ s.deeds W3.drew (qq.below HS.o BWR.o) (by omega) (by have:=qq.sl hdd;rw[HND.o] at this ⊢;exact this) (HOK.o s (List.mem_of_getElem? HSS.o)) (HE.o.below BWR.o));have RN4:=qj (qp QR.o B3.o.drew (qh QR.o));have RG4:=qj (qp RG.o BWR.o (qh RG.o));have RT4:=qj (show W3.drew.heap[wr.heap.size]?=_ from R3.o);clear v0 han hsb hmay hdd hbit hmb x0 x1 y0 y2 z0 z2 z6 xl yl zl hmN4 hb hb2;generalize W3.drew=W4 at *;refine RC.o.mono ?_;rintro e W5 ⟨hpost,b5⟩;have hbl:=bits_or_nat (a:=p) (b:=2 ^ k) (by omega) (by have:=(pow_wrap hk12).2;omega);rw[←(pow_wrap hk12).1] at hbl;cases hrep:rep σ s.deeds with
     |some τ=>
      rw[hrep] at hpost;obtain⟨v',rfl,o5⟩:=hpost;obtain⟨a5,c5,rfl,-⟩:=(qq.sl o5).ex;have b6:Below W5.heap.size W5 (W5.alloc (.cells #[.slice a5 τ.length c5] 46)):=(Below.refl _ W5).alloc (Nat.le_refl _) _;have ru:=qy W5 (.cells #[.slice a5 τ.length c5] 46);have b46:=qj (b5.trans (b6.mono b5.size));have O6:=qj (qq.below o5 b6);have hz56:W4.heap.size<=W5.heap.size:=b5.size;unfold stV;go_wp2_with fail;generalize W5.alloc (.cells #[.slice a5 τ.length c5] 46)=W6 at *;have rn:=qp RN4.o b46.o (qh RN4.o);have rt:=qp RT4.o b46.o (qh RT4.o);have rg:=qp RG4.o b46.o (qh RG4.o);have x0:=qg rn 0;have x1:=qg rn 1;have z0:=qg rt 0;have z2:=qg rt 2;have y0:=qg rg 0;have u0:=qg ru 0;simp at x0 x1 z0 z2 y0 u0;have xl:=qh rn;have zl:=qh rt;have yl:=qh rg;have ul:=qh ru;have RNX:=qj rn;have RTX:=qj rt;have RGX:=qj rg;clear rn rt rg b6 b5 o5;refine qT (W6.heap.size) [0,1,0,0,0,0] (.fin [0,1,2,3,4,5]) (by kernel_rfl) ?_;simp only[yp,qP,qD,sD,sE,sF,sG]
      repeat first|(refine qC fun K hK=>?_;go_simp;refine hK _ _ ?_;clear hK K)|(apply qJ;(intro w2 hw2;have hk1:=hw2.cell;have hk3:=hw2.1;clear hw2;go_simp;with_reducible rfl);simp only[Act.put,sA,sB,sC])|refine qA ?_
      simp only[wrap_i64,hbl];have ru6:=qj ru;have rn6:=qj (show W6.drew.heap[w.heap.size]?=_ from RNX.o);have rt6:=qj (show W6.drew.heap[wr.heap.size]?=_ from RTX.o);have rg6:=qj (show W6.drew.heap[bG]?=_ from RGX.o);have bw6:=qj ((BWR.o.trans (b46.o.mono (Nat.le_trans hsz hsz3))).drew);have QT6:=qj (QT3.o.below b46.o);obtain⟨trs0,ow0,hl0,hc0⟩:=QT6.o;have hT0:=len_turnsK (Gm.mk gl gt gm) (p,σ) k;have hLL0:trs0.length<=60:=by rw[hl0];omega
      have HL0:=qj hl0;have ow:=ow0.drew;have hB6:w.heap.size<=W6.drew.heap.size:=bw6.o.size;clear ru;by_cases h3:st1=3
      ·have q3:(st1==3)=true:=by simp[h3]
       have q3n:(st1 !=3)=false:=by simp[h3]
       go_wp2_with (at_builtin;refine qU rfl _ _ _ rfl _ 48 Tryz.underlying192 infoTn rfl ow (TnR.mk i1 true (p|||2 ^ k) (.slice a5 τ.length c5)) hB6 (by rfl) (by rfl) (by first|rfl|simp) rfl (tn_one _) (by first|omega|(simp only[List.length_append,List.length_cons,List.length_nil,List.length_replicate];omega)) (by first|omega|(simp only[List.length_append,List.length_cons,List.length_nil,List.length_replicate];omega)) ?_;refine xt.halt ?_)
       refine xt.go ?_;intro g1 cc1 v1 oo1 GG1;have T1:=qj (yW.snoc (t:=(⟨i1,true,(p|||2 ^ k,τ)⟩:Tn)) ow hl0 hc0 ⟨rfl,rfl,rfl,(qq.drew O6.o)⟩ oo1 GG1);have rn1:=qj (qQ rn6.o GG1 (qq.neT ow rn6.o (by decide)));have rt1:=qj (qQ rt6.o GG1 (qq.neT ow rt6.o (by decide)));have rg1:=qj (qQ rg6.o GG1 (qq.neT ow rg6.o (by decide)));have bw1:=qj ((bw6.o).trans (GG1.below hB6 fun j hj=>(qq.lt ow j hj).1));obtain⟨trs1,ow1,hl1,hc1⟩:=T1.o;have hLL1:trs1.length<=60:=by rw[hl1];simp;omega
       have hB1:w.heap.size<=v1.heap.size:=bw1.o.size;have HL1:=qj hl1;have x0:=qg rn1.o 0;have x1:=qg rn1.o 1;have z0:=qg rt1.o 0;have z2:=qg rt1.o 2;have y0:=qg rg1.o 0;simp at x0 x1 z0 z2 y0;have xl:=qh rn1.o;have zl:=qh rt1.o;have yl:=qh rg1.o;go_wp2_with fail;refine⟨⟨k+1,by omega,by go_num,?_,rn1.o,bw1.o⟩,by simp[intOf];omega⟩;have e:(Gm.mk gl gt gm).turns1 (p,σ) k s=[(⟨i1,true,(p|||2 ^ k,τ)⟩:Tn)]:=by
        unfold Gm.turns1;rw[if_pos HMAY.o,←E3.o,←E1.o];simp[hrep,h3]
       rw[SX.o,e];exact T1.o
      ·by_cases h2:st1=2
       ·by_cases hv:gl=3
        ·have q3:(st1==3)=false:=beq_eq_false_iff_ne.2 h3
         have q3n:(st1 !=3)=true:=bne_iff_ne.2 h3;have q2:(st1==2)=true:=by simp[h2]
         have qv:(gl !=3)=false:=by simp[hv]
         go_wp2_with (at_builtin;refine qU rfl _ _ _ rfl _ 48 Tryz.underlying192 infoTn rfl ow (TnR.mk i1 true (p|||2 ^ k) (.slice a5 τ.length c5)) hB6 (by rfl) (by rfl) (by first|rfl|simp) rfl (tn_one _) (by first|omega|(simp only[List.length_append,List.length_cons,List.length_nil,List.length_replicate];omega)) (by first|omega|(simp only[List.length_append,List.length_cons,List.length_nil,List.length_replicate];omega)) ?_;refine xt.halt ?_)
         refine xt.go ?_;intro g1 cc1 v1 oo1 GG1;have T1:=qj (yW.snoc (t:=(⟨i1,true,(p|||2 ^ k,τ)⟩:Tn)) ow hl0 hc0 ⟨rfl,rfl,rfl,(qq.drew O6.o)⟩ oo1 GG1);have rn1:=qj (qQ rn6.o GG1 (qq.neT ow rn6.o (by decide)));have rt1:=qj (qQ rt6.o GG1 (qq.neT ow rt6.o (by decide)));have rg1:=qj (qQ rg6.o GG1 (qq.neT ow rg6.o (by decide)));have bw1:=qj ((bw6.o).trans (GG1.below hB6 fun j hj=>(qq.lt ow j hj).1));obtain⟨trs1,ow1,hl1,hc1⟩:=T1.o;have hLL1:trs1.length<=60:=by rw[hl1];simp;omega
         have hB1:w.heap.size<=v1.heap.size:=bw1.o.size;have HL1:=qj hl1;have x0:=qg rn1.o 0;have x1:=qg rn1.o 1;have z0:=qg rt1.o 0;have z2:=qg rt1.o 2;have y0:=qg rg1.o 0;simp at x0 x1 z0 z2 y0;have xl:=qh rn1.o;have zl:=qh rt1.o;have yl:=qh rg1.o;go_wp2_with (at_builtin;refine qU rfl _ _ _ rfl _ 48 Tryz.underlying192 infoTn rfl ow1 (TnR.mk i1 false (p|||2 ^ k) (.slice aS σ.length cS)) hB1 (by rfl) (by rfl) (by first|rfl|simp) rfl (tn_one _) (by first|omega|(simp only[List.length_append,List.length_cons,List.length_nil,List.length_replicate];omega)) (by first|omega|(simp only[List.length_append,List.length_cons,List.length_nil,List.length_replicate];omega)) ?_;refine xt.halt ?_)
         refine xt.go ?_;intro g2 cc2 v2 oo2 GG2;have T2:=qj (yW.snoc (t:=(⟨i1,false,(p|||2 ^ k,σ)⟩:Tn)) ow1 hl1 hc1 ⟨rfl,rfl,rfl,(qq.below HS.o bw1.o)⟩ oo2 GG2);have rn2:=qj (qQ rn1.o GG2 (qq.neT ow1 rn1.o (by decide)));have rt2:=qj (qQ rt1.o GG2 (qq.neT ow1 rt1.o (by decide)));have rg2:=qj (qQ rg1.o GG2 (qq.neT ow1 rg1.o (by decide)));have bw2:=qj ((bw1.o).trans (GG2.below hB1 fun j hj=>(qq.lt ow1 j hj).1));obtain⟨trs2,ow2,hl2,hc2⟩:=T2.o;have hLL2:trs2.length<=60:=by rw[hl2];simp;omega
         have hB2:w.heap.size<=v2.heap.size:=bw2.o.size;have HL2:=qj hl2;have x0:=qg rn2.o 0;have x1:=qg rn2.o 1;have z0:=qg rt2.o 0;have z2:=qg rt2.o 2;have y0:=qg rg2.o 0;simp at x0 x1 z0 z2 y0;have xl:=qh rn2.o;have zl:=qh rt2.o;have yl:=qh rg2.o;go_wp2_with fail;refine⟨⟨k+1,by omega,by go_num,?_,rn2.o,bw2.o⟩,by simp[intOf];omega⟩;have e:(Gm.mk gl gt gm).turns1 (p,σ) k s=[(⟨i1,true,(p|||2 ^ k,τ)⟩:Tn),(⟨i1,false,(p|||2 ^ k,σ)⟩:Tn)]:=by
          unfold Gm.turns1;rw[if_pos HMAY.o,←E3.o,←E1.o];simp[hrep,h3,h2,hv]
         rw[SX.o,e];have:=T2.o;simpa using this
        ·have q3:(st1==3)=false:=beq_eq_false_iff_ne.2 h3
         have q3n:(st1 !=3)=true:=bne_iff_ne.2 h3;have q2:(st1==2)=true:=by simp[h2]
         have qv:(gl !=3)=true:=bne_iff_ne.2 hv;go_wp2_with (at_builtin;refine qU rfl _ _ _ rfl _ 48 Tryz.underlying192 infoTn rfl ow (TnR.mk i1 true (p|||2 ^ k) (.slice a5 τ.length c5)) hB6 (by rfl) (by rfl) (by first|rfl|simp) rfl (tn_one _) (by first|omega|(simp only[List.length_append,List.length_cons,List.length_nil,List.length_replicate];omega)) (by first|omega|(simp only[List.length_append,List.length_cons,List.length_nil,List.length_replicate];omega)) ?_;refine xt.halt ?_)
         refine xt.go ?_;intro g1 cc1 v1 oo1 GG1;have T1:=qj (yW.snoc (t:=(⟨i1,true,(p|||2 ^ k,τ)⟩:Tn)) ow hl0 hc0 ⟨rfl,rfl,rfl,(qq.drew O6.o)⟩ oo1 GG1);have rn1:=qj (qQ rn6.o GG1 (qq.neT ow rn6.o (by decide)));have rt1:=qj (qQ rt6.o GG1 (qq.neT ow rt6.o (by decide)));have rg1:=qj (qQ rg6.o GG1 (qq.neT ow rg6.o (by decide)));have bw1:=qj ((bw6.o).trans (GG1.below hB6 fun j hj=>(qq.lt ow j hj).1));obtain⟨trs1,ow1,hl1,hc1⟩:=T1.o;have hLL1:trs1.length<=60:=by rw[hl1];simp;omega
         have hB1:w.heap.size<=v1.heap.size:=bw1.o.size;have HL1:=qj hl1;have x0:=qg rn1.o 0;have x1:=qg rn1.o 1;have z0:=qg rt1.o 0;have z2:=qg rt1.o 2;have y0:=qg rg1.o 0;simp at x0 x1 z0 z2 y0;have xl:=qh rn1.o;have zl:=qh rt1.o;have yl:=qh rg1.o;go_wp2_with (at_builtin;refine qU rfl _ _ _ rfl _ 48 Tryz.underlying192 infoTn rfl ow1 (TnR.mk i1 false (p|||2 ^ k) (.slice aS σ.length cS)) hB1 (by rfl) (by rfl) (by first|rfl|simp) rfl (tn_one _) (by first|omega|(simp only[List.length_append,List.length_cons,List.length_nil,List.length_replicate];omega)) (by first|omega|(simp only[List.length_append,List.length_cons,List.length_nil,List.length_replicate];omega)) ?_;refine xt.halt ?_)
         refine xt.go ?_;intro g2 cc2 v2 oo2 GG2;have T2:=qj (yW.snoc (t:=(⟨i1,false,(p|||2 ^ k,σ)⟩:Tn)) ow1 hl1 hc1 ⟨rfl,rfl,rfl,(qq.below HS.o bw1.o)⟩ oo2 GG2);have rn2:=qj (qQ rn1.o GG2 (qq.neT ow1 rn1.o (by decide)));have rt2:=qj (qQ rt1.o GG2 (qq.neT ow1 rt1.o (by decide)));have rg2:=qj (qQ rg1.o GG2 (qq.neT ow1 rg1.o (by decide)));have bw2:=qj ((bw1.o).trans (GG2.below hB1 fun j hj=>(qq.lt ow1 j hj).1));obtain⟨trs2,ow2,hl2,hc2⟩:=T2.o;have hLL2:trs2.length<=60:=by rw[hl2];simp;omega
         have hB2:w.heap.size<=v2.heap.size:=bw2.o.size;have HL2:=qj hl2;have x0:=qg rn2.o 0;have x1:=qg rn2.o 1;have z0:=qg rt2.o 0;have z2:=qg rt2.o 2;have y0:=qg rg2.o 0;simp at x0 x1 z0 z2 y0;have xl:=qh rn2.o;have zl:=qh rt2.o;have yl:=qh rg2.o;go_wp2_with fail;refine⟨⟨k+1,by omega,by go_num,?_,rn2.o,bw2.o⟩,by simp[intOf];omega⟩;have e:(Gm.mk gl gt gm).turns1 (p,σ) k s=[(⟨i1,true,(p|||2 ^ k,τ)⟩:Tn),(⟨i1,false,(p|||2 ^ k,σ)⟩:Tn)]:=by
          unfold Gm.turns1;rw[if_pos HMAY.o,←E3.o,←E1.o];simp[hrep,h3,h2,hv]
         rw[SX.o,e];have:=T2.o;simpa using this
       ·by_cases hv:gl=3
        ·have q3:(st1==3)=false:=beq_eq_false_iff_ne.2 h3
         have q3n:(st1 !=3)=true:=bne_iff_ne.2 h3;have q2:(st1==2)=false:=beq_eq_false_iff_ne.2 h2;have qv:(gl !=3)=false:=by simp[hv]
         go_wp2_with (at_builtin;refine qU rfl _ _ _ rfl _ 48 Tryz.underlying192 infoTn rfl ow (TnR.mk i1 false (p|||2 ^ k) (.slice aS σ.length cS)) hB6 (by rfl) (by rfl) (by first|rfl|simp) rfl (tn_one _) (by first|omega|(simp only[List.length_append,List.length_cons,List.length_nil,List.length_replicate];omega)) (by first|omega|(simp only[List.length_append,List.length_cons,List.length_nil,List.length_replicate];omega)) ?_;refine xt.halt ?_)
         refine xt.go ?_;intro g1 cc1 v1 oo1 GG1;have T1:=qj (yW.snoc (t:=(⟨i1,false,(p|||2 ^ k,σ)⟩:Tn)) ow hl0 hc0 ⟨rfl,rfl,rfl,(qq.below HS.o bw6.o)⟩ oo1 GG1);have rn1:=qj (qQ rn6.o GG1 (qq.neT ow rn6.o (by decide)));have rt1:=qj (qQ rt6.o GG1 (qq.neT ow rt6.o (by decide)));have rg1:=qj (qQ rg6.o GG1 (qq.neT ow rg6.o (by decide)));have bw1:=qj ((bw6.o).trans (GG1.below hB6 fun j hj=>(qq.lt ow j hj).1));obtain⟨trs1,ow1,hl1,hc1⟩:=T1.o;have hLL1:trs1.length<=60:=by rw[hl1];simp;omega
         have hB1:w.heap.size<=v1.heap.size:=bw1.o.size;have HL1:=qj hl1;have x0:=qg rn1.o 0;have x1:=qg rn1.o 1;have z0:=qg rt1.o 0;have z2:=qg rt1.o 2;have y0:=qg rg1.o 0;simp at x0 x1 z0 z2 y0;have xl:=qh rn1.o;have zl:=qh rt1.o;have yl:=qh rg1.o;go_wp2_with fail;refine⟨⟨k+1,by omega,by go_num,?_,rn1.o,bw1.o⟩,by simp[intOf];omega⟩;have e:(Gm.mk gl gt gm).turns1 (p,σ) k s=[(⟨i1,false,(p|||2 ^ k,σ)⟩:Tn)]:=by
          unfold Gm.turns1;rw[if_pos HMAY.o,←E3.o,←E1.o];simp[hrep,h3,h2,hv]
         rw[SX.o,e];exact T1.o
        ·have q3:(st1==3)=false:=beq_eq_false_iff_ne.2 h3
         have q3n:(st1 !=3)=true:=bne_iff_ne.2 h3;have q2:(st1==2)=false:=beq_eq_false_iff_ne.2 h2;have qv:(gl !=3)=true:=bne_iff_ne.2 hv;go_wp2_with (at_builtin;refine qU rfl _ _ _ rfl _ 48 Tryz.underlying192 infoTn rfl ow (TnR.mk i1 false (p|||2 ^ k) (.slice aS σ.length cS)) hB6 (by rfl) (by rfl) (by first|rfl|simp) rfl (tn_one _) (by first|omega|(simp only[List.length_append,List.length_cons,List.length_nil,List.length_replicate];omega)) (by first|omega|(simp only[List.length_append,List.length_cons,List.length_nil,List.length_replicate];omega)) ?_;refine xt.halt ?_)
         refine xt.go ?_;intro g1 cc1 v1 oo1 GG1;have T1:=qj (yW.snoc (t:=(⟨i1,false,(p|||2 ^ k,σ)⟩:Tn)) ow hl0 hc0 ⟨rfl,rfl,rfl,(qq.below HS.o bw6.o)⟩ oo1 GG1);have rn1:=qj (qQ rn6.o GG1 (qq.neT ow rn6.o (by decide)));have rt1:=qj (qQ rt6.o GG1 (qq.neT ow rt6.o (by decide)));have rg1:=qj (qQ rg6.o GG1 (qq.neT ow rg6.o (by decide)));have bw1:=qj ((bw6.o).trans (GG1.below hB6 fun j hj=>(qq.lt ow j hj).1));obtain⟨trs1,ow1,hl1,hc1⟩:=T1.o;have hLL1:trs1.length<=60:=by rw[hl1];simp;omega
         have hB1:w.heap.size<=v1.heap.size:=bw1.o.size;have HL1:=qj hl1;have x0:=qg rn1.o 0;have x1:=qg rn1.o 1;have z0:=qg rt1.o 0;have z2:=qg rt1.o 2;have y0:=qg rg1.o 0;simp at x0 x1 z0 z2 y0;have xl:=qh rn1.o;have zl:=qh rt1.o;have yl:=qh rg1.o;go_wp2_with fail;refine⟨⟨k+1,by omega,by go_num,?_,rn1.o,bw1.o⟩,by simp[intOf];omega⟩;have e:(Gm.mk gl gt gm).turns1 (p,σ) k s=[(⟨i1,false,(p|||2 ^ k,σ)⟩:Tn)]:=by
          unfold Gm.turns1;rw[if_pos HMAY.o,←E3.o,←E1.o];simp[hrep,h3,h2,hv]
         rw[SX.o,e];exact T1.o
     |none=>
      rw[hrep] at hpost;obtain⟨te,ve,rfl⟩:=hpost;have b6:Below W5.heap.size W5 (W5.alloc (.cells #[.slice none 0 0] 46)):=(Below.refl _ W5).alloc (Nat.le_refl _) _;have ru:=qy W5 (.cells #[.slice none 0 0] 46);have b46:=qj (b5.trans (b6.mono b5.size));have hz56:W4.heap.size<=W5.heap.size:=b5.size;unfold stV;go_wp2_with fail;generalize W5.alloc (.cells #[.slice none 0 0] 46)=W6 at *;have rn:=qp RN4.o b46.o (qh RN4.o);have rt:=qp RT4.o b46.o (qh RT4.o);have rg:=qp RG4.o b46.o (qh RG4.o);have x0:=qg rn 0;have x1:=qg rn 1;have z0:=qg rt 0;have z2:=qg rt 2;have y0:=qg rg 0;have u0:=qg ru 0;simp at x0 x1 z0 z2 y0 u0;have xl:=qh rn;have zl:=qh rt;have yl:=qh rg;have ul:=qh ru;have RNX:=qj rn;have RTX:=qj rt;have RGX:=qj rg;clear rn rt rg b6 b5;refine qT (W6.heap.size) [0,1,0,0,0,0] (.fin [0,1,2,3,4,5]) (by kernel_rfl) ?_;simp only[yp,qP,qD,sD,sE,sF,sG]
      repeat first|(refine qC fun K hK=>?_;go_simp;refine hK _ _ ?_;clear hK K)|(apply qJ;(intro w2 hw2;have hk1:=hw2.cell;have hk3:=hw2.1;clear hw2;go_simp;with_reducible rfl);simp only[Act.put,sA,sB,sC])|refine qA ?_
      simp only[wrap_i64,hbl];have ru6:=qj ru;have rn6:=qj (show W6.drew.heap[w.heap.size]?=_ from RNX.o);have rt6:=qj (show W6.drew.heap[wr.heap.size]?=_ from RTX.o);have rg6:=qj (show W6.drew.heap[bG]?=_ from RGX.o);have bw6:=qj ((BWR.o.trans (b46.o.mono (Nat.le_trans hsz hsz3))).drew);have QT6:=qj (QT3.o.below b46.o);obtain⟨trs0,ow0,hl0,hc0⟩:=QT6.o;have hT0:=len_turnsK (Gm.mk gl gt gm) (p,σ) k;have hLL0:trs0.length<=60:=by rw[hl0];omega
      have HL0:=qj hl0;have ow:=ow0.drew;have hB6:w.heap.size<=W6.drew.heap.size:=bw6.o.size;clear ru;by_cases h3:st1=3
      ·have q3:(st1==3)=true:=by simp[h3]
       have q3n:(st1 !=3)=false:=by simp[h3]
       go_wp2_with fail;refine⟨⟨k+1,by omega,by go_num,?_,rn6.o,bw6.o⟩,by simp[intOf];omega⟩;have e:(Gm.mk gl gt gm).turns1 (p,σ) k s=[]:=by
        unfold Gm.turns1;rw[if_pos HMAY.o,←E3.o,←E1.o];simp[hrep,h3]
       rw[SX.o,e];rw[List.append_nil];exact QT6.o.drew
      ·by_cases h2:st1=2
       ·by_cases hv:gl=3
        ·have q3:(st1==3)=false:=beq_eq_false_iff_ne.2 h3
         have q3n:(st1 !=3)=true:=bne_iff_ne.2 h3;have q2:(st1==2)=true:=by simp[h2]
         have qv:(gl !=3)=false:=by simp[hv]
         go_wp2_with fail;refine⟨⟨k+1,by omega,by go_num,?_,rn6.o,bw6.o⟩,by simp[intOf];omega⟩;have e:(Gm.mk gl gt gm).turns1 (p,σ) k s=[]:=by
          unfold Gm.turns1;rw[if_pos HMAY.o,←E3.o,←E1.o];simp[hrep,h3,h2,hv]
         rw[SX.o,e];rw[List.append_nil];exact QT6.o.drew
        ·have q3:(st1==3)=false:=beq_eq_false_iff_ne.2 h3
         have q3n:(st1 !=3)=true:=bne_iff_ne.2 h3;have q2:(st1==2)=true:=by simp[h2]
         have qv:(gl !=3)=true:=bne_iff_ne.2 hv;go_wp2_with (at_builtin;refine qU rfl _ _ _ rfl _ 48 Tryz.underlying192 infoTn rfl ow (TnR.mk i1 false (p|||2 ^ k) (.slice aS σ.length cS)) hB6 (by rfl) (by rfl) (by first|rfl|simp) rfl (tn_one _) (by first|omega|(simp only[List.length_append,List.length_cons,List.length_nil,List.length_replicate];omega)) (by first|omega|(simp only[List.length_append,List.length_cons,List.length_nil,List.length_replicate];omega)) ?_;refine xt.halt ?_)
         refine xt.go ?_;intro g1 cc1 v1 oo1 GG1;have T1:=qj (yW.snoc (t:=(⟨i1,false,(p|||2 ^ k,σ)⟩:Tn)) ow hl0 hc0 ⟨rfl,rfl,rfl,(qq.below HS.o bw6.o)⟩ oo1 GG1);have rn1:=qj (qQ rn6.o GG1 (qq.neT ow rn6.o (by decide)));have rt1:=qj (qQ rt6.o GG1 (qq.neT ow rt6.o (by decide)));have rg1:=qj (qQ rg6.o GG1 (qq.neT ow rg6.o (by decide)));have bw1:=qj ((bw6.o).trans (GG1.below hB6 fun j hj=>(qq.lt ow j hj).1));obtain⟨trs1,ow1,hl1,hc1⟩:=T1.o;have hLL1:trs1.length<=60:=by rw[hl1];simp;omega
         have hB1:w.heap.size<=v1.heap.size:=bw1.o.size;have HL1:=qj hl1;have x0:=qg rn1.o 0;have x1:=qg rn1.o 1;have z0:=qg rt1.o 0;have z2:=qg rt1.o 2;have y0:=qg rg1.o 0;simp at x0 x1 z0 z2 y0;have xl:=qh rn1.o;have zl:=qh rt1.o;have yl:=qh rg1.o;go_wp2_with fail;refine⟨⟨k+1,by omega,by go_num,?_,rn1.o,bw1.o⟩,by simp[intOf];omega⟩;have e:(Gm.mk gl gt gm).turns1 (p,σ) k s=[(⟨i1,false,(p|||2 ^ k,σ)⟩:Tn)]:=by
          unfold Gm.turns1;rw[if_pos HMAY.o,←E3.o,←E1.o];simp[hrep,h3,h2,hv]
         rw[SX.o,e];exact T1.o
       ·by_cases hv:gl=3
        ·have q3:(st1==3)=false:=beq_eq_false_iff_ne.2 h3
         have q3n:(st1 !=3)=true:=bne_iff_ne.2 h3;have q2:(st1==2)=false:=beq_eq_false_iff_ne.2 h2;have qv:(gl !=3)=false:=by simp[hv]
         go_wp2_with fail;refine⟨⟨k+1,by omega,by go_num,?_,rn6.o,bw6.o⟩,by simp[intOf];omega⟩;have e:(Gm.mk gl gt gm).turns1 (p,σ) k s=[]:=by
          unfold Gm.turns1;rw[if_pos HMAY.o,←E3.o,←E1.o];simp[hrep,h3,h2,hv]
         rw[SX.o,e];rw[List.append_nil];exact QT6.o.drew
        ·have q3:(st1==3)=false:=beq_eq_false_iff_ne.2 h3
         have q3n:(st1 !=3)=true:=bne_iff_ne.2 h3;have q2:(st1==2)=false:=beq_eq_false_iff_ne.2 h2;have qv:(gl !=3)=true:=bne_iff_ne.2 hv;go_wp2_with (at_builtin;refine qU rfl _ _ _ rfl _ 48 Tryz.underlying192 infoTn rfl ow (TnR.mk i1 false (p|||2 ^ k) (.slice aS σ.length cS)) hB6 (by rfl) (by rfl) (by first|rfl|simp) rfl (tn_one _) (by first|omega|(simp only[List.length_append,List.length_cons,List.length_nil,List.length_replicate];omega)) (by first|omega|(simp only[List.length_append,List.length_cons,List.length_nil,List.length_replicate];omega)) ?_;refine xt.halt ?_)
         refine xt.go ?_;intro g1 cc1 v1 oo1 GG1;have T1:=qj (yW.snoc (t:=(⟨i1,false,(p|||2 ^ k,σ)⟩:Tn)) ow hl0 hc0 ⟨rfl,rfl,rfl,(qq.below HS.o bw6.o)⟩ oo1 GG1);have rn1:=qj (qQ rn6.o GG1 (qq.neT ow rn6.o (by decide)));have rt1:=qj (qQ rt6.o GG1 (qq.neT ow rt6.o (by decide)));have rg1:=qj (qQ rg6.o GG1 (qq.neT ow rg6.o (by decide)));have bw1:=qj ((bw6.o).trans (GG1.below hB6 fun j hj=>(qq.lt ow j hj).1));obtain⟨trs1,ow1,hl1,hc1⟩:=T1.o;have hLL1:trs1.length<=60:=by rw[hl1];simp;omega
         have hB1:w.heap.size<=v1.heap.size:=bw1.o.size;have HL1:=qj hl1;have x0:=qg rn1.o 0;have x1:=qg rn1.o 1;have z0:=qg rt1.o 0;have z2:=qg rt1.o 2;have y0:=qg rg1.o 0;simp at x0 x1 z0 z2 y0;have xl:=qh rn1.o;have zl:=qh rt1.o;have yl:=qh rg1.o;go_wp2_with fail;refine⟨⟨k+1,by omega,by go_num,?_,rn1.o,bw1.o⟩,by simp[intOf];omega⟩;have e:(Gm.mk gl gt gm).turns1 (p,σ) k s=[(⟨i1,false,(p|||2 ^ k,σ)⟩:Tn)]:=by
          unfold Gm.turns1;rw[if_pos HMAY.o,←E3.o,←E1.o];simp[hrep,h3,h2,hv]
         rw[SX.o,e];exact T1.o
  ·obtain rfl:k=rs.length:=by omega
   have hq:decide ((rs.length:Int) < (rs.length:Int))=false:=by simp
   go_wp2_with fail;go_ret;refine⟨_,rfl,?_,QB.o⟩;have:=QT.o;rw[HRL.o] at this;exact this
end
section
attribute [local irreducible] xL
structure GEnv (w:World) (B bG m:Nat) (g:Gm) (σ0:List Int) (tv mv fv:Value):Prop where
 game:GameAt w B bG g σ0 tv mv fv
 few:g.txs.length<=12
 msk:∀x ∈ g.masks,x < 4096
 len:g.masks.length=g.txs.length
 dds:∀s ∈ g.txs,∀d ∈ s.deeds,DdR m d
 m8:m<=8
 pow:PowAt w
 wrd:xa w
 err:ErrAt 15 w
 bud:ErrAt 0 w
section
variable {w w':World} {B bG m:Nat} {g:Gm} {σ0:List Int} {tv mv fv:Value}
theorem GEnv.below (h:GEnv w B bG m g σ0 tv mv fv) (hb:Below w.heap.size w w'):GEnv w' B bG m g σ0 tv mv fv:=
 ⟨h.game.below hb,h.few,h.msk,h.len,h.dds,h.m8,h.pow.below hb,h.wrd.below hb,h.err.below hb,h.bud.below hb⟩
theorem GEnv.turns (h:GEnv w B bG m g σ0 tv mv fv) {n:Nd} (hn:NdOk g m n) {sv:Value} (hs:OwnS w 0 sv n.2):
  Calls Tryz.prog 97 #[.pointer (some ⟨bG,0,none⟩),.agg #[.int .i64 (n.1:Nat),sv]] w fun e w'=>∃v',e=.returned v'/\yW w' w.heap.size v' (g.turns n)/\Below w.heap.size w w':=by
 obtain⟨p,σ⟩:=n;have hl:σ.length=m:=hn.len;exact g_turns (m:=m) h.game h.few hs hn.bits h.msk h.len (by rw[hl];exact h.dds) (by have:=h.m8;omega) h.err
def GEnv.key (h:GEnv w B bG m g σ0 tv mv fv) {n:Nd} (hn:NdOk g m n):NdK m:=⟨n,Nat.lt_of_lt_of_le hn.bits (pow_wrap h.few).2,hn.len,h.m8,hn.val⟩
theorem GEnv.pair (h:GEnv w B bG m g σ0 tv mv fv) {n:Nd} (hn:NdOk g m n) {sv:Value} (hs:OwnS w 0 sv n.2):
  Calls Tryz.prog 93 #[.agg #[.int .i64 (n.1:Nat),sv]] w fun e w'=>e=.returned (.agg #[.int .i64 (n.1:Nat),.string (keyB n.2)])/\Below w.heap.size w w':=
 n_pair h.pow h.wrd n.1 sv n.2 (qq.sl (qq.base hs (Nat.zero_le _))) (by have:=hn.len;have:=h.m8;omega) hn.val
theorem GEnv.deedv (h:GEnv w B bG m g σ0 tv mv fv):∀s ∈ g.txs,∀d ∈ s.deeds,-1000000000<=d.val/\d.val<=1000000000:=fun s hs d hd=>by
 have:=(h.dds s hs d hd).op;omega
end
def NdsAt (w:World) (rs:List NR) (ns:List Nd):Prop:=rs.length=ns.length/\∀(k:Nat) (r:NR) (n:Nd),rs[k]?=some r->ns[k]?=some n->yO w r n
theorem NdsAt.below {w w':World} {rs:List NR} {ns:List Nd} (h:NdsAt w rs ns) (hb:Below w.heap.size w w'):NdsAt w' rs ns:=⟨h.1,fun k r n hr hn=>(h.2 k r n hr hn).below hb⟩
open Classical in
def LeadsOf (g:Gm) (m:Nat) (M:NdK m->Option Value) (l:List Nd):Prop:=∀k:NdK m,(k.1 ∈ l->M k=some (.bool (decide (g.Ends k.1))))/\(k.1 ∉ l->M k=none)
theorem g_leads {w:World} {B bG m:Nat} {g:Gm} {σ0:List Int} {tv mv fv ov:Value} {orows:List NR} {ord:List Nd} {n0:Nd} (h:GEnv w B bG m g σ0 tv mv fv) (ho:Sl w w.heap.size 2 ov orows.length (orows.flatMap NR.cells)) (hN:NdsAt w orows ord) (hb:Bfs g m n0 ord ord.length) (hol:orows.length<=65536):
  Calls Tryz.prog 99 #[.pointer (some ⟨bG,0,none⟩),ov] w fun e w'=>∃bl M,e=.returned (.map (some bl))/\yL kapV w' bl M/\LeadsOf g m M ord/\Below w.heap.size w w':=by
 classical
 have hmk:∀X:World,Sem.run Tryz.prog (Instr.makeMap 197 none) X=.ok (.map (some X.heap.size)) (X.alloc (.map #[] 0)):=fun X=>by kernel_rfl
 obtain⟨ats,cts,htv⟩:∃a c,tv=.slice a g.txs.length c:=by
  obtain⟨rs0,tx0,hl0,-⟩:=h.game.txs;obtain⟨a,c,e⟩:=qq.slv tx0;exact⟨a,c,by rw[e,hl0]⟩
 subst htv;have h12:=h.few;obtain⟨ao,co,rfl,mo⟩:=ho.ex;have b0:Below w.heap.size w (w.alloc (.map #[] 0)):=(Below.refl _ w).alloc (Nat.le_refl _) _;have rm:yL (kapV (m:=m)) (w.alloc (.map #[] 0)) w.heap.size (fun _=>none):=yL.made (qy w (.map #[] 0));have HO:=qj ho;have H:=qj h;have HN:=qj hN;have HB:=qj hb;have B0:=qj b0;have RM:=qj rm;clear ho h hN hb b0 rm;go_enter Tryz.func99,Tryz.ntmps99;go_wp2_with fail;generalize w.alloc (.map #[] 0)=W at *
 go_loopw [6] (fun p wr=>∃(j:Nat) (M:NdK m->Option Value),j<=orows.length/\p=.int .i64 ((j:Int) - 1)/\yL kapV wr w.heap.size M/\LeadsOf g m M (ord.drop j)/\Below w.heap.size w wr) (fun p _=>(intOf p+1).toNat)
 case atStart=>
  refine⟨orows.length,_,Nat.le_refl _,by go_num,RM.o,fun k=>⟨fun hk=>?_,fun _=>rfl⟩,B0.o⟩;rw[HN.o.1,List.drop_length] at hk;cases hk
 case round=>
  obtain⟨j,M,hj,rfl,qm,ql,qb⟩:=hrel;have hsz:=qb.size;have QM:=qj qm;have QL:=qj ql;have QB:=qj qb;clear qm ql qb RM B0;by_cases hlt:0 < j
  ·obtain ⟨i,rfl⟩:∃i,j=i+1:=⟨j - 1,by omega⟩
   have e1:((i+1:Nat):Int) - 1=(i:Int):=by omega
   rw[e1];have hil:i < orows.length:=by omega
   obtain⟨b,off,r,rfl,hbb,hrx,hc⟩:=((HO.o.below QB.o).more hsz).atF NR.len rfl hil;obtain⟨n,hn⟩:∃n,ord[i]?=some n:=⟨_,List.getElem?_eq_getElem (by have:=HN.o.1;omega)⟩
   have hni:=HN.o.2 i r n hrx hn;obtain⟨as1,cs1,hsv⟩:=hni.slv;obtain⟨hp1,hos⟩:=hni;obtain⟨rp,rv⟩:=r;simp only at hp1 hsv hos;subst hp1 hsv;have hok:=HB.o.size hn;have c0:wr.cell? ⟨b,off+i*2,none⟩=some (.int .i64 (n.1:Nat)):=hc 0 (by decide);have c1:wr.cell? ⟨b,off+i*2+1,none⟩=some (.slice as1 n.2.length cs1):=hc 1 (by decide);have b3:Below wr.heap.size wr (wr.alloc (.cells #[.int .i64 (n.1:Nat),.slice as1 n.2.length cs1] 181)):=(Below.refl _ wr).alloc (Nat.le_refl _) _;have r3:=qy wr (.cells #[.int .i64 (n.1:Nat),.slice as1 n.2.length cs1] 181);have hz3:=qj (show(wr.alloc (.cells #[.int .i64 (n.1:Nat),.slice as1 n.2.length cs1] 181)).heap.size=wr.heap.size+1 by simp);have HOS:=qj hos;have HNN:=qj hn;clear hc hrx hn hos;go_wp2_with fail;generalize wr.alloc (.cells #[.int .i64 (n.1:Nat),.slice as1 n.2.length cs1] 181)=W3 at *;have BW3:=qj (QB.o.trans (b3.mono hsz));have H3:=qj (H.o.below BW3.o);have AC:=qj (g_all (w:=W3.drew) (n:=g.txs.length) H3.o.game.row h12);have RNn:=qj r3;have z:=qg r3;have z0:=z 0;have z1:=z 1;simp at z0 z1;have zl:=qh r3;clear z r3 c0 c1 hbb;refine qT (W3.heap.size) [0,1,0,3,0,0] (.fin [0,1,2,3,4,5]) (by kernel_rfl) ?_;simp only[yp,qP,qD,sD,sE,sF,sG]
   repeat first|(refine qC fun K hK=>?_;go_simp;refine hK _ _ ?_;clear hK K)|(apply qJ;(intro w2 hw2;have hk1:=hw2.cell;have hk3:=hw2.1;clear hw2;go_simp;with_reducible rfl);simp only[Act.put,sA,sB,sC])
   refine qI (fun K hK=>?_);go_simp;refine AC.o.mono ?_;rintro e w4 ⟨rfl,rfl⟩;refine hK _ _ (RN.KeepsN.refl _ _) ?_;clear hK K
   repeat first|(refine qC fun K hK=>?_;go_simp;refine hK _ _ ?_;clear hK K)|refine qA ?_
   have B3:=qj (QB.o.trans ((b3.drew).mono hsz));have H4:=qj (H.o.below B3.o);have TC:=qj (H4.o.turns hok (qq.below HOS.o B3.o));have hz4:wr.heap.size<=W3.drew.heap.size:=b3.size;have RN4:=qj (show W3.drew.heap[wr.heap.size]?=_ from RNn.o);have QM4:=qj (QM.o.below b3.drew QM.o.lt);clear AC BW3 H3 b3;go_wp2_with fail;generalize W3.drew=W4 at *;refine TC.o.mono ?_;rintro e W5 ⟨tv5,rfl,T5,b5⟩;obtain⟨trs,o5,htl,htc⟩:=T5;obtain⟨at5,ct5,rfl⟩:=qq.slv o5;have BW5:=qj (B3.o.trans (b5.mono (Nat.le_trans hsz hz4)));have RN5:=qj (qp RN4.o b5 (qh RN4.o));have QM5:=qj (QM4.o.below b5 QM4.o.lt);have O5:=qj o5;have HTL:=qj htl;have HTC:=qj htc;have htlm:trs.length<=30:=by rw[htl];have:=len_turnsK g n g.txs.length;unfold Gm.turns;omega
   clear o5 htl htc b5 TC;obtain⟨bb0,hbb0⟩:∃bb0:Bool,(((n.1:Nat):Int)==((2 ^ g.txs.length - 1:Nat):Int))=bb0:=⟨_,rfl⟩
   have hall:bb0=true↔n.1=g.all:=by
    rw[←hbb0,beq_iff_eq];show _↔n.1=2 ^ g.txs.length - 1;constructor
    ·intro h;exact Int.ofNat.inj h
    ·intro h;rw[h]
   rw[hbb0];have HAL:=qj hall;clear hall hbb0;go_wp2_with fail;generalize wr.heap.size=bn7 at *
   go_loopw [8,32] (fun x y wx=>∃(q:Nat) (b:Bool),q<=trs.length/\x=.bool b/\y=.int .i64 q/\(b=true↔n.1=g.all\/∃t ∈ (g.turns n).take q,g.Ends t.dest)/\Below W5.heap.size W5 wx) (fun _ y _=>trs.length - (intOf y).toNat)
   case atStart=>exact⟨0,bb0,by omega,rfl,by go_num,by rw[HAL.o];simp,Below.refl _ _⟩
   case round=>
    obtain⟨q,b,hq5,rfl,rfl,hbt,qb5⟩:=hrel;have hsz5:=qb5.size;have HBT:=qj hbt;have QB5:=qj qb5;clear hbt qb5;by_cases hlt5:q < trs.length
    ·obtain ⟨b',off',r,rfl,hbb',hrx,hc⟩:=(qq.sl (qq.below O5.o QB5.o)).atF TnR.len rfl hlt5
     obtain⟨t,ht⟩:∃t,(g.turns n)[q]?=some t:=⟨_,List.getElem?_eq_getElem (by have:=HTL.o;omega)⟩
     obtain⟨te1,te2,te3,tos⟩:=HTC.o q r t hrx ht;obtain⟨i1,co1,p1,sv1⟩:=r;simp only at te1 te2 te3 tos;subst te1 te2 te3;obtain⟨a1,c1,hsv1⟩:=qq.slv tos;subst hsv1;have d0:wr.cell? ⟨b',off'+q*4,none⟩=some (.int .i64 t.id):=hc 0 (by decide);have d1:wr.cell? ⟨b',off'+q*4+1,none⟩=some (.bool t.com):=hc 1 (by decide);have d2:wr.cell? ⟨b',off'+q*4+2,none⟩=some (.int .i64 (t.dest.1:Nat)):=hc 2 (by decide);have d3:wr.cell? ⟨b',off'+q*4+3,none⟩=some (.slice a1 t.dest.2.length c1):=hc 3 (by decide);have HT:=qj ht;have TOS:=qj tos;have TQ:=qj (show(g.turns n).take (q+1)=(g.turns n).take q++[t] by rw[List.take_add_one,ht];rfl);clear hc hrx ht tos hbb';have b6:Below wr.heap.size wr (wr.alloc (.cells #[.int .i64 t.id,.bool t.com,.int .i64 (t.dest.1:Nat),.slice a1 t.dest.2.length c1] 195)):=(Below.refl _ wr).alloc (Nat.le_refl _) _;have r6:=qy wr (.cells #[.int .i64 t.id,.bool t.com,.int .i64 (t.dest.1:Nat),.slice a1 t.dest.2.length c1] 195);have B6:=qj (QB5.o.trans (b6.mono hsz5));cases b with
     |true=>
      go_wp2_with fail;generalize wr.alloc (.cells #[.int .i64 t.id,.bool t.com,.int .i64 (t.dest.1:Nat),.slice a1 t.dest.2.length c1] 195)=W6 at *;refine⟨⟨q+1,true,by omega,rfl,by go_num,?_,B6.o⟩,by simp[intOf];omega⟩;refine⟨fun _=>?_,fun _=>rfl⟩;rw[TQ.o];rcases HBT.o.1 rfl with h1|⟨u,hu,h2⟩
      ·exact .inl h1
      ·exact .inr ⟨u,List.mem_append_left _ hu,h2⟩
     |false=>
      go_wp2_with fail;generalize wr.alloc (.cells #[.int .i64 t.id,.bool t.com,.int .i64 (t.dest.1:Nat),.slice a1 t.dest.2.length c1] 195)=W6 at *;have BW6:=qj (BW5.o.trans (B6.o.mono BW5.o.size));have H6:=qj (H.o.below BW6.o);have htok:NdOk g m t.dest:=turn_ok hok H.o.deedv (List.mem_of_getElem? HT.o);have PC:=qj (H6.o.pair htok (qq.below TOS.o B6.o));have hin:t.dest ∈ ord.drop (i+1):=by
       obtain⟨j',hj1,hj2⟩:=HB.o.later HNN.o (List.mem_of_getElem? HT.o);refine List.mem_iff_getElem?.2 ⟨j' - (i+1),?_⟩;rw[List.getElem?_drop,show i+1+(j' - (i+1))=j' by omega];exact hj2
      have hMk:=(QL.o (H6.o.key htok)).1 hin;refine PC.o.mono ?_;rintro e W7 ⟨rfl,b7⟩;have B7:=qj (B6.o.trans (b7.mono B6.o.size));have QM7:=QM5.o.below (B7.o) QM5.o.lt;have hlk:Sem.run Tryz.prog (Instr.lookup 197 (.map (some w.heap.size)) (.agg #[.int .i64 (t.dest.1:Nat),.string (keyB t.dest.2)]) false) W7=.ok (.bool (decide (g.Ends t.dest))) W7:=
       (QM7.look (kap m) Tryz.underlying197 (zv:=.bool false) (by kernel_rfl) (H6.o.key htok) hMk).1
      have hb2:decide (g.Ends t.dest)=true↔n.1=g.all\/∃u ∈ (g.turns n).take (q+1),g.Ends u.dest:=by
       rw[TQ.o,decide_eq_true_iff];constructor
       ·intro h1;exact .inr ⟨t,by simp,h1⟩
       ·rintro (h1|⟨u,hu,h2⟩)
        ·have:=HBT.o.2 (.inl h1);cases this
        ·rcases List.mem_append.1 hu with hu|hu
         ·have:=HBT.o.2 (.inr ⟨u,hu,h2⟩);cases this
         ·rw [List.mem_singleton] at hu;rw[←hu];exact h2
      have HB2:=qj hb2;clear hb2 hMk hin htok PC b7 QM7;generalize decide (g.Ends t.dest)=bE at *;go_wp2_with fail;exact⟨⟨q+1,bE,by omega,rfl,by go_num,HB2.o,B7.o⟩,by simp[intOf];omega⟩
    ·obtain rfl:q=trs.length:=by omega
     have hq6:decide ((trs.length:Int) < (trs.length:Int))=false:=by simp
     have hEn:b=true↔g.Ends n:=by
      rw[HBT.o,ends_iff,HTL.o,List.take_length]
     have HEN:=qj hEn;clear hEn;have rw7:=qp RN5.o QB5.o (qh RN5.o);have z:=qg rw7;have z0:=z 0;have z1:=z 1;simp at z0 z1;have zl:=qh rw7;have BWr:=qj (BW5.o.trans (QB5.o.mono BW5.o.size));have Hr:=qj (H.o.below BWr.o);have PC:=qj (Hr.o.pair hok (qq.below HOS.o BWr.o));have QMr:=qj (QM5.o.below QB5.o QM5.o.lt);clear z rw7;go_wp2_with fail;refine PC.o.mono ?_;rintro e W8 ⟨rfl,b8⟩;obtain⟨W9,hrun,hM9,ht9⟩:=(QMr.o.below b8 QMr.o.lt).store (kap m) (t:=197) Tryz.underlying197 (Hr.o.key hok) (.bool b);have hrun:(Instr.mapUpdate 197 (.map (some w.heap.size)) (.agg #[.int .i64 (n.1:Nat),.string (keyB n.2)]) (.bool b)).run Tryz.prog W8=.ok () W9:=hrun;have B9:=qj ((BWr.o.trans (b8.mono BWr.o.size)).trans (Below.turned ht9 (Nat.le_refl _)));have HM9:=qj hM9;clear hM9 ht9 b8 PC;go_wp2_with fail;have hbe:b=decide (g.Ends n):=Bool.eq_iff_iff.2 (HEN.o.trans decide_eq_true_iff.symm);have hdr:ord.drop i=n::ord.drop (i+1):=by
      have hil2:i < ord.length:=by have:=HN.o.1;omega
      rw[List.drop_eq_getElem_cons hil2];have:=HNN.o;rw[List.getElem?_eq_getElem hil2] at this;rw[Option.some.inj this]
     refine⟨⟨i,_,by omega,by go_num,HM9.o,fun k=>?_,B9.o⟩,by simp[intOf];try omega⟩;rw[hdr];by_cases hkn:k.1=n
     ·have hke:k=Hr.o.key hok:=Subtype.ext hkn
      refine⟨fun _=>?_,fun hx=>absurd (List.mem_cons.2 (.inl hkn)) hx⟩;rw[hke,rupV_same,hbe];rfl
     ·have hke:k≠Hr.o.key hok:=fun e=>hkn (by rw[e];rfl)
      rw[rupV_ne hke];refine⟨fun hx=>?_,fun hx=>?_⟩
      ·rcases List.mem_cons.1 hx with hx|hx
       ·exact absurd hx hkn
       ·exact (QL.o k).1 hx
      ·exact (QL.o k).2 fun hy=>hx (List.mem_cons_of_mem _ hy)
  ·obtain rfl:j=0:=by omega
   have hq:decide ((0:Int)<=((0:Nat):Int) - 1)=false:=by simp
   go_wp2_with fail;go_ret;exact⟨_,M,rfl,QM.o,by simpa using QL.o,QB.o⟩
end
