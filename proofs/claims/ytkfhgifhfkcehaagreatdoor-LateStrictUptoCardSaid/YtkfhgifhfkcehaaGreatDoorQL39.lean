/- Parts of the proof, merged by program out of 1 texts (SnF): the first: The placements that may be done. Conditions: those of each theorem, as typed. -/
import Derived.Test.YtkfhgifhfkcehaaGreatDoorQL38
set_option linter.unusedVariables false
set_option linter.unusedSimpArgs false
set_option linter.unusedSectionVars false
set_option maxRecDepth 100000
set_option maxHeartbeats 4000000
namespace Go.Proofs.YtkfhgifhfkcehaaGreatDoor
open Go.Maps Go.RowKit
section
attribute [local irreducible] wpL
structure TnR where
 id:Int
 com:Bool
 p:Nat
 sv:Value
def TnR.cells (r:TnR):List Value:=[.int .i64 r.id,.bool r.com,.int .i64 (r.p:Nat),r.sv]
theorem TnR.len (r:TnR):r.cells.length=4:=rfl
theorem infoTn:(Tryz.prog.info? 195).map (fun i=>(i.zero,i.size,i.bytes))=some (some (.agg #[.int .i64 0,.bool false,.int .i64 0,.slice none 0 0]),4,48):=by kernel_rfl
theorem tn_one (i:Int) {b:Bool} {p:Nat} {a:Option Addr} {n c:Nat}:∀u ∈ TnR.cells ⟨i,b,p,.slice a n c⟩,u.oneCell'=true:=by intro u hu;simp[TnR.cells] at hu;rcases hu with rfl|rfl|rfl|rfl <;> rfl
def TurnIs (w:World) (r:TnR) (t:Tn):Prop:=r.id=t.id∧r.com=t.com∧r.p=t.to.1∧OwnS w 0 r.sv t.to.2
def TrsAt (w:World) (B:Nat) (v:Value) (ts:List Tn):Prop:=∃rs:List TnR,OwnF TnR.cells 195 4 w B v rs∧rs.length=ts.length∧∀(k:Nat) (r:TnR) (t:Tn),rs[k]?=some r→ts[k]?=some t→TurnIs w r t
theorem TurnIs.below {w w':World} {r:TnR} {t:Tn} (h:TurnIs w r t) (hb:Below w.heap.size w w'):TurnIs w' r t:=⟨h.1,h.2.1,h.2.2.1,OwnF.below h.2.2.2 hb⟩
theorem TrsAt.below {w w':World} {B:Nat} {v:Value} {ts:List Tn} (h:TrsAt w B v ts) (hb:Below w.heap.size w w'):TrsAt w' B v ts:=
 let ⟨rs,a,b,c⟩:=h;⟨rs,OwnF.below a hb,b,fun k r t hr ht=>(c k r t hr ht).below hb⟩
theorem TrsAt.drew {w:World} {B:Nat} {v:Value} {ts:List Tn} (h:TrsAt w B v ts):TrsAt w.drew B v ts:=
 let ⟨rs,a,b,c⟩:=h;⟨rs,OwnF.drew a,b,fun k r t hr ht=>⟨(c k r t hr ht).1,(c k r t hr ht).2.1,(c k r t hr ht).2.2.1,OwnF.drew (c k r t hr ht).2.2.2⟩⟩
theorem TrsAt.snoc {w w':World} {B:Nat} {v v':Value} {ts:List Tn} {rs:List TnR} {r:TnR} {t:Tn} (hv:OwnF TnR.cells 195 4 w B v rs) (hl:rs.length=ts.length) (hc:∀(k:Nat) (r:TnR) (t:Tn),rs[k]?=some r→ts[k]?=some t→TurnIs w r t) (h1:TurnIs w r t)
  (h':OwnF TnR.cells 195 4 w' B v' (rs++[r])) (hb:Grw w w' v v'):TrsAt w' B v' (ts++[t]):=by
 have key:∀(r:TnR) (t:Tn),TurnIs w r t→TurnIs w' r t:=fun r t h=>⟨h.1,h.2.1,h.2.2.1,OwnF.grwT h.2.2.2 hv (by decide) hb⟩
 refine⟨_,h',by simp[hl],fun k r' t' hr ht=>?_⟩
 rcases Nat.lt_trichotomy k ts.length with h|h|h
 ·rw [List.getElem?_append_left (by omega)] at hr ht
  exact key _ _ (hc k r' t' hr ht)
 ·subst h
  rw[List.getElem?_append_right (by omega)] at hr ht
  simp[hl] at hr ht
  subst hr ht
  exact key _ _ h1
 ·rw [List.getElem?_append_right (by omega)] at ht
  rw[List.getElem?_eq_none (by simp;omega)] at ht
  cases ht
theorem shr_bit {p k:Nat} (hp:p < 4096) (hk:k≤12):(bits BinOp.and IntKind.i64 ((p:Int) / 2 ^ min k 64) 1==1)=p.testBit k:=by
 have e1:(p:Int) / 2 ^ min k 64=((p / 2 ^ k:Nat):Int):=by rw[show min k 64=k by omega,Int.natCast_ediv,Int.natCast_pow];rfl
 have hl:p / 2 ^ k < 4611686018427387904:=Nat.lt_of_le_of_lt (Nat.div_le_self _ _) (by omega)
 have e2:bits BinOp.and IntKind.i64 ((p:Int) / 2 ^ min k 64) 1=((p / 2 ^ k&&&1:Nat):Int):=by rw[e1];exact bits_and_nat (b:=1) hl (by decide)
 rw[e2,Nat.and_one_is_mod,Nat.testBit_eq_decide_div_mod_eq]
 by_cases h:p / 2 ^ k % 2=1
 ·rw [h];rfl
 ·have:p / 2 ^ k % 2=0:=by omega
  rw[this];rfl
theorem andNot_ne {a b:Nat} (ha:a < 4096) (hb:b < 4096):(bits BinOp.andNot IntKind.i64 (a:Int) (b:Int) !=0)=!(a&&&b==a):=by
 have h:=bits_andNot_nat (a:=a) (b:=b) (by omega) (by omega)
 by_cases e:a&&&b=a
 ·have h0:bits BinOp.andNot IntKind.i64 (a:Int) (b:Int)=0:=by rw[h];exact e
  rw[h0,e];simp
 ·have h0:bits BinOp.andNot IntKind.i64 (a:Int) (b:Int)≠0:=fun h1=>e (by rw[h] at h1;exact h1)
  rw[show (bits BinOp.andNot IntKind.i64 (a:Int) (b:Int) !=0)=true from bne_iff_ne.2 h0,show(a&&&b==a)=false from beq_eq_false_iff_ne.2 e]
  rfl
theorem len_turns1 (g:Gm) (n:Nd) (i:Nat) (t:St):(g.turns1 n i t).length≤2:=by
 unfold Gm.turns1
 split
 ·rw [List.length_append]
  refine Nat.add_le_add (b:=1) (d:=1) ?_ ?_
  ·split
   ·split <;> simp
   ·simp
  ·split <;> simp
 ·simp
theorem len_turnsK (g:Gm) (n:Nd):∀k,(g.turnsK n k).length≤2*k
 |0=>by simp[Gm.turnsK]
 |k+1=>by
  have ih:=len_turnsK g n k
  unfold Gm.turnsK at *
  rw[List.range_succ,List.flatMap_append,List.length_append]
  simp only[List.flatMap_cons,List.flatMap_nil,List.append_nil]
  refine Nat.le_trans (Nat.add_le_add (d:=2) ih ?_) (by omega)
  split
  ·exact len_turns1 _ _ _ _
  ·simp
theorem g_turns {w:World} {B bG m:Nat} {g:Gm} {σ0 σ:List Int} {tv mv fv sv:Value} {p:Nat} (h:GameAt w B bG g σ0 tv mv fv) (hg:g.txs.length≤12) (hs:OwnS w 0 sv σ) (hp:p < 2 ^ g.txs.length) (hm:∀x ∈ g.masks,x < 4096) (hml:g.masks.length=g.txs.length) (hok:∀s ∈ g.txs,∀d ∈ s.deeds,DdR σ.length d) (hσ:σ.length≤8) (hE:ErrAt 15 w):
  Calls Tryz.prog 97 #[.pointer (some ⟨bG,0,none⟩),.agg #[.int .i64 p,sv]] w fun e w'=>∃v',e=.returned v'∧TrsAt w' w.heap.size v' (g.turns (p,σ))∧Below w.heap.size w w':=by
 obtain⟨aS,cS,rfl,-⟩:=(OwnF.sl hs).ex
 obtain⟨rs,o1,hrl,hrc⟩:=h.txs
 obtain⟨at1,ct1,rfl,-⟩:=(OwnF.sl o1).ex
 have hmk:=h.masks
 obtain⟨am1,cm1,rfl,-⟩:=(OwnF.sl hmk).ex
 obtain⟨gl,gt,gm⟩:=g
 simp only at hg hp hm hml hok hrl hrc hmk
 have b0:Below w.heap.size w (w.alloc (.cells #[.int .i64 p,.slice aS σ.length cS] 181)):=(Below.refl _ w).alloc (Nat.le_refl _) _
 have r0:=hid (row_new w (.cells #[.int .i64 p,.slice aS σ.length cS] 181))
 have HZ:=hid (show(w.alloc (.cells #[.int .i64 p,.slice aS σ.length cS] 181)).heap.size=w.heap.size+1 by simp)
 have rg:=row_below h.row b0 (row_lt h.row)
 have y:=row_cell rg 1
 have RG:=hid h.row
 have O1:=hid o1
 have HRC:=hid hrc
 have HRL:=hid hrl
 have HMK:=hid hmk
 have HS:=hid hs
 have HOK:=hid hok
 have HM:=hid hm
 have HE:=hid hE
 have B0:=hid b0
 have gll:=row_lt rg
 have HML:=hid hml
 clear h o1 hrc hrl hmk hs hok hm hE b0 rg hml
 go_enter Tryz.func97,Tryz.ntmps97
 go_wp2_with fail
 generalize w.alloc (.cells #[.int .i64 p,.slice aS σ.length cS] 181)=W at *
 simp at y
 go_wp2_with fail
 go_loopw [5,17] (fun q x wr=>∃(k:Nat),k≤rs.length∧x=.int .i64 k∧TrsAt wr w.heap.size q ((Gm.mk gl gt gm).turnsK (p,σ) k)∧wr.heap[w.heap.size]?=some (.cells #[.int .i64 p,.slice aS σ.length cS] 181 (0,0))∧Below w.heap.size w wr) (fun _ x _=>rs.length - (intOf x).toNat)
 case atStart=>exact⟨0,by omega,by go_num,⟨[],OwnF.nil _ _,rfl,fun k r t hr=>by simp at hr⟩,r0.out,B0.out⟩
 case round=>
  obtain⟨k,hk,rfl,qt,qr,qb⟩:=hrel
  have hsz:=qb.size
  have QT:=hid qt
  have QR:=hid qr
  have QB:=hid qb
  clear qt qr qb r0 B0 HZ y gll W
  by_cases hlt:k < rs.length
  ·obtain ⟨b,off,o,rfl,hb,hox,hc⟩:=(OwnF.sl (OwnF.below O1.out QB.out)).atF TxR.len rfl hlt
   obtain⟨s,hs⟩:∃s,gt[k]?=some s:=⟨_,List.getElem?_eq_getElem (by have:=HRL.out;omega)⟩
   obtain⟨⟨e1,e2,e3,e4,e5,e6⟩,od⟩:=HRC.out k o s hox hs
   obtain⟨i1,th1,st1,be1,fi1,tr1,dv⟩:=o
   obtain⟨ad1,cd1,hdv⟩:=OwnF.slv od
   simp only at hdv e1 e2 e3 e4 e5 e6 od
   subst hdv
   obtain⟨nd1,hnd⟩:∃n,s.deeds.length=n:=⟨_,rfl⟩
   rw[hnd] at hc
   have c0:wr.cell? ⟨b,off+k*7,none⟩=some (.int .i64 i1):=hc 0 (by decide)
   have c1:wr.cell? ⟨b,off+k*7+1,none⟩=some (.int .i64 th1):=hc 1 (by decide)
   have c2:wr.cell? ⟨b,off+k*7+2,none⟩=some (.int .i64 st1):=hc 2 (by decide)
   have c3:wr.cell? ⟨b,off+k*7+3,none⟩=some (.int .i64 be1):=hc 3 (by decide)
   have c4:wr.cell? ⟨b,off+k*7+4,none⟩=some (.int .i64 fi1):=hc 4 (by decide)
   have c5:wr.cell? ⟨b,off+k*7+5,none⟩=some (.int .i64 tr1):=hc 5 (by decide)
   have c6:wr.cell? ⟨b,off+k*7+6,none⟩=some (.slice ad1 nd1 cd1):=hc 6 (by decide)
   have SX:=hid (turnsK_succ (g:=Gm.mk gl gt gm) (n:=(p,σ)) hs)
   have HSS:=hid hs
   have HND:=hid hnd
   have OD:=hid od
   have E1:=hid e1
   have E3:=hid e3
   clear hc hox hs e1 e2 e3 e4 e5 e6 hnd od
   have b3:Below wr.heap.size wr (wr.alloc (.cells #[.int .i64 i1,.int .i64 th1,.int .i64 st1,.int .i64 be1,.int .i64 fi1,.int .i64 tr1,.slice ad1 nd1 cd1] 56)):=(Below.refl _ wr).alloc (Nat.le_refl _) _
   have r3:=row_new wr (.cells #[.int .i64 i1,.int .i64 th1,.int .i64 st1,.int .i64 be1,.int .i64 fi1,.int .i64 tr1,.slice ad1 nd1 cd1] 56)
   have hz3:=hid (show(wr.alloc (.cells #[.int .i64 i1,.int .i64 th1,.int .i64 st1,.int .i64 be1,.int .i64 fi1,.int .i64 tr1,.slice ad1 nd1 cd1] 56)).heap.size=wr.heap.size+1 by simp)
   go_wp2_with fail
   generalize wr.alloc (.cells #[.int .i64 i1,.int .i64 th1,.int .i64 st1,.int .i64 be1,.int .i64 fi1,.int .i64 tr1,.slice ad1 nd1 cd1] 56)=W3 at *
   have rn3:=row_below QR.out b3 (row_lt QR.out)
   have BB3:=hid (QB.out.trans (b3.mono hsz))
   have rg3:=row_below RG.out BB3.out (row_lt RG.out)
   have x:=row_cell rn3
   have x0:=x 0
   have x1:=x 1
   have yg:=row_cell rg3
   have y0:=yg 0
   have y2:=yg 2
   have z:=row_cell r3
   have z0:=z 0
   have z2:=z 2
   have z6:=z 6
   simp at x0 x1 y0 y2 z0 z2 z6
   have xl:=row_lt rn3
   have yl:=row_lt rg3
   have zl:=row_lt r3
   have R3:=hid r3
   have B3:=hid b3
   clear x yg z rn3 rg3 r3 b3 c0 c1 c2 c3 c4 c5 c6
   have hp12:p < 4096:=Nat.lt_of_lt_of_le hp (pow_wrap (i:=gt.length) hg).2
   have hk12:k≤12:=by have:=HRL.out;omega
   have hsb:=shr_bit hp12 hk12
   rw[show min k 64=k by omega] at hsb
   have hmk:k < gm.length:=by have:=HRL.out;have:=HML.out;omega
   obtain⟨b2,off2,mx,rfl,hb2,hmx,hcm⟩:=(OwnF.sl (OwnF.below HMK.out BB3.out)).atF intC_len rfl (by simpa using hmk)
   have hmxe:mx=((gm.getD k 0:Nat):Int):=by
    rw[List.getElem?_map,List.getElem?_eq_getElem hmk] at hmx
    rw[List.getD_eq_getElem?_getD,List.getElem?_eq_getElem hmk]
    simpa using hmx.symm
   obtain⟨mN,hmN⟩:∃mN,gm.getD k 0=mN:=⟨_,rfl⟩
   rw[hmN] at hmxe
   subst hmxe
   have hmN4:mN < 4096:=HM.out _ (by rw[←hmN,List.getD_eq_getElem?_getD,List.getElem?_eq_getElem hmk];exact List.getElem_mem hmk)
   have v0:W3.cell? ⟨b2,off2+k,none⟩=some (.int .i64 (mN:Int)):=by have:=hcm 0 (by decide);simpa[intC] using this
   have han:=andNot_ne hmN4 hp12
   have HMN:=hid hmN
   clear hcm hmx hmN
   cases hbit:p.testBit k with
   |true=>
    rw[hbit] at hsb
    refine wp_rN (W3.heap.size) [0,1,0,0,0,0,0,0,0,0,1,0,0,1,0,1,0,0,0] (.fin [0,1,2,3,4,5,6,7,8,9,10,11,12,13,14,15,16,17,18]) (by kernel_rfl) ?_
    simp only[wpT,selX,guardAt,sD,sE,sF,sG,Option.bind_some]
    repeat first|(refine wpL_p fun K hK=>?_;go_simp;refine hK _ _ ?_;clear hK K)|(apply wpL_s;(intro w2 hw2;have hk1:=hw2.cell;have hk3:=hw2.1;clear hw2;go_simp;with_reducible rfl);simp only[Act.put,sA,sB,sC])|(refine wpL_no rfl rfl fun K hK=>?_;simp only[Act.put,sA,sB,sC];refine hK _ _ ?_;clear hK K)|refine wpL_nil ?_
    go_wp2_with fail
    refine⟨⟨k+1,by omega,by go_num,?_,row_below QR.out B3.out.drew (row_lt QR.out),QB.out.trans (B3.out.drew.mono hsz)⟩,by simp[intOf];omega⟩
    have hmay:(Gm.mk gl gt gm).may p k=false:=by
     show(!p.testBit k&&(gm.getD k 0&&&p==gm.getD k 0))=false
     rw[HMN.out,hbit];rfl
    have e:(Gm.mk gl gt gm).turns1 (p,σ) k s=[]:=by unfold Gm.turns1;rw[if_neg (by rw[hmay];simp)]
    rw[SX.out,e,List.append_nil]
    exact QT.out.below B3.out.drew
   |false=>
    rw[hbit] at hsb
    cases hmb:(mN&&&p==mN) with
    |false=>
     rw[hmb] at han
     refine wp_rN (W3.heap.size) [0,1,0,0,0,0,0,0,0,0,1,0,0,1,0,1,0,0,0] (.fin [0,1,2,3,4,5,6,7,8,9,10,11,12,13,14,15,16,17,18]) (by kernel_rfl) ?_
     simp only[wpT,selX,guardAt,sD,sE,sF,sG,Option.bind_some]
     repeat first|(refine wpL_p fun K hK=>?_;go_simp;refine hK _ _ ?_;clear hK K)|(apply wpL_s;(intro w2 hw2;have hk1:=hw2.cell;have hk3:=hw2.1;clear hw2;go_simp;with_reducible rfl);simp only[Act.put,sA,sB,sC])|refine wpL_yes rfl rfl ?_|refine wpL_nil ?_
     go_wp2_with fail
     refine⟨⟨k+1,by omega,by go_num,?_,row_below QR.out B3.out.drew (row_lt QR.out),QB.out.trans (B3.out.drew.mono hsz)⟩,by simp[intOf];omega⟩
     have hmay:(Gm.mk gl gt gm).may p k=false:=by
      show(!p.testBit k&&(gm.getD k 0&&&p==gm.getD k 0))=false
      rw[HMN.out,hbit,hmb];rfl
     have e:(Gm.mk gl gt gm).turns1 (p,σ) k s=[]:=by unfold Gm.turns1;rw[if_neg (by rw[hmay];simp)]
     rw[SX.out,e,List.append_nil]
     exact QT.out.below B3.out.drew
    |true=>
     rw[hmb] at han
     refine wp_rN (W3.heap.size) [0,1,0,0,0,0,0,0,0,0,1,0,0,1,0,1,0,0,0] (.fin [0,1,2,3,4,5,6,7,8,9,10,11,12,13,14,15,16,17,18]) (by kernel_rfl) ?_
     simp only[wpT,selX,guardAt,sD,sE,sF,sG,Option.bind_some]
     repeat first|(refine wpL_p fun K hK=>?_;go_simp;refine hK _ _ ?_;clear hK K)|(apply wpL_s;(intro w2 hw2;have hk1:=hw2.cell;have hk3:=hw2.1;clear hw2;go_simp;with_reducible rfl);simp only[Act.put,sA,sB,sC])|refine wpL_yes rfl rfl ?_|refine wpL_nil ?_
     go_wp2_with fail
     have hmay:(Gm.mk gl gt gm).may p k=true:=by
      show(!p.testBit k&&(gm.getD k 0&&&p==gm.getD k 0))=true
      rw[HMN.out,hbit,hmb];rfl
     have HMAY:=hid hmay
     have QT3:=hid (QT.out.below B3.out.drew)
     have BWR:=hid (QB.out.trans (B3.out.drew.mono hsz))
     have hsz3:wr.heap.size≤W3.drew.heap.size:=B3.out.drew.size
     have hdd:=OwnF.below OD.out (show Below w.heap.size w W3.drew from BWR.out)
     rw[HND.out] at hdd
     have RC:=hid (pl_Run (.slice aS σ.length cS) (.slice ad1 nd1 cd1) σ s.deeds W3.drew (OwnF.below HS.out BWR.out) (by omega) (by have:=OwnF.sl hdd;rw[HND.out] at this ⊢;exact this) (HOK.out s (List.mem_of_getElem? HSS.out)) (HE.out.below BWR.out))
     have RN4:=hid (row_below QR.out B3.out.drew (row_lt QR.out))
     have RG4:=hid (row_below RG.out BWR.out (row_lt RG.out))
     have RT4:=hid (show W3.drew.heap[wr.heap.size]?=_ from R3.out)
     clear v0 han hsb hmay hdd hbit hmb x0 x1 y0 y2 z0 z2 z6 xl yl zl hmN4 hb hb2
     generalize W3.drew=W4 at *
     refine RC.out.mono ?_
     rintro e W5 ⟨hpost,b5⟩
     have hbl:=bits_or_nat (a:=p) (b:=2 ^ k) (by omega) (by have:=(pow_wrap hk12).2;omega)
     rw[←(pow_wrap hk12).1] at hbl
     cases hrep:rep σ s.deeds with
     |some τ=>
      rw[hrep] at hpost
      obtain⟨v',rfl,o5⟩:=hpost
      obtain⟨a5,c5,rfl,-⟩:=(OwnF.sl o5).ex
      have b6:Below W5.heap.size W5 (W5.alloc (.cells #[.slice a5 τ.length c5] 46)):=(Below.refl _ W5).alloc (Nat.le_refl _) _
      have ru:=row_new W5 (.cells #[.slice a5 τ.length c5] 46)
      have b46:=hid (b5.trans (b6.mono b5.size))
      have O6:=hid (OwnF.below o5 b6)
      have hz56:W4.heap.size≤W5.heap.size:=b5.size
      unfold stV
      go_wp2_with fail
      generalize W5.alloc (.cells #[.slice a5 τ.length c5] 46)=W6 at *
      have rn:=row_below RN4.out b46.out (row_lt RN4.out)
      have rt:=row_below RT4.out b46.out (row_lt RT4.out)
      have rg:=row_below RG4.out b46.out (row_lt RG4.out)
      have x0:=row_cell rn 0
      have x1:=row_cell rn 1
      have z0:=row_cell rt 0
      have z2:=row_cell rt 2
      have y0:=row_cell rg 0
      have u0:=row_cell ru 0
      simp at x0 x1 z0 z2 y0 u0
      have xl:=row_lt rn
      have zl:=row_lt rt
      have yl:=row_lt rg
      have ul:=row_lt ru
      have RNX:=hid rn
      have RTX:=hid rt
      have RGX:=hid rg
      clear rn rt rg b6 b5 o5
      refine wp_rN (W6.heap.size) [0,1,0,0,0,0] (.fin [0,1,2,3,4,5]) (by kernel_rfl) ?_
      simp only[wpT,selX,guardAt,sD,sE,sF,sG]
      repeat first|(refine wpL_p fun K hK=>?_;go_simp;refine hK _ _ ?_;clear hK K)|(apply wpL_s;(intro w2 hw2;have hk1:=hw2.cell;have hk3:=hw2.1;clear hw2;go_simp;with_reducible rfl);simp only[Act.put,sA,sB,sC])|refine wpL_nil ?_
      simp only[wrap_i64,hbl]
      have ru6:=hid ru
      have rn6:=hid (show W6.drew.heap[w.heap.size]?=_ from RNX.out)
      have rt6:=hid (show W6.drew.heap[wr.heap.size]?=_ from RTX.out)
      have rg6:=hid (show W6.drew.heap[bG]?=_ from RGX.out)
      have bw6:=hid ((BWR.out.trans (b46.out.mono (Nat.le_trans hsz hsz3))).drew)
      have QT6:=hid (QT3.out.below b46.out)
      obtain⟨trs0,ow0,hl0,hc0⟩:=QT6.out
      have hT0:=len_turnsK (Gm.mk gl gt gm) (p,σ) k
      have hLL0:trs0.length≤60:=by rw[hl0];omega
      have HL0:=hid hl0
      have ow:=ow0.drew
      have hB6:w.heap.size≤W6.drew.heap.size:=bw6.out.size
      clear ru
      by_cases h3:st1=3
      ·have q3:(st1==3)=true:=by simp[h3]
       have q3n:(st1 !=3)=false:=by simp[h3]
       go_wp2_with (at_builtin;refine wpList_appF rfl _ _ _ rfl _ 48 Tryz.underlying192 infoTn rfl ow (TnR.mk i1 true (p|||2 ^ k) (.slice a5 τ.length c5)) hB6 (by rfl) (by rfl) (by first|rfl|simp) rfl (tn_one _) (by first|omega|(simp only[List.length_append,List.length_cons,List.length_nil,List.length_replicate];omega)) (by first|omega|(simp only[List.length_append,List.length_cons,List.length_nil,List.length_replicate];omega)) ?_;refine Stop.halt ?_)
       refine Stop.go ?_
       intro g1 cc1 v1 oo1 GG1
       have T1:=hid (TrsAt.snoc (t:=(⟨i1,true,(p|||2 ^ k,τ)⟩:Tn)) ow hl0 hc0 ⟨rfl,rfl,rfl,(OwnF.drew O6.out)⟩ oo1 GG1)
       have rn1:=hid (row_grw rn6.out GG1 (OwnF.neT ow rn6.out (by decide)))
       have rt1:=hid (row_grw rt6.out GG1 (OwnF.neT ow rt6.out (by decide)))
       have rg1:=hid (row_grw rg6.out GG1 (OwnF.neT ow rg6.out (by decide)))
       have bw1:=hid ((bw6.out).trans (GG1.below hB6 fun j hj=>(OwnF.lt ow j hj).1))
       obtain⟨trs1,ow1,hl1,hc1⟩:=T1.out
       have hLL1:trs1.length≤60:=by rw[hl1];simp;omega
       have hB1:w.heap.size≤v1.heap.size:=bw1.out.size
       have HL1:=hid hl1
       have x0:=row_cell rn1.out 0
       have x1:=row_cell rn1.out 1
       have z0:=row_cell rt1.out 0
       have z2:=row_cell rt1.out 2
       have y0:=row_cell rg1.out 0
       simp at x0 x1 z0 z2 y0
       have xl:=row_lt rn1.out
       have zl:=row_lt rt1.out
       have yl:=row_lt rg1.out
       go_wp2_with fail
       refine⟨⟨k+1,by omega,by go_num,?_,rn1.out,bw1.out⟩,by simp[intOf];omega⟩
       have e:(Gm.mk gl gt gm).turns1 (p,σ) k s=[(⟨i1,true,(p|||2 ^ k,τ)⟩:Tn)]:=by
        unfold Gm.turns1
        rw[if_pos HMAY.out,←E3.out,←E1.out]
        simp[hrep,h3]
       rw[SX.out,e]
       exact T1.out
      ·by_cases h2:st1=2
       ·by_cases hv:gl=3
        ·have q3:(st1==3)=false:=beq_eq_false_iff_ne.2 h3
         have q3n:(st1 !=3)=true:=bne_iff_ne.2 h3
         have q2:(st1==2)=true:=by simp[h2]
         have qv:(gl !=3)=false:=by simp[hv]
         go_wp2_with (at_builtin;refine wpList_appF rfl _ _ _ rfl _ 48 Tryz.underlying192 infoTn rfl ow (TnR.mk i1 true (p|||2 ^ k) (.slice a5 τ.length c5)) hB6 (by rfl) (by rfl) (by first|rfl|simp) rfl (tn_one _) (by first|omega|(simp only[List.length_append,List.length_cons,List.length_nil,List.length_replicate];omega)) (by first|omega|(simp only[List.length_append,List.length_cons,List.length_nil,List.length_replicate];omega)) ?_;refine Stop.halt ?_)
         refine Stop.go ?_
         intro g1 cc1 v1 oo1 GG1
         have T1:=hid (TrsAt.snoc (t:=(⟨i1,true,(p|||2 ^ k,τ)⟩:Tn)) ow hl0 hc0 ⟨rfl,rfl,rfl,(OwnF.drew O6.out)⟩ oo1 GG1)
         have rn1:=hid (row_grw rn6.out GG1 (OwnF.neT ow rn6.out (by decide)))
         have rt1:=hid (row_grw rt6.out GG1 (OwnF.neT ow rt6.out (by decide)))
         have rg1:=hid (row_grw rg6.out GG1 (OwnF.neT ow rg6.out (by decide)))
         have bw1:=hid ((bw6.out).trans (GG1.below hB6 fun j hj=>(OwnF.lt ow j hj).1))
         obtain⟨trs1,ow1,hl1,hc1⟩:=T1.out
         have hLL1:trs1.length≤60:=by rw[hl1];simp;omega
         have hB1:w.heap.size≤v1.heap.size:=bw1.out.size
         have HL1:=hid hl1
         have x0:=row_cell rn1.out 0
         have x1:=row_cell rn1.out 1
         have z0:=row_cell rt1.out 0
         have z2:=row_cell rt1.out 2
         have y0:=row_cell rg1.out 0
         simp at x0 x1 z0 z2 y0
         have xl:=row_lt rn1.out
         have zl:=row_lt rt1.out
         have yl:=row_lt rg1.out
         go_wp2_with (at_builtin;refine wpList_appF rfl _ _ _ rfl _ 48 Tryz.underlying192 infoTn rfl ow1 (TnR.mk i1 false (p|||2 ^ k) (.slice aS σ.length cS)) hB1 (by rfl) (by rfl) (by first|rfl|simp) rfl (tn_one _) (by first|omega|(simp only[List.length_append,List.length_cons,List.length_nil,List.length_replicate];omega)) (by first|omega|(simp only[List.length_append,List.length_cons,List.length_nil,List.length_replicate];omega)) ?_;refine Stop.halt ?_)
         refine Stop.go ?_
         intro g2 cc2 v2 oo2 GG2
         have T2:=hid (TrsAt.snoc (t:=(⟨i1,false,(p|||2 ^ k,σ)⟩:Tn)) ow1 hl1 hc1 ⟨rfl,rfl,rfl,(OwnF.below HS.out bw1.out)⟩ oo2 GG2)
         have rn2:=hid (row_grw rn1.out GG2 (OwnF.neT ow1 rn1.out (by decide)))
         have rt2:=hid (row_grw rt1.out GG2 (OwnF.neT ow1 rt1.out (by decide)))
         have rg2:=hid (row_grw rg1.out GG2 (OwnF.neT ow1 rg1.out (by decide)))
         have bw2:=hid ((bw1.out).trans (GG2.below hB1 fun j hj=>(OwnF.lt ow1 j hj).1))
         obtain⟨trs2,ow2,hl2,hc2⟩:=T2.out
         have hLL2:trs2.length≤60:=by rw[hl2];simp;omega
         have hB2:w.heap.size≤v2.heap.size:=bw2.out.size
         have HL2:=hid hl2
         have x0:=row_cell rn2.out 0
         have x1:=row_cell rn2.out 1
         have z0:=row_cell rt2.out 0
         have z2:=row_cell rt2.out 2
         have y0:=row_cell rg2.out 0
         simp at x0 x1 z0 z2 y0
         have xl:=row_lt rn2.out
         have zl:=row_lt rt2.out
         have yl:=row_lt rg2.out
         go_wp2_with fail
         refine⟨⟨k+1,by omega,by go_num,?_,rn2.out,bw2.out⟩,by simp[intOf];omega⟩
         have e:(Gm.mk gl gt gm).turns1 (p,σ) k s=[(⟨i1,true,(p|||2 ^ k,τ)⟩:Tn),(⟨i1,false,(p|||2 ^ k,σ)⟩:Tn)]:=by
          unfold Gm.turns1
          rw[if_pos HMAY.out,←E3.out,←E1.out]
          simp[hrep,h3,h2,hv]
         rw[SX.out,e]
         have:=T2.out
         simpa using this
        ·have q3:(st1==3)=false:=beq_eq_false_iff_ne.2 h3
         have q3n:(st1 !=3)=true:=bne_iff_ne.2 h3
         have q2:(st1==2)=true:=by simp[h2]
         have qv:(gl !=3)=true:=bne_iff_ne.2 hv
         go_wp2_with (at_builtin;refine wpList_appF rfl _ _ _ rfl _ 48 Tryz.underlying192 infoTn rfl ow (TnR.mk i1 true (p|||2 ^ k) (.slice a5 τ.length c5)) hB6 (by rfl) (by rfl) (by first|rfl|simp) rfl (tn_one _) (by first|omega|(simp only[List.length_append,List.length_cons,List.length_nil,List.length_replicate];omega)) (by first|omega|(simp only[List.length_append,List.length_cons,List.length_nil,List.length_replicate];omega)) ?_;refine Stop.halt ?_)
         refine Stop.go ?_
         intro g1 cc1 v1 oo1 GG1
         have T1:=hid (TrsAt.snoc (t:=(⟨i1,true,(p|||2 ^ k,τ)⟩:Tn)) ow hl0 hc0 ⟨rfl,rfl,rfl,(OwnF.drew O6.out)⟩ oo1 GG1)
         have rn1:=hid (row_grw rn6.out GG1 (OwnF.neT ow rn6.out (by decide)))
         have rt1:=hid (row_grw rt6.out GG1 (OwnF.neT ow rt6.out (by decide)))
         have rg1:=hid (row_grw rg6.out GG1 (OwnF.neT ow rg6.out (by decide)))
         have bw1:=hid ((bw6.out).trans (GG1.below hB6 fun j hj=>(OwnF.lt ow j hj).1))
         obtain⟨trs1,ow1,hl1,hc1⟩:=T1.out
         have hLL1:trs1.length≤60:=by rw[hl1];simp;omega
         have hB1:w.heap.size≤v1.heap.size:=bw1.out.size
         have HL1:=hid hl1
         have x0:=row_cell rn1.out 0
         have x1:=row_cell rn1.out 1
         have z0:=row_cell rt1.out 0
         have z2:=row_cell rt1.out 2
         have y0:=row_cell rg1.out 0
         simp at x0 x1 z0 z2 y0
         have xl:=row_lt rn1.out
         have zl:=row_lt rt1.out
         have yl:=row_lt rg1.out
         go_wp2_with (at_builtin;refine wpList_appF rfl _ _ _ rfl _ 48 Tryz.underlying192 infoTn rfl ow1 (TnR.mk i1 false (p|||2 ^ k) (.slice aS σ.length cS)) hB1 (by rfl) (by rfl) (by first|rfl|simp) rfl (tn_one _) (by first|omega|(simp only[List.length_append,List.length_cons,List.length_nil,List.length_replicate];omega)) (by first|omega|(simp only[List.length_append,List.length_cons,List.length_nil,List.length_replicate];omega)) ?_;refine Stop.halt ?_)
         refine Stop.go ?_
         intro g2 cc2 v2 oo2 GG2
         have T2:=hid (TrsAt.snoc (t:=(⟨i1,false,(p|||2 ^ k,σ)⟩:Tn)) ow1 hl1 hc1 ⟨rfl,rfl,rfl,(OwnF.below HS.out bw1.out)⟩ oo2 GG2)
         have rn2:=hid (row_grw rn1.out GG2 (OwnF.neT ow1 rn1.out (by decide)))
         have rt2:=hid (row_grw rt1.out GG2 (OwnF.neT ow1 rt1.out (by decide)))
         have rg2:=hid (row_grw rg1.out GG2 (OwnF.neT ow1 rg1.out (by decide)))
         have bw2:=hid ((bw1.out).trans (GG2.below hB1 fun j hj=>(OwnF.lt ow1 j hj).1))
         obtain⟨trs2,ow2,hl2,hc2⟩:=T2.out
         have hLL2:trs2.length≤60:=by rw[hl2];simp;omega
         have hB2:w.heap.size≤v2.heap.size:=bw2.out.size
         have HL2:=hid hl2
         have x0:=row_cell rn2.out 0
         have x1:=row_cell rn2.out 1
         have z0:=row_cell rt2.out 0
         have z2:=row_cell rt2.out 2
         have y0:=row_cell rg2.out 0
         simp at x0 x1 z0 z2 y0
         have xl:=row_lt rn2.out
         have zl:=row_lt rt2.out
         have yl:=row_lt rg2.out
         go_wp2_with fail
         refine⟨⟨k+1,by omega,by go_num,?_,rn2.out,bw2.out⟩,by simp[intOf];omega⟩
         have e:(Gm.mk gl gt gm).turns1 (p,σ) k s=[(⟨i1,true,(p|||2 ^ k,τ)⟩:Tn),(⟨i1,false,(p|||2 ^ k,σ)⟩:Tn)]:=by
          unfold Gm.turns1
          rw[if_pos HMAY.out,←E3.out,←E1.out]
          simp[hrep,h3,h2,hv]
         rw[SX.out,e]
         have:=T2.out
         simpa using this
       ·by_cases hv:gl=3
        ·have q3:(st1==3)=false:=beq_eq_false_iff_ne.2 h3
         have q3n:(st1 !=3)=true:=bne_iff_ne.2 h3
         have q2:(st1==2)=false:=beq_eq_false_iff_ne.2 h2
         have qv:(gl !=3)=false:=by simp[hv]
         go_wp2_with (at_builtin;refine wpList_appF rfl _ _ _ rfl _ 48 Tryz.underlying192 infoTn rfl ow (TnR.mk i1 false (p|||2 ^ k) (.slice aS σ.length cS)) hB6 (by rfl) (by rfl) (by first|rfl|simp) rfl (tn_one _) (by first|omega|(simp only[List.length_append,List.length_cons,List.length_nil,List.length_replicate];omega)) (by first|omega|(simp only[List.length_append,List.length_cons,List.length_nil,List.length_replicate];omega)) ?_;refine Stop.halt ?_)
         refine Stop.go ?_
         intro g1 cc1 v1 oo1 GG1
         have T1:=hid (TrsAt.snoc (t:=(⟨i1,false,(p|||2 ^ k,σ)⟩:Tn)) ow hl0 hc0 ⟨rfl,rfl,rfl,(OwnF.below HS.out bw6.out)⟩ oo1 GG1)
         have rn1:=hid (row_grw rn6.out GG1 (OwnF.neT ow rn6.out (by decide)))
         have rt1:=hid (row_grw rt6.out GG1 (OwnF.neT ow rt6.out (by decide)))
         have rg1:=hid (row_grw rg6.out GG1 (OwnF.neT ow rg6.out (by decide)))
         have bw1:=hid ((bw6.out).trans (GG1.below hB6 fun j hj=>(OwnF.lt ow j hj).1))
         obtain⟨trs1,ow1,hl1,hc1⟩:=T1.out
         have hLL1:trs1.length≤60:=by rw[hl1];simp;omega
         have hB1:w.heap.size≤v1.heap.size:=bw1.out.size
         have HL1:=hid hl1
         have x0:=row_cell rn1.out 0
         have x1:=row_cell rn1.out 1
         have z0:=row_cell rt1.out 0
         have z2:=row_cell rt1.out 2
         have y0:=row_cell rg1.out 0
         simp at x0 x1 z0 z2 y0
         have xl:=row_lt rn1.out
         have zl:=row_lt rt1.out
         have yl:=row_lt rg1.out
         go_wp2_with fail
         refine⟨⟨k+1,by omega,by go_num,?_,rn1.out,bw1.out⟩,by simp[intOf];omega⟩
         have e:(Gm.mk gl gt gm).turns1 (p,σ) k s=[(⟨i1,false,(p|||2 ^ k,σ)⟩:Tn)]:=by
          unfold Gm.turns1
          rw[if_pos HMAY.out,←E3.out,←E1.out]
          simp[hrep,h3,h2,hv]
         rw[SX.out,e]
         exact T1.out
        ·have q3:(st1==3)=false:=beq_eq_false_iff_ne.2 h3
         have q3n:(st1 !=3)=true:=bne_iff_ne.2 h3
         have q2:(st1==2)=false:=beq_eq_false_iff_ne.2 h2
         have qv:(gl !=3)=true:=bne_iff_ne.2 hv
         go_wp2_with (at_builtin;refine wpList_appF rfl _ _ _ rfl _ 48 Tryz.underlying192 infoTn rfl ow (TnR.mk i1 false (p|||2 ^ k) (.slice aS σ.length cS)) hB6 (by rfl) (by rfl) (by first|rfl|simp) rfl (tn_one _) (by first|omega|(simp only[List.length_append,List.length_cons,List.length_nil,List.length_replicate];omega)) (by first|omega|(simp only[List.length_append,List.length_cons,List.length_nil,List.length_replicate];omega)) ?_;refine Stop.halt ?_)
         refine Stop.go ?_
         intro g1 cc1 v1 oo1 GG1
         have T1:=hid (TrsAt.snoc (t:=(⟨i1,false,(p|||2 ^ k,σ)⟩:Tn)) ow hl0 hc0 ⟨rfl,rfl,rfl,(OwnF.below HS.out bw6.out)⟩ oo1 GG1)
         have rn1:=hid (row_grw rn6.out GG1 (OwnF.neT ow rn6.out (by decide)))
         have rt1:=hid (row_grw rt6.out GG1 (OwnF.neT ow rt6.out (by decide)))
         have rg1:=hid (row_grw rg6.out GG1 (OwnF.neT ow rg6.out (by decide)))
         have bw1:=hid ((bw6.out).trans (GG1.below hB6 fun j hj=>(OwnF.lt ow j hj).1))
         obtain⟨trs1,ow1,hl1,hc1⟩:=T1.out
         have hLL1:trs1.length≤60:=by rw[hl1];simp;omega
         have hB1:w.heap.size≤v1.heap.size:=bw1.out.size
         have HL1:=hid hl1
         have x0:=row_cell rn1.out 0
         have x1:=row_cell rn1.out 1
         have z0:=row_cell rt1.out 0
         have z2:=row_cell rt1.out 2
         have y0:=row_cell rg1.out 0
         simp at x0 x1 z0 z2 y0
         have xl:=row_lt rn1.out
         have zl:=row_lt rt1.out
         have yl:=row_lt rg1.out
         go_wp2_with fail
         refine⟨⟨k+1,by omega,by go_num,?_,rn1.out,bw1.out⟩,by simp[intOf];omega⟩
         have e:(Gm.mk gl gt gm).turns1 (p,σ) k s=[(⟨i1,false,(p|||2 ^ k,σ)⟩:Tn)]:=by
          unfold Gm.turns1
          rw[if_pos HMAY.out,←E3.out,←E1.out]
          simp[hrep,h3,h2,hv]
         rw[SX.out,e]
         exact T1.out
     |none=>
      rw[hrep] at hpost
      obtain⟨te,ve,rfl⟩:=hpost
      have b6:Below W5.heap.size W5 (W5.alloc (.cells #[.slice none 0 0] 46)):=(Below.refl _ W5).alloc (Nat.le_refl _) _
      have ru:=row_new W5 (.cells #[.slice none 0 0] 46)
      have b46:=hid (b5.trans (b6.mono b5.size))
      have hz56:W4.heap.size≤W5.heap.size:=b5.size
      unfold stV
      go_wp2_with fail
      generalize W5.alloc (.cells #[.slice none 0 0] 46)=W6 at *
      have rn:=row_below RN4.out b46.out (row_lt RN4.out)
      have rt:=row_below RT4.out b46.out (row_lt RT4.out)
      have rg:=row_below RG4.out b46.out (row_lt RG4.out)
      have x0:=row_cell rn 0
      have x1:=row_cell rn 1
      have z0:=row_cell rt 0
      have z2:=row_cell rt 2
      have y0:=row_cell rg 0
      have u0:=row_cell ru 0
      simp at x0 x1 z0 z2 y0 u0
      have xl:=row_lt rn
      have zl:=row_lt rt
      have yl:=row_lt rg
      have ul:=row_lt ru
      have RNX:=hid rn
      have RTX:=hid rt
      have RGX:=hid rg
      clear rn rt rg b6 b5
      refine wp_rN (W6.heap.size) [0,1,0,0,0,0] (.fin [0,1,2,3,4,5]) (by kernel_rfl) ?_
      simp only[wpT,selX,guardAt,sD,sE,sF,sG]
      repeat first|(refine wpL_p fun K hK=>?_;go_simp;refine hK _ _ ?_;clear hK K)|(apply wpL_s;(intro w2 hw2;have hk1:=hw2.cell;have hk3:=hw2.1;clear hw2;go_simp;with_reducible rfl);simp only[Act.put,sA,sB,sC])|refine wpL_nil ?_
      simp only[wrap_i64,hbl]
      have ru6:=hid ru
      have rn6:=hid (show W6.drew.heap[w.heap.size]?=_ from RNX.out)
      have rt6:=hid (show W6.drew.heap[wr.heap.size]?=_ from RTX.out)
      have rg6:=hid (show W6.drew.heap[bG]?=_ from RGX.out)
      have bw6:=hid ((BWR.out.trans (b46.out.mono (Nat.le_trans hsz hsz3))).drew)
      have QT6:=hid (QT3.out.below b46.out)
      obtain⟨trs0,ow0,hl0,hc0⟩:=QT6.out
      have hT0:=len_turnsK (Gm.mk gl gt gm) (p,σ) k
      have hLL0:trs0.length≤60:=by rw[hl0];omega
      have HL0:=hid hl0
      have ow:=ow0.drew
      have hB6:w.heap.size≤W6.drew.heap.size:=bw6.out.size
      clear ru
      by_cases h3:st1=3
      ·have q3:(st1==3)=true:=by simp[h3]
       have q3n:(st1 !=3)=false:=by simp[h3]
       go_wp2_with fail
       refine⟨⟨k+1,by omega,by go_num,?_,rn6.out,bw6.out⟩,by simp[intOf];omega⟩
       have e:(Gm.mk gl gt gm).turns1 (p,σ) k s=[]:=by
        unfold Gm.turns1
        rw[if_pos HMAY.out,←E3.out,←E1.out]
        simp[hrep,h3]
       rw[SX.out,e]
       rw[List.append_nil]
       exact QT6.out.drew
      ·by_cases h2:st1=2
       ·by_cases hv:gl=3
        ·have q3:(st1==3)=false:=beq_eq_false_iff_ne.2 h3
         have q3n:(st1 !=3)=true:=bne_iff_ne.2 h3
         have q2:(st1==2)=true:=by simp[h2]
         have qv:(gl !=3)=false:=by simp[hv]
         go_wp2_with fail
         refine⟨⟨k+1,by omega,by go_num,?_,rn6.out,bw6.out⟩,by simp[intOf];omega⟩
         have e:(Gm.mk gl gt gm).turns1 (p,σ) k s=[]:=by
          unfold Gm.turns1
          rw[if_pos HMAY.out,←E3.out,←E1.out]
          simp[hrep,h3,h2,hv]
         rw[SX.out,e]
         rw[List.append_nil]
         exact QT6.out.drew
        ·have q3:(st1==3)=false:=beq_eq_false_iff_ne.2 h3
         have q3n:(st1 !=3)=true:=bne_iff_ne.2 h3
         have q2:(st1==2)=true:=by simp[h2]
         have qv:(gl !=3)=true:=bne_iff_ne.2 hv
         go_wp2_with (at_builtin;refine wpList_appF rfl _ _ _ rfl _ 48 Tryz.underlying192 infoTn rfl ow (TnR.mk i1 false (p|||2 ^ k) (.slice aS σ.length cS)) hB6 (by rfl) (by rfl) (by first|rfl|simp) rfl (tn_one _) (by first|omega|(simp only[List.length_append,List.length_cons,List.length_nil,List.length_replicate];omega)) (by first|omega|(simp only[List.length_append,List.length_cons,List.length_nil,List.length_replicate];omega)) ?_;refine Stop.halt ?_)
         refine Stop.go ?_
         intro g1 cc1 v1 oo1 GG1
         have T1:=hid (TrsAt.snoc (t:=(⟨i1,false,(p|||2 ^ k,σ)⟩:Tn)) ow hl0 hc0 ⟨rfl,rfl,rfl,(OwnF.below HS.out bw6.out)⟩ oo1 GG1)
         have rn1:=hid (row_grw rn6.out GG1 (OwnF.neT ow rn6.out (by decide)))
         have rt1:=hid (row_grw rt6.out GG1 (OwnF.neT ow rt6.out (by decide)))
         have rg1:=hid (row_grw rg6.out GG1 (OwnF.neT ow rg6.out (by decide)))
         have bw1:=hid ((bw6.out).trans (GG1.below hB6 fun j hj=>(OwnF.lt ow j hj).1))
         obtain⟨trs1,ow1,hl1,hc1⟩:=T1.out
         have hLL1:trs1.length≤60:=by rw[hl1];simp;omega
         have hB1:w.heap.size≤v1.heap.size:=bw1.out.size
         have HL1:=hid hl1
         have x0:=row_cell rn1.out 0
         have x1:=row_cell rn1.out 1
         have z0:=row_cell rt1.out 0
         have z2:=row_cell rt1.out 2
         have y0:=row_cell rg1.out 0
         simp at x0 x1 z0 z2 y0
         have xl:=row_lt rn1.out
         have zl:=row_lt rt1.out
         have yl:=row_lt rg1.out
         go_wp2_with fail
         refine⟨⟨k+1,by omega,by go_num,?_,rn1.out,bw1.out⟩,by simp[intOf];omega⟩
         have e:(Gm.mk gl gt gm).turns1 (p,σ) k s=[(⟨i1,false,(p|||2 ^ k,σ)⟩:Tn)]:=by
          unfold Gm.turns1
          rw[if_pos HMAY.out,←E3.out,←E1.out]
          simp[hrep,h3,h2,hv]
         rw[SX.out,e]
         exact T1.out
       ·by_cases hv:gl=3
        ·have q3:(st1==3)=false:=beq_eq_false_iff_ne.2 h3
         have q3n:(st1 !=3)=true:=bne_iff_ne.2 h3
         have q2:(st1==2)=false:=beq_eq_false_iff_ne.2 h2
         have qv:(gl !=3)=false:=by simp[hv]
         go_wp2_with fail
         refine⟨⟨k+1,by omega,by go_num,?_,rn6.out,bw6.out⟩,by simp[intOf];omega⟩
         have e:(Gm.mk gl gt gm).turns1 (p,σ) k s=[]:=by
          unfold Gm.turns1
          rw[if_pos HMAY.out,←E3.out,←E1.out]
          simp[hrep,h3,h2,hv]
         rw[SX.out,e]
         rw[List.append_nil]
         exact QT6.out.drew
        ·have q3:(st1==3)=false:=beq_eq_false_iff_ne.2 h3
         have q3n:(st1 !=3)=true:=bne_iff_ne.2 h3
         have q2:(st1==2)=false:=beq_eq_false_iff_ne.2 h2
         have qv:(gl !=3)=true:=bne_iff_ne.2 hv
         go_wp2_with (at_builtin;refine wpList_appF rfl _ _ _ rfl _ 48 Tryz.underlying192 infoTn rfl ow (TnR.mk i1 false (p|||2 ^ k) (.slice aS σ.length cS)) hB6 (by rfl) (by rfl) (by first|rfl|simp) rfl (tn_one _) (by first|omega|(simp only[List.length_append,List.length_cons,List.length_nil,List.length_replicate];omega)) (by first|omega|(simp only[List.length_append,List.length_cons,List.length_nil,List.length_replicate];omega)) ?_;refine Stop.halt ?_)
         refine Stop.go ?_
         intro g1 cc1 v1 oo1 GG1
         have T1:=hid (TrsAt.snoc (t:=(⟨i1,false,(p|||2 ^ k,σ)⟩:Tn)) ow hl0 hc0 ⟨rfl,rfl,rfl,(OwnF.below HS.out bw6.out)⟩ oo1 GG1)
         have rn1:=hid (row_grw rn6.out GG1 (OwnF.neT ow rn6.out (by decide)))
         have rt1:=hid (row_grw rt6.out GG1 (OwnF.neT ow rt6.out (by decide)))
         have rg1:=hid (row_grw rg6.out GG1 (OwnF.neT ow rg6.out (by decide)))
         have bw1:=hid ((bw6.out).trans (GG1.below hB6 fun j hj=>(OwnF.lt ow j hj).1))
         obtain⟨trs1,ow1,hl1,hc1⟩:=T1.out
         have hLL1:trs1.length≤60:=by rw[hl1];simp;omega
         have hB1:w.heap.size≤v1.heap.size:=bw1.out.size
         have HL1:=hid hl1
         have x0:=row_cell rn1.out 0
         have x1:=row_cell rn1.out 1
         have z0:=row_cell rt1.out 0
         have z2:=row_cell rt1.out 2
         have y0:=row_cell rg1.out 0
         simp at x0 x1 z0 z2 y0
         have xl:=row_lt rn1.out
         have zl:=row_lt rt1.out
         have yl:=row_lt rg1.out
         go_wp2_with fail
         refine⟨⟨k+1,by omega,by go_num,?_,rn1.out,bw1.out⟩,by simp[intOf];omega⟩
         have e:(Gm.mk gl gt gm).turns1 (p,σ) k s=[(⟨i1,false,(p|||2 ^ k,σ)⟩:Tn)]:=by
          unfold Gm.turns1
          rw[if_pos HMAY.out,←E3.out,←E1.out]
          simp[hrep,h3,h2,hv]
         rw[SX.out,e]
         exact T1.out
  ·obtain rfl:k=rs.length:=by omega
   have hq:decide ((rs.length:Int) < (rs.length:Int))=false:=by simp
   go_wp2_with fail
   go_ret
   refine⟨_,rfl,?_,QB.out⟩
   have:=QT.out
   rw[HRL.out] at this
   exact this
end
