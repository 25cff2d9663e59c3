/- Parts of the proof; the first: The masks: which are really ahead. Conditions: those of each theorem, as typed. -/
import Derived.Test.YtkfhgifhfkcehaaGreatDoorQC21
set_option linter.unusedVariables false
set_option linter.unusedSimpArgs false
set_option linter.unusedSectionVars false
set_option maxRecDepth 100000
set_option maxHeartbeats 4000000
namespace Go.Proofs.YtkfhgifhfkcehaaGreatDoor
open Go.Maps Go.RowKit
section
attribute [local irreducible] xL
def cntR (lev:Int) (r:TxR):Bool:=cntL lev r.status
def rlyR (a b:TxR):Bool:=decide (0<=a.fin)&&decide (a.fin < b.beg)
def mskR (lev:Int) (l:List TxR) (b:TxR) (i:Nat):Bool:=match l[i]? with
 |some a=>decide (lev≠1)&&rlyR a b
 |none=>false
def mskV (lev:Int) (l:List TxR) (b:TxR):Nat:=yM (mskR lev l b) l.length
def SlDv (rs:List TxR):Prop:=∀r ∈ rs,∃a n c,r.dv=.slice a n c
theorem yY.intc {w:World} {B g n cap k:Nat} {l:List Int} {x:Int} (h:qq intC 3 1 w B (.slice (some ⟨g,0,none⟩) n cap) l) (hn:n=l.length) (hk:l[k]?=some x):w.cell? ⟨g,k,none⟩=some (.int .i64 x):=by
 subst hn;obtain⟨b',o,y,hq,hb,hy,hc⟩:=(qq.sl h).atF intC_len rfl (List.getElem?_eq_some_iff.1 hk).1;simp only[Option.some.injEq,Addr.mk.injEq,and_true] at hq;obtain⟨rfl,rfl⟩:=hq;rw[hk] at hy;obtain rfl:=Option.some.inj hy;have:=hc 0 (by decide);simpa[intC] using this
theorem yY.setI {w:World} {B g n c:Nat} {l:List Int} (h:yY w B (.slice (some ⟨g,0,none⟩) n c) l) (hn:n=l.length) (k:Nat) (x:Int):yY (w.setCell ⟨g,k,none⟩ (.int .i64 x)) B (.slice (some ⟨g,0,none⟩) n c) (l.set k x):=by
 subst hn;have:=xR h k (.int .i64 x);unfold yY qq;rw[List.length_set];have e:(l.flatMap intC).set k (.int .i64 x)=(l.set k x).flatMap intC:=by rw[flat_int,flat_int,List.map_set]
 rw[←e];exact this
theorem pow_wrap {i:Nat} (hi:i<=12):wrap64 ((2:Int) ^ i)=((2 ^ i:Nat):Int)/\2 ^ i<=4096:=by
 have hc:i=0\/i=1\/i=2\/i=3\/i=4\/i=5\/i=6\/i=7\/i=8\/i=9\/i=10\/i=11\/i=12:=by omega
 rcases hc with rfl|rfl|rfl|rfl|rfl|rfl|rfl|rfl|rfl|rfl|rfl|rfl|rfl <;> simp[wrap64]
def mkV (lev:Int) (L:List TxR) (j m:Nat):Int:=match L[j]? with
 |some b=>((yM (mskR lev L b) m:Nat):Int)
 |none=>0
theorem filter_take_succ {α:Type} (f:α->Bool) (l:List α) (k:Nat) (x:α) (h:l[k]?=some x):(l.take (k+1)).filter f=(l.take k).filter f++if f x then[x] else[]:=by
 rw[List.take_add_one,List.filter_append,h];simp only[Option.toList];cases hf:f x <;> simp[hf]
theorem filter_take_len {α:Type} (f:α->Bool) (l:List α) (k:Nat):((l.take k).filter f).length<=l.length:=Nat.le_trans (List.length_filter_le _ _) (by simp;omega)
theorem rl_Masks (lev:Int) (hl:lev=1\/lev=2\/lev=3) (v:Value) (rs:List TxR) (w:World) (h:Sl w w.heap.size 7 v rs.length (rs.flatMap TxR.cells)) (hd:SlDv rs) (hn:rs.length<=12):
  Calls Tryz.prog 138 #[v,.int .i64 lev] w fun e w'=>∃v',e=.returned (.tuple #[v',.nilIface])/\yY w' w.heap.size v' ((rs.filter (cntR lev)).map fun b=>((mskV lev (rs.filter (cntR lev)) b:Nat):Int))/\Below w.heap.size w w':=by
 obtain⟨a,c,rfl,hm⟩:=h.ex;have hlq:=qj hl;have q1:decide (lev < 1)=false:=by simp;omega
 have q2:decide (lev > 3)=false:=by simp;omega
 have q2':decide (3 < lev)=false:=by simp;omega
 have H:=qj h;have HD:=qj hd;clear h hd hl;go_enter Tryz.func138,Tryz.ntmps138;go_wp2_with fail
 go_loopw [6,23] (fun q p wr=>∃(k:Nat),k<=rs.length/\p=.int .i64 k/\qq TxR.cells 56 7 wr w.heap.size q ((rs.take k).filter (cntR lev))/\Below w.heap.size w wr) (fun _ p _=>rs.length - (intOf p).toNat)
 case atStart=>exact⟨0,by omega,by go_num,qq.nil _ _,Below.refl _ _⟩
 case round=>
  obtain⟨k,hk,rfl,qo,qb⟩:=hrel;have hsz:=qb.size;obtain⟨L,hL⟩:∃L,(rs.take k).filter (cntR lev)=L:=⟨_,rfl⟩
  have hLl:=filter_take_len (cntR lev) rs k;rw[hL] at qo hLl;have HL:=qj hL;clear hL;obtain⟨aq,cq,rfl,-⟩:=(qq.sl qo).ex;have QO:=qj qo;have QB:=qj qb;clear qo qb;by_cases hlt:k < rs.length
  ·have src:=(H.o.below QB.o).more hsz
   obtain⟨b,off,o,rfl,hb,hox,hc⟩:=src.atF TxR.len rfl hlt;obtain⟨i,th,st,be,fi,tr,dv⟩:=o;obtain⟨ad,nd,cd,hdv⟩:=HD.o _ (List.mem_of_getElem? hox);simp only at hdv;subst hdv;have c0:wr.cell? ⟨b,off+k*7,none⟩=some (.int .i64 i):=hc 0 (by decide);have c1:wr.cell? ⟨b,off+k*7+1,none⟩=some (.int .i64 th):=hc 1 (by decide);have c2:wr.cell? ⟨b,off+k*7+2,none⟩=some (.int .i64 st):=hc 2 (by decide);have c3:wr.cell? ⟨b,off+k*7+3,none⟩=some (.int .i64 be):=hc 3 (by decide);have c4:wr.cell? ⟨b,off+k*7+4,none⟩=some (.int .i64 fi):=hc 4 (by decide);have c5:wr.cell? ⟨b,off+k*7+5,none⟩=some (.int .i64 tr):=hc 5 (by decide);have c6:wr.cell? ⟨b,off+k*7+6,none⟩=some (.slice ad nd cd):=hc 6 (by decide);have HX:=qj (filter_take_succ (cntR lev) rs k _ hox);clear hc src hox;have b3:Below wr.heap.size wr (wr.alloc (.cells #[.int .i64 i,.int .i64 th,.int .i64 st,.int .i64 be,.int .i64 fi,.int .i64 tr,.slice ad nd cd] 56)):=(Below.refl _ wr).alloc (Nat.le_refl _) _;have r3:=qy wr (.cells #[.int .i64 i,.int .i64 th,.int .i64 st,.int .i64 be,.int .i64 fi,.int .i64 tr,.slice ad nd cd] 56);go_wp2_with fail;generalize wr.alloc (.cells #[.int .i64 i,.int .i64 th,.int .i64 st,.int .i64 be,.int .i64 fi,.int .i64 tr,.slice ad nd cd] 56)=W3 at *;refine(sh_Counted lev hlq.o i th st be fi tr ad nd cd W3).mono ?_;rintro e W4 ⟨rfl,b4⟩;have b34:=b3.trans (b4.mono b3.size);have hz4:=b34.size;have B4:=qj (QB.o.trans (b34.mono hsz));have r4:=qp r3 b4 (qh r3);have d:=qg r4;have d0:=d 0;have d1:=d 1;have d2:=d 2;have d3:=d 3;have d4:=d 4;have d5:=d 5;have d6:=d 6;simp at d0 d1 d2 d3 d4 d5 d6;have dl:=qh r4;have QO4:=qj (qq.below QO.o b34);clear d r3 b3 b4 b34 r4 c0 c1 c2 c3 c4 c5 c6;cases hcb:cntL lev st with
   |true=>
    have hB4:w.heap.size<=W4.heap.size:=by omega
    go_wp2_with (at_builtin;refine qU rfl _ _ _ rfl _ 72 Tryz.underlying39 infoTx rfl QO4.o (TxR.mk i th st be fi tr (.slice ad nd cd)) hB4 (by rfl) (by rfl) (by first|rfl|simp) rfl (tx_one _) (by first|omega|(simp only[List.length_append,List.length_cons,List.length_nil,List.length_replicate];omega)) (by first|omega|(simp only[List.length_append,List.length_cons,List.length_nil,List.length_replicate];omega)) ?_;refine xt.halt ?_)
    refine xt.go ?_;intro g1 c1 w5 o5 G5;have B5:=qj (B4.o.trans (G5.below hB4 fun j hj=>(qq.lt QO4.o j hj).1));have O5:=qj o5;clear o5 G5;go_wp2_with fail;refine⟨⟨k+1,by omega,by go_num,?_,B5.o⟩,by simp[intOf];omega⟩;have hcR:cntR lev ⟨i,th,st,be,fi,tr,.slice ad nd cd⟩=true:=hcb;rw[HX.o,HL.o,if_pos hcR];exact O5.o
   |false=>
    go_wp2_with fail;refine⟨⟨k+1,by omega,by go_num,?_,B4.o⟩,by simp[intOf];omega⟩;rw[HX.o,HL.o,if_neg (by show ¬cntL lev st=true;rw[hcb];simp),List.append_nil];exact QO4.o
  ·obtain rfl:k=rs.length:=by omega
   have hq:decide ((rs.length:Int) < (rs.length:Int))=false:=by simp
   have hLe:=qj (show L=rs.filter (cntR lev) by rw[←HL.o,List.take_length]);have hl62:decide ((L.length:Int) > 62)=false:=by simp;omega
   have hl62':decide (62 < (L.length:Int))=false:=by simp;omega
   have hsz':w.heap.size<=wr.heap.size:=hsz;go_wp2_with (at_make;refine wpList_makeN (f:=intC) (e:=3) (sz:=1) (B:=w.heap.size) rfl _ _ _ rfl _ 8 Tryz.underlying22 infoI rfl rfl (by omega) (by omega) hsz' (0:Int) rfl rfl (by decide) ?_;refine xt.halt ?_)
   refine xt.go ?_;intro w5 o5 b5 z5;have B5:=qj (QB.o.trans (b5.mono hsz));have QO5:=qj (qq.below QO.o b5);have O5:=qj o5;have hdis:wr.heap.size < w5.heap.size:=z5;have hgB:w.heap.size<=wr.heap.size:=hsz;have HDL:Hid (SlDv L):=qj (fun r hr=>HD.o r (by rw[hLe.o] at hr;exact(List.mem_filter.1 hr).1));generalize wr.heap.size=g5 at *;clear b5 o5 QO QB H z5 HL;have hL12:L.length<=12:=by omega
   go_wp2_with fail
   go_loopw [44] (fun p wr=>∃(k:Nat) (O:List Int),k<=L.length/\p=.int .i64 k/\yY wr w.heap.size (.slice (some ⟨g5,0,none⟩) L.length L.length) O/\O.length=L.length/\(∀j,j < L.length->O[j]?=some (mkV lev L j (if j < k then L.length else 0)))/\qq TxR.cells 56 7 wr w.heap.size (.slice aq L.length cq) L/\Below w.heap.size w wr) (fun p _=>L.length - (intOf p).toNat)
   case atStart=>
    refine⟨0,_,by omega,by go_num,O5.o,by simp,fun j hj=>?_,QO5.o,B5.o⟩;rw[List.getElem?_replicate,if_pos hj];simp only[Nat.not_lt_zero,if_false];unfold mkV;rw[List.getElem?_eq_getElem hj];rfl
   case round=>
    obtain⟨k,O,hk2,rfl,qo,qn,qv,ql,qb⟩:=hrel;clear O5 QO5 B5 hdis w5;have hsz2:=qb.size;have QO:=qj qo;have QN:=qj qn;have QV:=qj qv;have QL:=qj ql;have QB:=qj qb;clear qo qn qv ql qb;by_cases hlt2:k < L.length
    ·obtain ⟨b,off,o,rfl,hb,hox,hc⟩:=(qq.sl QL.o).atF TxR.len rfl hlt2
     obtain⟨i1,th1,st1,be1,fi1,tr1,dv⟩:=o;obtain⟨ad1,nd1,cd1,hdv⟩:=HDL.o _ (List.mem_of_getElem? hox);simp only at hdv;subst hdv;have c0:wr.cell? ⟨b,off+k*7,none⟩=some (.int .i64 i1):=hc 0 (by decide);have c1:wr.cell? ⟨b,off+k*7+1,none⟩=some (.int .i64 th1):=hc 1 (by decide);have c2:wr.cell? ⟨b,off+k*7+2,none⟩=some (.int .i64 st1):=hc 2 (by decide);have c3:wr.cell? ⟨b,off+k*7+3,none⟩=some (.int .i64 be1):=hc 3 (by decide);have c4:wr.cell? ⟨b,off+k*7+4,none⟩=some (.int .i64 fi1):=hc 4 (by decide);have c5:wr.cell? ⟨b,off+k*7+5,none⟩=some (.int .i64 tr1):=hc 5 (by decide);have c6:wr.cell? ⟨b,off+k*7+6,none⟩=some (.slice ad1 nd1 cd1):=hc 6 (by decide);have HOX:=qj hox;have b3:Below wr.heap.size wr (wr.alloc (.cells #[.int .i64 i1,.int .i64 th1,.int .i64 st1,.int .i64 be1,.int .i64 fi1,.int .i64 tr1,.slice ad1 nd1 cd1] 56)):=(Below.refl _ wr).alloc (Nat.le_refl _) _;have R3:=qj (qy wr (.cells #[.int .i64 i1,.int .i64 th1,.int .i64 st1,.int .i64 be1,.int .i64 fi1,.int .i64 tr1,.slice ad1 nd1 cd1] 56));have QO3:=qj (qq.below QO.o b3);have QL3:=qj (qq.below QL.o b3);have QB3:=qj (QB.o.trans (b3.mono hsz2));have hz3:(wr.alloc (.cells #[.int .i64 i1,.int .i64 th1,.int .i64 st1,.int .i64 be1,.int .i64 fi1,.int .i64 tr1,.slice ad1 nd1 cd1] 56)).heap.size=wr.heap.size+1:=by simp
     have HZ3:=qj hz3;clear hc hox b3 hz3;go_wp2_with fail;have c:=c0;clear c c0 c1 c2 c3 c4 c5 c6 hb;generalize wr.alloc (.cells #[.int .i64 i1,.int .i64 th1,.int .i64 st1,.int .i64 be1,.int .i64 fi1,.int .i64 tr1,.slice ad1 nd1 cd1] 56)=W3 at *;generalize wr.heap.size=p11 at *
     go_loopw [51] (fun p wx=>∃(i:Nat) (O2:List Int),i<=L.length/\p=.int .i64 i/\yY wx w.heap.size (.slice (some ⟨g5,0,none⟩) L.length L.length) O2/\O2.length=L.length/\(∀j,j < L.length->O2[j]?=some (mkV lev L j (if j < k then L.length else if j=k then i else 0)))/\qq TxR.cells 56 7 wx w.heap.size (.slice (some ⟨b,off,none⟩) L.length cq) L/\wx.heap[p11]?=some (.cells #[.int .i64 i1,.int .i64 th1,.int .i64 st1,.int .i64 be1,.int .i64 fi1,.int .i64 tr1,.slice ad1 nd1 cd1] 56 (0,0))/\Below w.heap.size w wx) (fun p _=>L.length - (intOf p).toNat)
     case atStart=>
      refine⟨0,O,by omega,by go_num,QO3.o,QN.o,fun j hj=>?_,QL3.o,R3.o,QB3.o⟩;rw[QV.o j hj];by_cases e1:j < k
      ·rw [if_pos e1,if_pos e1]
      ·by_cases e2:j=k
       ·rw [if_neg e1,if_neg e1,if_pos e2]
       ·rw [if_neg e1,if_neg e1,if_neg e2]
     case round=>
      obtain⟨i,O2,hi2,rfl,qo,qn,qv,ql,qr,qb⟩:=hrel;clear QO3 QL3 R3 QB3 HZ3 W3 QO QN QV QL QB;have hsz3:=qb.size;have QO:=qj qo;have QN:=qj qn;have QV:=qj qv;have QL:=qj ql;have QB:=qj qb;have QR:=qj qr;clear qo qn qv ql qb qr;by_cases hlt3:i < L.length
      ·obtain ⟨b',off',o,hqe,hb,hox,hc⟩:=(qq.sl QL.o).atF TxR.len rfl hlt3
       simp only[Option.some.injEq,Addr.mk.injEq,and_true] at hqe;obtain⟨rfl,rfl⟩:=hqe;obtain⟨i2,th2,st2,be2,fi2,tr2,dv⟩:=o;obtain⟨ad2,nd2,cd2,hdv⟩:=HDL.o _ (List.mem_of_getElem? hox);simp only at hdv;subst hdv;have c0:wr.cell? ⟨b,off+i*7,none⟩=some (.int .i64 i2):=hc 0 (by decide);have c1:wr.cell? ⟨b,off+i*7+1,none⟩=some (.int .i64 th2):=hc 1 (by decide);have c2:wr.cell? ⟨b,off+i*7+2,none⟩=some (.int .i64 st2):=hc 2 (by decide);have c3:wr.cell? ⟨b,off+i*7+3,none⟩=some (.int .i64 be2):=hc 3 (by decide);have c4:wr.cell? ⟨b,off+i*7+4,none⟩=some (.int .i64 fi2):=hc 4 (by decide);have c5:wr.cell? ⟨b,off+i*7+5,none⟩=some (.int .i64 tr2):=hc 5 (by decide);have c6:wr.cell? ⟨b,off+i*7+6,none⟩=some (.slice ad2 nd2 cd2):=hc 6 (by decide);have hms:mskR lev L ⟨i1,th1,st1,be1,fi1,tr1,.slice ad1 nd1 cd1⟩ i=(decide (lev≠1)&&(decide (0<=fi2)&&decide (fi2 < be1))):=by
        unfold mskR;rw[hox];rfl
       have HMS:=qj hms;have b4:Below wr.heap.size wr (wr.alloc (.cells #[.int .i64 i2,.int .i64 th2,.int .i64 st2,.int .i64 be2,.int .i64 fi2,.int .i64 tr2,.slice ad2 nd2 cd2] 56)):=(Below.refl _ wr).alloc (Nat.le_refl _) _;have r4:=qy wr (.cells #[.int .i64 i2,.int .i64 th2,.int .i64 st2,.int .i64 be2,.int .i64 fi2,.int .i64 tr2,.slice ad2 nd2 cd2] 56);have QO4:=qj (qq.below QO.o b4);have QL4:=qj (qq.below QL.o b4);have QB4:=qj (QB.o.trans (b4.mono hsz3));have r5:=qp QR.o b4 (qh QR.o);have hl5:=qh r5;have hl4:=qh r4;have R5:=qj r5;clear hc hox b4 hms;by_cases hlev:lev=1
       ·have ql1:(lev !=1)=false:=by simp[hlev]
        go_wp2_with fail;generalize wr.alloc (.cells #[.int .i64 i2,.int .i64 th2,.int .i64 st2,.int .i64 be2,.int .i64 fi2,.int .i64 tr2,.slice ad2 nd2 cd2] 56)=W4 at *;refine⟨⟨i+1,O2,by omega,by go_num,QO4.o,QN.o,fun j hj=>?_,QL4.o,R5.o,QB4.o⟩,by simp[intOf];omega⟩;rw[QV.o j hj];by_cases e1:j < k
        ·rw [if_pos e1,if_pos e1]
        ·by_cases e2:j=k
         ·subst e2
          rw[if_neg e1,if_pos rfl,if_neg e1,if_pos rfl];unfold mkV;rw[HOX.o];simp only;rw[show yM (mskR lev L ⟨i1,th1,st1,be1,fi1,tr1,.slice ad1 nd1 cd1⟩) (i+1)=yM (mskR lev L ⟨i1,th1,st1,be1,fi1,tr1,.slice ad1 nd1 cd1⟩) i by rw[yM,HMS.o];simp[hlev]]
         ·rw [if_neg e1,if_neg e2,if_neg e1,if_neg e2]
       ·have ql1:(lev !=1)=true:=by simpa using hlev
        have d:=qg r5;have d0:=d 0;have d1:=d 1;have d2:=d 2;have d3:=d 3;have d4:=d 4;have d5:=d 5;have d6:=d 6;have e:=qg r4;have e0:=e 0;have e1:=e 1;have e2:=e 2;have e3:=e 3;have e4:=e 4;have e5:=e 5;have e6:=e 6;clear d e r4 r5;go_wp2_with fail;generalize wr.alloc (.cells #[.int .i64 i2,.int .i64 th2,.int .i64 st2,.int .i64 be2,.int .i64 fi2,.int .i64 tr2,.slice ad2 nd2 cd2] 56)=W4 at *;refine(sh_Really i2 th2 st2 be2 fi2 tr2 ad2 nd2 cd2 i1 th1 st1 be1 fi1 tr1 ad1 nd1 cd1 W4).mono ?_;rintro e W5 ⟨rfl,b5⟩;have QO5:=qj (qq.below QO4.o b5);have QL5:=qj (qq.below QL4.o b5);have hsz4:=QB4.o.size;have QB5:=qj (QB4.o.trans (b5.mono hsz4));have R6:=qj (qp R5.o b5 hl5);clear b5 c0 c1 c2 c3 c4 c5 c6 d0 d1 d2 d3 d4 d5 d6 e0 e1 e2 e3 e4 e5 e6 hl4;have hmk:mskR lev L ⟨i1,th1,st1,be1,fi1,tr1,.slice ad1 nd1 cd1⟩ i=(decide (0<=fi2)&&decide (fi2 < be1)):=by rw[HMS.o];simp[hlev]
        cases hbb:(decide (0<=fi2)&&decide (fi2 < be1)) with
        |false=>
         rw[hbb] at hmk;have HMK:=qj hmk;clear hmk;go_wp2_with fail;refine⟨⟨i+1,O2,by omega,by go_num,QO5.o,QN.o,fun j hj=>?_,QL5.o,R6.o,QB5.o⟩,by simp[intOf];omega⟩;rw[QV.o j hj];by_cases e1:j < k
         ·rw [if_pos e1,if_pos e1]
         ·by_cases e2:j=k
          ·subst e2
           rw[if_neg e1,if_pos rfl,if_neg e1,if_pos rfl];unfold mkV;rw[HOX.o];simp only;rw[show yM (mskR lev L ⟨i1,th1,st1,be1,fi1,tr1,.slice ad1 nd1 cd1⟩) (i+1)=yM (mskR lev L ⟨i1,th1,st1,be1,fi1,tr1,.slice ad1 nd1 cd1⟩) i by rw[yM,HMK.o];simp]
          ·rw [if_neg e1,if_neg e2,if_neg e1,if_neg e2]
        |true=>
         rw[hbb] at hmk;obtain⟨m,hmm⟩:∃m,yM (mskR lev L ⟨i1,th1,st1,be1,fi1,tr1,.slice ad1 nd1 cd1⟩) i=m:=⟨_,rfl⟩
         have hml:m < 4096:=by
          rw[←hmm];exact Nat.lt_of_lt_of_le (maskN_lt _ i) (pow_wrap (by omega)).2
         have hOk:O2[k]?=some ((m:Nat):Int):=by
          rw[QV.o k hlt2,if_neg (Nat.lt_irrefl k),if_pos rfl];unfold mkV;rw[HOX.o];simp only[hmm]
         have y0:=yY.intc QO5.o QN.o.symm hOk;obtain⟨csO,hcO⟩:=qq.objT QO5.o;have yf:=qx hcO k;have yl:=qh hcO;have pw:=pow_wrap (i:=i) (by omega);have hbo:bits .or .i64 (m:Int) (wrap64 (2 ^ i))=((m|||2 ^ i:Nat):Int):=by rw[pw.1];exact bits_or_nat (by omega) (by have:=pw.2;omega)
         have hSet:=qj (yY.setI QO5.o QN.o.symm k ((m|||2 ^ i:Nat):Int));have hgs:g5 < W5.heap.size:=yl;have QL6:=qj (qq.other (g:=g5) (j:=k) QL5.o (qq.neT QL5.o hcO (by decide)) (.int .i64 ((m|||2 ^ i:Nat):Int)));have R7:=qj (qK (j:=k) (v:=.int .i64 ((m|||2 ^ i:Nat):Int)) R6.o (show g5≠p11 by rintro rfl;rw[R6.o] at hcO;simp at hcO));have QB6:=qj (QB5.o.setCell (p:=⟨g5,k,none⟩) hgB (.int .i64 ((m|||2 ^ i:Nat):Int)));have HMK:=qj hmk;have HMM:=qj hmm;have HBO:=qj hbo;clear hmk hmm hcO pw hOk hbo;go_wp2_with fail;refine qT (W5.heap.size) [0,0,0,1,0,0,0,0,2] (.fin [0,1,2,3,4,5,6,7,8]) (by kernel_rfl) ?_;simp only[yp,qP,qD,sD,sE,sF,sG]
         repeat first|(refine qC fun K hK=>?_;go_simp;refine hK _ _ ?_;clear hK K)|(apply qJ;(intro w2 hw2;have hk1:=hw2.cell;have hk3:=hw2.1;clear hw2;go_simp;with_reducible rfl);simp only[Act.put,sA,sB,sC])
         refine qN (fun K hK=>?_);go_simp;refine hK _ _ ?_;clear hK K
         repeat refine qA ?_
         go_wp2_with fail;rw[HBO.o];refine⟨⟨i+1,O2.set k ((m|||2 ^ i:Nat):Int),by omega,by go_num,hSet.o.drew,by rw[List.length_set];exact QN.o,fun j hj=>?_,QL6.o.drew,R7.o,QB6.o.drew⟩,by simp[intOf];omega⟩;by_cases e2:j=k
         ·subst e2
          rw[List.getElem?_set_self (by have:=QN.o;omega),if_neg (Nat.lt_irrefl _),if_pos rfl];unfold mkV;rw[HOX.o];simp only;rw[yM,HMK.o,HMM.o,if_pos rfl]
         ·rw [List.getElem?_set_ne (fun e=>e2 e.symm),QV.o j hj,if_neg e2,if_neg e2]
      ·obtain rfl:i=L.length:=by omega
       have hq3:decide ((L.length:Int) < (L.length:Int))=false:=by simp
       go_wp2_with fail;refine⟨⟨k+1,O2,by omega,by go_num,QO.o,QN.o,fun j hj=>?_,QL.o,QB.o⟩,by simp[intOf];omega⟩;rw[QV.o j hj];by_cases e1:j < k
       ·rw [if_pos e1,if_pos (by omega)]
       ·by_cases e2:j=k
        ·rw [if_neg e1,if_pos e2,if_pos (by omega)]
        ·rw [if_neg e1,if_neg e2,if_neg (by omega)]
    ·obtain rfl:k=L.length:=by omega
     have hq2:decide ((L.length:Int) < (L.length:Int))=false:=by simp
     have hO:O=L.map fun b=>((mskV lev L b:Nat):Int):=by
      refine List.ext_getElem? fun j=>?_;by_cases hj:j < L.length
      ·rw [QV.o j hj,if_pos hj,List.getElem?_map]
       unfold mkV;rw[List.getElem?_eq_getElem hj];rfl
      ·rw [List.getElem?_eq_none (by have:=QN.o;omega),List.getElem?_eq_none (by simp;omega)]
     have HO:=qj hO;clear hO;go_wp2_with fail;refine bodyPost_ret (v:=.tuple #[.slice (some ⟨g5,0,none⟩) L.length L.length,.nilIface]) (by simp[results,Tryz.results138,go_sem]) rfl ?_;refine⟨_,rfl,?_,QB.o⟩;rw[←hLe.o,←HO.o];exact QO.o
end
section
attribute [local irreducible] xL
theorem zip_filter {α β:Type} {R:α->β->Prop} {f:α->Bool} {g:β->Bool} (hfg:∀x y,R x y->f x=g y):∀(l:List α) (m:List β),l.length=m.length->(∀(k:Nat) (x:α) (y:β),l[k]?=some x->m[k]?=some y->R x y)->
  (l.filter f).length=(m.filter g).length/\∀(k:Nat) (x:α) (y:β),(l.filter f)[k]?=some x->(m.filter g)[k]?=some y->R x y
 |[],[],_,_=>⟨rfl,fun k x y h=>by simp at h⟩
 |[],_::_,h,_=>by simp at h
 |_::_,[],h,_=>by simp at h
 |a::l,b::m,h,hR=>by
  have h0:R a b:=hR 0 a b rfl rfl;obtain⟨i1,i2⟩:=zip_filter hfg l m (by simpa using h) fun k x y hx hy=>hR (k+1) x y (by simpa using hx) (by simpa using hy);have e:=hfg a b h0;cases hf:f a with
  |true=>
   rw[hf] at e;rw[List.filter_cons,List.filter_cons,if_pos hf,if_pos e.symm];refine⟨by simp[i1],fun k x y hx hy=>?_⟩;cases k with
   |zero=>simp at hx hy;subst hx hy;exact h0
   |succ k=>exact i2 k x y (by simpa using hx) (by simpa using hy)
  |false=>
   rw[hf] at e;rw[List.filter_cons,List.filter_cons,if_neg (by simp[hf]),if_neg (by simp[←e])];exact⟨i1,i2⟩
theorem maskN_congr {f g:Nat->Bool}:∀n,(∀i,i < n->f i=g i)->yM f n=yM g n
 |0,_=>rfl
 |n+1,h=>by rw[yM,yM,maskN_congr n fun i hi=>h i (by omega),h n (by omega)]
theorem msk_eq {lev:Int} {fs:List TxR} {F:List St} (hl:fs.length=F.length) (hR:∀(k:Nat) (r:TxR) (s:St),fs[k]?=some r->F[k]?=some s->TxOf r s) {r:TxR} {s:St} (h:TxOf r s):mskV lev fs r=mskOf lev F s:=by
 unfold mskV mskOf;rw[hl];refine maskN_congr _ fun i hi=>?_;unfold mskR mskF;have h1:=List.getElem?_eq_getElem (l:=fs) (i:=i) (by omega);have h2:=List.getElem?_eq_getElem (l:=F) (i:=i) hi;have h3:=hR i _ _ h1 h2;rw[h1,h2];simp only[rlyR,rly];rw[h3.2.2.2.2.1,h.2.2.2.1]
structure GameAt (w:World) (B bG:Nat) (g:Gm) (σ:List Int) (tv mv fv:Value):Prop where
 row:w.heap[bG]?=some (.cells #[.int .i64 g.lev,tv,mv,fv] 188 (0,0))
 hB:B<=bG
 txs:TxsAt w B tv g.txs
 masks:yY w B mv (g.masks.map fun m=>((m:Nat):Int))
 first :OwnS w B fv σ
theorem GameAt.below {w w':World} {B bG:Nat} {g:Gm} {σ:List Int} {tv mv fv:Value} (h:GameAt w B bG g σ tv mv fv) (hb:Below w.heap.size w w'):GameAt w' B bG g σ tv mv fv:=
 ⟨qp h.row hb (qh h.row),h.hB,h.txs.below hb,qq.below h.masks hb,qq.below h.first hb⟩
theorem b_begin (lev:Int) (hl:lev=1\/lev=2\/lev=3) (ov vv:Value) (os:List Ob) (es:List Ev) (A:Au) (w:World) (ho:Sl w w.heap.size 2 ov os.length (os.flatMap Ob.cells)) (he:Sl w w.heap.size 8 vv es.length (es.flatMap Ev.cells)) (hne:os≠[]) (hr:RegOk os) (hel:es.length<=400) (hes:∀e ∈ es,EvOk os.length e) (hW:xa w) (hF:Fed es A) (hA:A.length<=12):
  Calls Tryz.prog 89 #[.agg #[ov,vv],.int .i64 lev] w fun e w'=>∃bG tv mv fv,e=.returned (.tuple #[.pointer (some ⟨bG,0,none⟩),.nilIface])/\GameAt w' w.heap.size bG (gmOf lev A) (os.map (·.init)) tv mv fv/\Below w.heap.size w w':=by
 obtain⟨ao,co,rfl,mo⟩:=ho.ex;obtain⟨ae,ce,rfl,me⟩:=he.ex;have b0:Below w.heap.size w (w.alloc (.cells #[.slice ao os.length co,.slice ae es.length ce] 37)):=(Below.refl _ w).alloc (Nat.le_refl _) _;have r0:=qy w (.cells #[.slice ao os.length co,.slice ae es.length ce] 37);have hz0:=qj (show(w.alloc (.cells #[.slice ao os.length co,.slice ae es.length ce] 37)).heap.size=w.heap.size+1 by simp);have y:=qg r0;have y0:=y 0;have y1:=y 1;have HL:=qj hl;have HO:=qj ho;have HR:=qj hr;have HW:=qj hW;have TC:=qj (sh_Table (.slice ao os.length co) (.slice ae es.length ce) os es A _ ((ho.below b0).more b0.size) ((he.below b0).more b0.size) hne hr hel hes (hW.below b0) hF);clear ho he hne hel hes hW hF hl hr y;go_enter Tryz.func89,Tryz.ntmps89;go_wp2_with fail;generalize w.alloc (.cells #[.slice ao os.length co,.slice ae es.length ce] 37)=W at *;refine TC.o.mono ?_;rintro e W1 ⟨tv,rfl,T1,b1⟩;obtain⟨rs,o1,hrl,hrc⟩:=T1;obtain⟨at1,ct1,rfl,-⟩:=(qq.sl o1).ex;have HD:Hid (SlDv rs):=qj (fun r hr=>by
  obtain⟨k,hk⟩:=List.mem_iff_getElem?.1 hr;have hkl:k < A.length:=by have:=(List.getElem?_eq_some_iff.1 hk).1;omega
  obtain⟨a,c,e⟩:=qq.slv (hrc k r _ hk (List.getElem?_eq_getElem hkl)).2;exact⟨a,_,c,e⟩)
 have HRC:=qj hrc;have hz1:=b1.size;have hz0':w.heap.size<=W.heap.size:=b0.size;have R0:=qj (qp r0 b1 (qh r0));have B1:=qj (b0.trans (b1.mono b0.size));have O1:=qj o1;have hr12:rs.length<=12:=by omega
 have q12:decide ((rs.length:Int) > 12)=false:=by simp;omega
 have q12':decide (12 < (rs.length:Int))=false:=by simp;omega
 have HRL:=qj hrl;clear o1 hrc b1 r0 b0 y0 y1 TC hrl;go_wp2_with fail;have RG:=qj (qy W1 (.cells #[.int .i64 lev,.slice none 0 0,.slice none 0 0,.slice none 0 0] 188));have BG:=qj (show Below W1.heap.size W1 (W1.alloc (.cells #[.int .i64 lev,.slice none 0 0,.slice none 0 0,.slice none 0 0] 188)) from(Below.refl _ W1).alloc (Nat.le_refl _) _);generalize W1.alloc (.cells #[.int .i64 lev,.slice none 0 0,.slice none 0 0,.slice none 0 0] 188)=W2 at *
 go_loopw [28] (fun p wr=>∃(k:Nat) (q:Value),k<=rs.length/\p=.int .i64 k/\wr.heap[W1.heap.size]?=some (.cells #[.int .i64 lev,q,.slice none 0 0,.slice none 0 0] 188 (0,0))/\qq TxR.cells 56 7 wr W1.heap.size q ((rs.take k).filter (cntR lev))/\Below W1.heap.size W1 wr) (fun p _=>rs.length - (intOf p).toNat)
 case atStart=>exact⟨0,_,by omega,by go_num,RG.o,qq.nil _ _,BG.o⟩
 case round=>
  obtain⟨k,q,hk,rfl,qr,qo,qb⟩:=hrel;clear RG BG W2;have hsz:=qb.size;obtain⟨L,hL⟩:∃L,(rs.take k).filter (cntR lev)=L:=⟨_,rfl⟩
  have hLl:=filter_take_len (cntR lev) rs k;rw[hL] at qo hLl;have HLL:=qj hL;clear hL;obtain⟨aq,cq,rfl,-⟩:=(qq.sl qo).ex;have QR:=qj qr;have QO:=qj qo;have QB:=qj qb;clear qr qo qb;by_cases hlt:k < rs.length
  ·obtain ⟨b,off,o,rfl,hb,hox,hc⟩:=(qq.sl (qq.below O1.o QB.o)).atF TxR.len rfl hlt
   obtain⟨i1,th1,st1,be1,fi1,tr1,dv⟩:=o;obtain⟨ad1,nd1,cd1,hdv⟩:=HD.o _ (List.mem_of_getElem? hox);simp only at hdv;subst hdv;have c0:wr.cell? ⟨b,off+k*7,none⟩=some (.int .i64 i1):=hc 0 (by decide);have c1:wr.cell? ⟨b,off+k*7+1,none⟩=some (.int .i64 th1):=hc 1 (by decide);have c2:wr.cell? ⟨b,off+k*7+2,none⟩=some (.int .i64 st1):=hc 2 (by decide);have c3:wr.cell? ⟨b,off+k*7+3,none⟩=some (.int .i64 be1):=hc 3 (by decide);have c4:wr.cell? ⟨b,off+k*7+4,none⟩=some (.int .i64 fi1):=hc 4 (by decide);have c5:wr.cell? ⟨b,off+k*7+5,none⟩=some (.int .i64 tr1):=hc 5 (by decide);have c6:wr.cell? ⟨b,off+k*7+6,none⟩=some (.slice ad1 nd1 cd1):=hc 6 (by decide);have HX:=qj (filter_take_succ (cntR lev) rs k _ hox);clear hc hox;have b3:Below wr.heap.size wr (wr.alloc (.cells #[.int .i64 i1,.int .i64 th1,.int .i64 st1,.int .i64 be1,.int .i64 fi1,.int .i64 tr1,.slice ad1 nd1 cd1] 56)):=(Below.refl _ wr).alloc (Nat.le_refl _) _;have r3:=qy wr (.cells #[.int .i64 i1,.int .i64 th1,.int .i64 st1,.int .i64 be1,.int .i64 fi1,.int .i64 tr1,.slice ad1 nd1 cd1] 56);go_wp2_with fail;generalize wr.alloc (.cells #[.int .i64 i1,.int .i64 th1,.int .i64 st1,.int .i64 be1,.int .i64 fi1,.int .i64 tr1,.slice ad1 nd1 cd1] 56)=W3 at *;refine(sh_Counted lev HL.o i1 th1 st1 be1 fi1 tr1 ad1 nd1 cd1 W3).mono ?_;rintro e W4 ⟨rfl,b4⟩;have b34:=b3.trans (b4.mono b3.size);have hz4:=b34.size;have B4:=qj (QB.o.trans (b34.mono hsz));have r4:=qp r3 b4 (qh r3);have d:=qg r4;have d0:=d 0;have d1:=d 1;have d2:=d 2;have d3:=d 3;have d4:=d 4;have d5:=d 5;have d6:=d 6;have dl:=qh r4;have QO4:=qj (qq.below QO.o b34);have rg4:=qp QR.o b34 (qh QR.o);have gl4:=qh rg4;have RG4:=qj rg4;have g1:=qg rg4 1;clear d r3 b3 b4 b34 r4 rg4 c0 c1 c2 c3 c4 c5 c6;cases hcb:cntL lev st1 with
   |true=>
    go_wp2_with fail;simp at d0 d1 d2 d3 d4 d5 d6 g1;refine qT (W4.heap.size) [0,0,0,0,1,1,3,2,0,0,2] (.fin [0,1,2,3,4,5,6,7,8,9,10]) (by kernel_rfl) ?_;simp only[yp,qP,qD,sD,sE,sF,sG]
    repeat first|(refine qC fun K hK=>?_;go_simp;refine hK _ _ ?_;clear hK K)|(apply qJ;(intro w2 hw2;have hk1:=hw2.cell;have hk3:=hw2.1;clear hw2;go_simp;with_reducible rfl);simp only[Act.put,sA,sB,sC])
    refine qI (fun K hK=>?_);go_simp;refine hK _ _ (RN.KeepsN.alloc W4.drew _ (Nat.le_refl _)) ?_;clear hK K;refine qN (fun K hK=>?_);rw[drew_alloc];refine wp_appF _ _ _ rfl _ 72 Tryz.underlying39 infoTx rfl QO4.o.drew (TxR.mk i1 th1 st1 be1 fi1 tr1 (.slice ad1 nd1 cd1)) (show W1.heap.size<=W4.drew.heap.size from Nat.le_trans hsz hz4) (by rfl) (by rfl) (by first|rfl|simp) rfl (tx_one _) (by first|omega|(simp only[List.length_append,List.length_cons,List.length_nil,List.length_replicate];omega)) (by first|omega|(simp only[List.length_append,List.length_cons,List.length_nil,List.length_replicate];omega)) ?_;intro g5 c5 w5 o5 G5;refine hK _ _ ?_;clear hK K;have ne:=qq.neT QO4.o RG4.o (by decide);have r5:w5.heap[W1.heap.size]?=some _:=qQ (w:=W4.drew) RG4.o G5 ne;have neF:(Value.slice (some ⟨g5,0,none⟩) (L.length+1) c5).ownBlock≠some W1.heap.size:=qq.neT o5 r5 (by decide);have y:=qg r5 1;simp at y;have yf:=qx r5 1;have yl:=qh r5;have oF:=qj (qq.other (j:=1) o5 neF (.slice (some ⟨g5,0,none⟩) (L.length+1) c5));have rF:=qj (qB r5 1 (.slice (some ⟨g5,0,none⟩) (L.length+1) c5));have bF:=qj ((B4.o.drew.trans (G5.below (B:=W1.heap.size) (show W1.heap.size<=W4.drew.heap.size from Nat.le_trans hsz hz4) fun j hj=>(qq.lt QO4.o j hj).1)).setCell (p:=⟨W1.heap.size,1,none⟩) (Nat.le_refl _) (.slice (some ⟨g5,0,none⟩) (L.length+1) c5));clear ne r5 neF o5 G5 d0 d1 d2 d3 d4 d5 d6 g1
    repeat (refine qC fun K hK=>?_;go_simp;refine hK _ _ ?_;clear hK K)
    refine qN (fun K hK=>?_);go_simp;refine hK _ _ ?_;clear hK K
    repeat refine qA ?_
    go_wp2_with fail;refine⟨⟨k+1,_,by omega,by go_num,by simpa using rF.o,?_,bF.o⟩,by simp[intOf];omega⟩;have hcR:cntR lev ⟨i1,th1,st1,be1,fi1,tr1,.slice ad1 nd1 cd1⟩=true:=hcb;rw[HX.o,HLL.o,if_pos hcR];exact oF.o
   |false=>
    go_wp2_with fail;refine⟨⟨k+1,_,by omega,by go_num,RG4.o,?_,B4.o⟩,by simp[intOf];omega⟩;rw[HX.o,HLL.o,if_neg (by show ¬cntL lev st1=true;rw[hcb];simp),List.append_nil];exact QO4.o
  ·obtain rfl:k=rs.length:=by omega
   have hq:decide ((rs.length:Int) < (rs.length:Int))=false:=by simp
   have hLe:=qj (show L=rs.filter (cntR lev) by rw[←HLL.o,List.take_length]);have BB:=qj (B1.o.trans (QB.o.mono (by have:=B1.o.size;omega)));have MC:=qj (rl_Masks lev HL.o _ rs wr (qq.sl (qq.below O1.o QB.o)) HD.o hr12);go_wp2_with fail;refine MC.o.mono ?_;rintro e W5 ⟨mv,rfl,o5,b5⟩;obtain⟨Ms,hMs⟩:∃Ms,((rs.filter (cntR lev)).map fun b=>((mskV lev (rs.filter (cntR lev)) b:Nat):Int))=Ms:=⟨_,rfl⟩
   rw[hMs] at o5;have HMs:=qj hMs;clear hMs;obtain⟨am,cm,rfl,-⟩:=(qq.sl o5).ex;have r5:=qp QR.o b5 (qh QR.o);have y:=qg r5 2;simp at y;have yf:=qx r5 2;have yl:=qh r5;have hne5:=qq.neT o5 r5 (by decide);have O6:=qj (qq.other (j:=2) o5 hne5 (.slice am Ms.length cm));have R6:=qj (qB r5 2 (.slice am Ms.length cm));have B6:=qj ((QB.o.trans (b5.mono hsz)).setCell (p:=⟨W1.heap.size,2,none⟩) (Nat.le_refl _) (.slice am Ms.length cm));have QO6:=qj (qq.other (j:=2) (qq.below QO.o b5) (qq.neT (qq.below QO.o b5) r5 (by decide)) (.slice am Ms.length cm));have hs56:wr.heap.size<=W5.heap.size:=b5.size;clear o5 b5 r5 hne5;have ro6:=qp R0.o B6.o (qh R0.o);have yo:=qg ro6 0;simp at yo;have yol:=qh ro6;have BW6:=qj (B1.o.trans (B6.o.mono B1.o.size));have NC:=qj (s_New (.slice ao os.length co) os (W5.setCell ⟨W1.heap.size,2,none⟩ (.slice am Ms.length cm)) ((HO.o.below BW6.o).more BW6.o.size) HR.o (HW.o.below BW6.o));clear ro6;go_wp2_with fail;refine NC.o.mono ?_;rintro e W7 ⟨fv,rfl,o7,b7⟩;obtain⟨af,cf,hv7,-⟩:=(qq.sl o7).ex;rw[List.length_map] at hv7;subst hv7;have r7:=qp R6.o b7 (qh R6.o);have y:=qg r7 3;simp at y;have yf:=qx r7 3;have yl:=qh r7;have O8:=qj (qq.other (j:=3) o7 (qq.neT o7 r7 (by decide)) (.slice af os.length cf));have M8:=qj (qq.other (j:=3) (qq.below O6.o b7) (qq.neT (qq.below O6.o b7) r7 (by decide)) (.slice af os.length cf));have T8:=qj (qq.other (j:=3) (qq.below QO6.o b7) (qq.neT (qq.below QO6.o b7) r7 (by decide)) (.slice af os.length cf));have R8:=qj (qB r7 3 (.slice af os.length cf));have B8:=qj ((B6.o.trans (b7.mono B6.o.size)).setCell (p:=⟨W1.heap.size,3,none⟩) (Nat.le_refl _) (.slice af os.length cf));clear o7 b7 r7;go_wp2_with fail;refine bodyPost_ret (v:=.tuple #[.pointer (some ⟨W1.heap.size,0,none⟩),.nilIface]) (by simp[results,Tryz.results89,go_sem]) rfl ?_;have hw1:=B1.o.size;obtain⟨z1,z2⟩:=zip_filter (R:=fun r s=>TxOf r s/\OwnD W1 W.heap.size r.dv s.deeds) (f:=cntR lev) (g:=cntd lev) (fun r s h=>by rw[cntd_L];unfold cntR;rw[h.1.2.2.1]) rs A HRL.o HRC.o;refine⟨W1.heap.size,.slice aq L.length cq,.slice am Ms.length cm,.slice af os.length cf,rfl,⟨by have:=R8.o;simpa[gmOf] using this,hw1,⟨L,qq.base T8.o hw1,by rw[hLe.o];exact z1,fun k r s hr hs=>?_⟩,?_,?_⟩,B1.o.trans (B8.o.mono hw1)⟩
   ·rw [hLe.o] at hr
    have:=z2 k r s hr hs;exact⟨this.1,qq.base (qq.below this.2 B8.o) hz0'⟩
   ·have e:((gmOf lev A).masks.map fun m=>((m:Nat):Int))=Ms:=by
     rw[←HMs.o];show((A.filter (cntd lev)).map (mskOf lev (A.filter (cntd lev)))).map _=_;rw[List.map_map];refine List.ext_getElem? fun k=>?_;rw[List.getElem?_map,List.getElem?_map];by_cases hk:k < (rs.filter (cntR lev)).length
     ·have h1:=List.getElem?_eq_getElem hk
      have h2:=List.getElem?_eq_getElem (l:=A.filter (cntd lev)) (i:=k) (by omega);rw[h1,h2];simp only[Option.map_some,Function.comp_apply];rw[msk_eq z1 (fun k r s hr hs=>(z2 k r s hr hs).1) (z2 k _ _ h1 h2).1]
     ·rw [List.getElem?_eq_none (by omega),List.getElem?_eq_none (by omega)]
      rfl
    rw[e];exact qq.base M8.o (Nat.le_trans hw1 hsz)
   ·exact qq.base O8.o (by have:=BW6.o.size;exact this)
end
