/- Parts of the proof. Conditions: those of each theorem, as typed. -/
import Derived.Test.YtcpfbphcldocpaaGreatDoorQW20
set_option linter.unusedVariables false
set_option linter.unusedSimpArgs false
set_option linter.unusedSectionVars false
set_option maxRecDepth 100000
set_option maxHeartbeats 4000000
namespace Go.Proofs.YtcpfbphcldocpaaGreatDoor
open Go.Maps Go.RowKit
section
attribute [local irreducible] xE
def vS (lev:Int) (r:uG):Bool:=Uw lev r.status
def qgK (a b:uG):Bool:=decide (0<=a.fin)&&decide (a.fin < b.beg)
def Jq (lev:Int) (l:List uG) (b:uG) (i:Nat):Bool:=match l[i]? with
 |some a=>decide (lev≠1)&&qgK a b
 |none=>false
def qbO (lev:Int) (l:List uG) (b:uG):Nat:=jh (Jq lev l b) l.length
def qgs (rs:List uG):Prop:=∀r ∈ rs,∃a n c,r.dv=.slice a n c
theorem xJ.intc {w:World} {B g n cap k:Nat} {l:List Int} {x:Int} (h:qj zK 3 1 w B (.slice (some ⟨g,0,none⟩) n cap) l) (hn:n=l.length) (hk:l[k]?=some x):w.cell? ⟨g,k,none⟩=some (.int .i64 x):=by
 subst hn;obtain⟨b',o,y,hq,hb,hy,hc⟩:=(qj.sl h).atF Qx rfl (List.getElem?_eq_some_iff.1 hk).1;simp only[Option.some.injEq,Addr.mk.injEq,and_true] at hq;obtain⟨rfl,rfl⟩:=hq;rw[hk] at hy;obtain rfl:=Option.some.inj hy;have:=hc 0 (by decide);simpa[zK] using this
theorem xJ.setI {w:World} {B g n c:Nat} {l:List Int} (h:xJ w B (.slice (some ⟨g,0,none⟩) n c) l) (hn:n=l.length) (k:Nat) (x:Int):xJ (w.setCell ⟨g,k,none⟩ (.int .i64 x)) B (.slice (some ⟨g,0,none⟩) n c) (l.set k x):=by
 subst hn;have:=yC h k (.int .i64 x);unfold xJ qj;rw[List.length_set];have e:(l.flatMap zK).set k (.int .i64 x)=(l.set k x).flatMap zK:=by rw[ux,ux,List.map_set]
 rw[←e];exact this
theorem ut {i:Nat} (hi:i<=12):wrap64 ((2:Int) ^ i)=((2 ^ i:Nat):Int)/\2 ^ i<=4096:=by
 have hc:i=0\/i=1\/i=2\/i=3\/i=4\/i=5\/i=6\/i=7\/i=8\/i=9\/i=10\/i=11\/i=12:=by omega
 rcases hc with rfl|rfl|rfl|rfl|rfl|rfl|rfl|rfl|rfl|rfl|rfl|rfl|rfl <;> simp[wrap64]
def mkV (lev:Int) (L:List uG) (j m:Nat):Int:=match L[j]? with
 |some b=>((jh (Jq lev L b) m:Nat):Int)
 |none=>0
theorem vj {α:Type} (f:α->Bool) (l:List α) (k:Nat) (x:α) (h:l[k]?=some x):(l.take (k+1)).filter f=(l.take k).filter f++if f x then[x] else[]:=by
 rw[List.take_add_one,List.filter_append,h];simp only[Option.toList];cases hf:f x <;> simp[hf]
theorem Qd {α:Type} (f:α->Bool) (l:List α) (k:Nat):((l.take k).filter f).length<=l.length:=Nat.le_trans (List.length_filter_le _ _) (by simp;omega)
theorem qbu (lev:Int) (hl:lev=1\/lev=2\/lev=3) (v:Value) (rs:List uG) (w:World) (h:Sl w w.heap.size 7 v rs.length (rs.flatMap uG.cells)) (hd:qgs rs) (hn:rs.length<=12):
  Calls Tryz.prog 147 #[v,.int .i64 lev] w fun e w'=>∃v',e=.returned (.tuple #[v',.nilIface])/\xJ w' w.heap.size v' ((rs.filter (vS lev)).map fun b=>((qbO lev (rs.filter (vS lev)) b:Nat):Int))/\Below w.heap.size w w':=by
 obtain⟨a,c,rfl,hm⟩:=h.ex;have hlq:=qh hl;have q1:decide (lev < 1)=false:=by simp;omega
 have q2:decide (lev > 3)=false:=by simp;omega
 have q2':decide (3 < lev)=false:=by simp;omega
 have H:=qh h;have HD:=qh hd;clear h hd hl;go_enter Tryz.func147,Tryz.ntmps147;go_wp2_with fail
 go_loopw [6,23] (fun q p wr=>∃(k:Nat),k<=rs.length/\p=.int .i64 k/\qj uG.cells 49 7 wr w.heap.size q ((rs.take k).filter (vS lev))/\Below w.heap.size w wr) (fun _ p _=>rs.length - (intOf p).toNat)
 case atStart=>exact⟨0,by omega,by go_num,qj.nil _ _,Below.refl _ _⟩
 case round=>
  obtain⟨k,hk,rfl,qo,qb⟩:=hrel;have hsz:=qb.size;obtain⟨L,hL⟩:∃L,(rs.take k).filter (vS lev)=L:=⟨_,rfl⟩
  have hLl:=Qd (vS lev) rs k;rw[hL] at qo hLl;have HL:=qh hL;clear hL;obtain⟨aq,cq,rfl,-⟩:=(qj.sl qo).ex;have QO:=qh qo;have QB:=qh qb;clear qo qb;by_cases hlt:k < rs.length
  ·have src:=(H.o.below QB.o).more hsz
   obtain⟨b,off,o,rfl,hb,hox,hc⟩:=src.atF uG.len rfl hlt;obtain⟨i,th,st,be,fi,tr,dv⟩:=o;obtain⟨ad,nd,cd,hdv⟩:=HD.o _ (List.mem_of_getElem? hox);simp only at hdv;subst hdv;have c0:wr.cell? ⟨b,off+k*7,none⟩=some (.int .i64 i):=hc 0 (by decide);have c1:wr.cell? ⟨b,off+k*7+1,none⟩=some (.int .i64 th):=hc 1 (by decide);have c2:wr.cell? ⟨b,off+k*7+2,none⟩=some (.int .i64 st):=hc 2 (by decide);have c3:wr.cell? ⟨b,off+k*7+3,none⟩=some (.int .i64 be):=hc 3 (by decide);have c4:wr.cell? ⟨b,off+k*7+4,none⟩=some (.int .i64 fi):=hc 4 (by decide);have c5:wr.cell? ⟨b,off+k*7+5,none⟩=some (.int .i64 tr):=hc 5 (by decide);have c6:wr.cell? ⟨b,off+k*7+6,none⟩=some (.slice ad nd cd):=hc 6 (by decide);have HX:=qh (vj (vS lev) rs k _ hox);clear hc src hox;have b3:Below wr.heap.size wr (wr.alloc (.cells #[.int .i64 i,.int .i64 th,.int .i64 st,.int .i64 be,.int .i64 fi,.int .i64 tr,.slice ad nd cd] 49)):=(Below.refl _ wr).alloc (Nat.le_refl _) _;have r3:=qy wr (.cells #[.int .i64 i,.int .i64 th,.int .i64 st,.int .i64 be,.int .i64 fi,.int .i64 tr,.slice ad nd cd] 49);go_wp2_with fail;generalize wr.alloc (.cells #[.int .i64 i,.int .i64 th,.int .i64 st,.int .i64 be,.int .i64 fi,.int .i64 tr,.slice ad nd cd] 49)=W3 at *;refine(Xu lev hlq.o i th st be fi tr ad nd cd W3).mono ?_;rintro e W4 ⟨rfl,b4⟩;have b34:=b3.trans (b4.mono b3.size);have hz4:=b34.size;have B4:=qh (QB.o.trans (b34.mono hsz));have r4:=qp r3 b4 (qd r3);have d:=qa r4;have d0:=d 0;have d1:=d 1;have d2:=d 2;have d3:=d 3;have d4:=d 4;have d5:=d 5;have d6:=d 6;simp at d0 d1 d2 d3 d4 d5 d6;have dl:=qd r4;have QO4:=qh (qj.below QO.o b34);clear d r3 b3 b4 b34 r4 c0 c1 c2 c3 c4 c5 c6;cases hcb:Uw lev st with
   |true=>
    have hB4:w.heap.size<=W4.heap.size:=by omega
    go_wp2_with (at_builtin;refine qN rfl _ _ _ rfl _ 72 Tryz.underlying42 Wf rfl QO4.o (uG.mk i th st be fi tr (.slice ad nd cd)) hB4 (by rfl) (by rfl) (by first|rfl|simp) rfl (Rj _) (by first|omega|(simp only[List.length_append,List.length_cons,List.length_nil,List.length_replicate];omega)) (by first|omega|(simp only[List.length_append,List.length_cons,List.length_nil,List.length_replicate];omega)) ?_;refine qK.halt ?_)
    refine qK.go ?_;intro g1 c1 w5 o5 G5;have B5:=qh (B4.o.trans (G5.below hB4 fun j hj=>(qj.lt QO4.o j hj).1));have O5:=qh o5;clear o5 G5;go_wp2_with fail;refine⟨⟨k+1,by omega,by go_num,?_,B5.o⟩,by simp[intOf];omega⟩;have hcR:vS lev ⟨i,th,st,be,fi,tr,.slice ad nd cd⟩=true:=hcb;rw[HX.o,HL.o,if_pos hcR];exact O5.o
   |false=>
    go_wp2_with fail;refine⟨⟨k+1,by omega,by go_num,?_,B4.o⟩,by simp[intOf];omega⟩;rw[HX.o,HL.o,if_neg (by show ¬Uw lev st=true;rw[hcb];simp),List.append_nil];exact QO4.o
  ·obtain rfl:k=rs.length:=by omega
   have hq:decide ((rs.length:Int) < (rs.length:Int))=false:=by simp
   have hLe:=qh (show L=rs.filter (vS lev) by rw[←HL.o,List.take_length]);have hl62:decide ((L.length:Int) > 62)=false:=by simp;omega
   have hl62':decide (62 < (L.length:Int))=false:=by simp;omega
   have hsz':w.heap.size<=wr.heap.size:=hsz;go_wp2_with (at_make;refine VB (f:=zK) (e:=3) (sz:=1) (B:=w.heap.size) rfl _ _ _ rfl _ 8 Tryz.underlying30 Yi rfl rfl (by omega) (by omega) hsz' (0:Int) rfl rfl (by decide) ?_;refine qK.halt ?_)
   refine qK.go ?_;intro w5 o5 b5 z5;have B5:=qh (QB.o.trans (b5.mono hsz));have QO5:=qh (qj.below QO.o b5);have O5:=qh o5;have hdis:wr.heap.size < w5.heap.size:=z5;have hgB:w.heap.size<=wr.heap.size:=hsz;have HDL:Hid (qgs L):=qh (fun r hr=>HD.o r (by rw[hLe.o] at hr;exact(List.mem_filter.1 hr).1));generalize wr.heap.size=g5 at *;clear b5 o5 QO QB H z5 HL;have hL12:L.length<=12:=by omega
   go_wp2_with fail
   go_loopw [44] (fun p wr=>∃(k:Nat) (O:List Int),k<=L.length/\p=.int .i64 k/\xJ wr w.heap.size (.slice (some ⟨g5,0,none⟩) L.length L.length) O/\O.length=L.length/\(∀j,j < L.length->O[j]?=some (mkV lev L j (if j < k then L.length else 0)))/\qj uG.cells 49 7 wr w.heap.size (.slice aq L.length cq) L/\Below w.heap.size w wr) (fun p _=>L.length - (intOf p).toNat)
   case atStart=>
    refine⟨0,_,by omega,by go_num,O5.o,by simp,fun j hj=>?_,QO5.o,B5.o⟩;rw[List.getElem?_replicate,if_pos hj];simp only[Nat.not_lt_zero,if_false];unfold mkV;rw[List.getElem?_eq_getElem hj];rfl
   case round=>
    obtain⟨k,O,hk2,rfl,qo,qn,qv,ql,qb⟩:=hrel;clear O5 QO5 B5 hdis w5;have hsz2:=qb.size;have QO:=qh qo;have QN:=qh qn;have QV:=qh qv;have QL:=qh ql;have QB:=qh qb;clear qo qn qv ql qb;by_cases hlt2:k < L.length
    ·obtain ⟨b,off,o,rfl,hb,hox,hc⟩:=(qj.sl QL.o).atF uG.len rfl hlt2
     obtain⟨i1,th1,st1,be1,fi1,tr1,dv⟩:=o;obtain⟨ad1,nd1,cd1,hdv⟩:=HDL.o _ (List.mem_of_getElem? hox);simp only at hdv;subst hdv;have c0:wr.cell? ⟨b,off+k*7,none⟩=some (.int .i64 i1):=hc 0 (by decide);have c1:wr.cell? ⟨b,off+k*7+1,none⟩=some (.int .i64 th1):=hc 1 (by decide);have c2:wr.cell? ⟨b,off+k*7+2,none⟩=some (.int .i64 st1):=hc 2 (by decide);have c3:wr.cell? ⟨b,off+k*7+3,none⟩=some (.int .i64 be1):=hc 3 (by decide);have c4:wr.cell? ⟨b,off+k*7+4,none⟩=some (.int .i64 fi1):=hc 4 (by decide);have c5:wr.cell? ⟨b,off+k*7+5,none⟩=some (.int .i64 tr1):=hc 5 (by decide);have c6:wr.cell? ⟨b,off+k*7+6,none⟩=some (.slice ad1 nd1 cd1):=hc 6 (by decide);have HOX:=qh hox;have b3:Below wr.heap.size wr (wr.alloc (.cells #[.int .i64 i1,.int .i64 th1,.int .i64 st1,.int .i64 be1,.int .i64 fi1,.int .i64 tr1,.slice ad1 nd1 cd1] 49)):=(Below.refl _ wr).alloc (Nat.le_refl _) _;have R3:=qh (qy wr (.cells #[.int .i64 i1,.int .i64 th1,.int .i64 st1,.int .i64 be1,.int .i64 fi1,.int .i64 tr1,.slice ad1 nd1 cd1] 49));have QO3:=qh (qj.below QO.o b3);have QL3:=qh (qj.below QL.o b3);have QB3:=qh (QB.o.trans (b3.mono hsz2));have hz3:(wr.alloc (.cells #[.int .i64 i1,.int .i64 th1,.int .i64 st1,.int .i64 be1,.int .i64 fi1,.int .i64 tr1,.slice ad1 nd1 cd1] 49)).heap.size=wr.heap.size+1:=by simp
     have HZ3:=qh hz3;clear hc hox b3 hz3;go_wp2_with fail;have c:=c0;clear c c0 c1 c2 c3 c4 c5 c6 hb;generalize wr.alloc (.cells #[.int .i64 i1,.int .i64 th1,.int .i64 st1,.int .i64 be1,.int .i64 fi1,.int .i64 tr1,.slice ad1 nd1 cd1] 49)=W3 at *;generalize wr.heap.size=p11 at *
     go_loopw [51] (fun p wx=>∃(i:Nat) (O2:List Int),i<=L.length/\p=.int .i64 i/\xJ wx w.heap.size (.slice (some ⟨g5,0,none⟩) L.length L.length) O2/\O2.length=L.length/\(∀j,j < L.length->O2[j]?=some (mkV lev L j (if j < k then L.length else if j=k then i else 0)))/\qj uG.cells 49 7 wx w.heap.size (.slice (some ⟨b,off,none⟩) L.length cq) L/\wx.heap[p11]?=some (.cells #[.int .i64 i1,.int .i64 th1,.int .i64 st1,.int .i64 be1,.int .i64 fi1,.int .i64 tr1,.slice ad1 nd1 cd1] 49 (0,0))/\Below w.heap.size w wx) (fun p _=>L.length - (intOf p).toNat)
     case atStart=>
      refine⟨0,O,by omega,by go_num,QO3.o,QN.o,fun j hj=>?_,QL3.o,R3.o,QB3.o⟩;rw[QV.o j hj];by_cases e1:j < k
      ·rw [if_pos e1,if_pos e1]
      ·by_cases e2:j=k
       ·rw [if_neg e1,if_neg e1,if_pos e2]
       ·rw [if_neg e1,if_neg e1,if_neg e2]
     case round=>
      obtain⟨i,O2,hi2,rfl,qo,qn,qv,ql,qr,qb⟩:=hrel;clear QO3 QL3 R3 QB3 HZ3 W3 QO QN QV QL QB;have hsz3:=qb.size;have QO:=qh qo;have QN:=qh qn;have QV:=qh qv;have QL:=qh ql;have QB:=qh qb;have QR:=qh qr;clear qo qn qv ql qb qr;by_cases hlt3:i < L.length
      ·obtain ⟨b',off',o,hqe,hb,hox,hc⟩:=(qj.sl QL.o).atF uG.len rfl hlt3
       simp only[Option.some.injEq,Addr.mk.injEq,and_true] at hqe;obtain⟨rfl,rfl⟩:=hqe;obtain⟨i2,th2,st2,be2,fi2,tr2,dv⟩:=o;obtain⟨ad2,nd2,cd2,hdv⟩:=HDL.o _ (List.mem_of_getElem? hox);simp only at hdv;subst hdv;have c0:wr.cell? ⟨b,off+i*7,none⟩=some (.int .i64 i2):=hc 0 (by decide);have c1:wr.cell? ⟨b,off+i*7+1,none⟩=some (.int .i64 th2):=hc 1 (by decide);have c2:wr.cell? ⟨b,off+i*7+2,none⟩=some (.int .i64 st2):=hc 2 (by decide);have c3:wr.cell? ⟨b,off+i*7+3,none⟩=some (.int .i64 be2):=hc 3 (by decide);have c4:wr.cell? ⟨b,off+i*7+4,none⟩=some (.int .i64 fi2):=hc 4 (by decide);have c5:wr.cell? ⟨b,off+i*7+5,none⟩=some (.int .i64 tr2):=hc 5 (by decide);have c6:wr.cell? ⟨b,off+i*7+6,none⟩=some (.slice ad2 nd2 cd2):=hc 6 (by decide);have hms:Jq lev L ⟨i1,th1,st1,be1,fi1,tr1,.slice ad1 nd1 cd1⟩ i=(decide (lev≠1)&&(decide (0<=fi2)&&decide (fi2 < be1))):=by
        unfold Jq;rw[hox];rfl
       have HMS:=qh hms;have b4:Below wr.heap.size wr (wr.alloc (.cells #[.int .i64 i2,.int .i64 th2,.int .i64 st2,.int .i64 be2,.int .i64 fi2,.int .i64 tr2,.slice ad2 nd2 cd2] 49)):=(Below.refl _ wr).alloc (Nat.le_refl _) _;have r4:=qy wr (.cells #[.int .i64 i2,.int .i64 th2,.int .i64 st2,.int .i64 be2,.int .i64 fi2,.int .i64 tr2,.slice ad2 nd2 cd2] 49);have QO4:=qh (qj.below QO.o b4);have QL4:=qh (qj.below QL.o b4);have QB4:=qh (QB.o.trans (b4.mono hsz3));have r5:=qp QR.o b4 (qd QR.o);have hl5:=qd r5;have hl4:=qd r4;have R5:=qh r5;clear hc hox b4 hms;by_cases hlev:lev=1
       ·have ql1:(lev !=1)=false:=by simp[hlev]
        go_wp2_with fail;generalize wr.alloc (.cells #[.int .i64 i2,.int .i64 th2,.int .i64 st2,.int .i64 be2,.int .i64 fi2,.int .i64 tr2,.slice ad2 nd2 cd2] 49)=W4 at *;refine⟨⟨i+1,O2,by omega,by go_num,QO4.o,QN.o,fun j hj=>?_,QL4.o,R5.o,QB4.o⟩,by simp[intOf];omega⟩;rw[QV.o j hj];by_cases e1:j < k
        ·rw [if_pos e1,if_pos e1]
        ·by_cases e2:j=k
         ·subst e2
          rw[if_neg e1,if_pos rfl,if_neg e1,if_pos rfl];unfold mkV;rw[HOX.o];simp only;rw[show jh (Jq lev L ⟨i1,th1,st1,be1,fi1,tr1,.slice ad1 nd1 cd1⟩) (i+1)=jh (Jq lev L ⟨i1,th1,st1,be1,fi1,tr1,.slice ad1 nd1 cd1⟩) i by rw[jh,HMS.o];simp[hlev]]
         ·rw [if_neg e1,if_neg e2,if_neg e1,if_neg e2]
       ·have ql1:(lev !=1)=true:=by simpa using hlev
        have d:=qa r5;have d0:=d 0;have d1:=d 1;have d2:=d 2;have d3:=d 3;have d4:=d 4;have d5:=d 5;have d6:=d 6;have e:=qa r4;have e0:=e 0;have e1:=e 1;have e2:=e 2;have e3:=e 3;have e4:=e 4;have e5:=e 5;have e6:=e 6;clear d e r4 r5;go_wp2_with fail;generalize wr.alloc (.cells #[.int .i64 i2,.int .i64 th2,.int .i64 st2,.int .i64 be2,.int .i64 fi2,.int .i64 tr2,.slice ad2 nd2 cd2] 49)=W4 at *;refine(UP i2 th2 st2 be2 fi2 tr2 ad2 nd2 cd2 i1 th1 st1 be1 fi1 tr1 ad1 nd1 cd1 W4).mono ?_;rintro e W5 ⟨rfl,b5⟩;have QO5:=qh (qj.below QO4.o b5);have QL5:=qh (qj.below QL4.o b5);have hsz4:=QB4.o.size;have QB5:=qh (QB4.o.trans (b5.mono hsz4));have R6:=qh (qp R5.o b5 hl5);clear b5 c0 c1 c2 c3 c4 c5 c6 d0 d1 d2 d3 d4 d5 d6 e0 e1 e2 e3 e4 e5 e6 hl4;have hmk:Jq lev L ⟨i1,th1,st1,be1,fi1,tr1,.slice ad1 nd1 cd1⟩ i=(decide (0<=fi2)&&decide (fi2 < be1)):=by rw[HMS.o];simp[hlev]
        cases hbb:(decide (0<=fi2)&&decide (fi2 < be1)) with
        |false=>
         rw[hbb] at hmk;have HMK:=qh hmk;clear hmk;go_wp2_with fail;refine⟨⟨i+1,O2,by omega,by go_num,QO5.o,QN.o,fun j hj=>?_,QL5.o,R6.o,QB5.o⟩,by simp[intOf];omega⟩;rw[QV.o j hj];by_cases e1:j < k
         ·rw [if_pos e1,if_pos e1]
         ·by_cases e2:j=k
          ·subst e2
           rw[if_neg e1,if_pos rfl,if_neg e1,if_pos rfl];unfold mkV;rw[HOX.o];simp only;rw[show jh (Jq lev L ⟨i1,th1,st1,be1,fi1,tr1,.slice ad1 nd1 cd1⟩) (i+1)=jh (Jq lev L ⟨i1,th1,st1,be1,fi1,tr1,.slice ad1 nd1 cd1⟩) i by rw[jh,HMK.o];simp]
          ·rw [if_neg e1,if_neg e2,if_neg e1,if_neg e2]
        |true=>
         rw[hbb] at hmk;obtain⟨m,hmm⟩:∃m,jh (Jq lev L ⟨i1,th1,st1,be1,fi1,tr1,.slice ad1 nd1 cd1⟩) i=m:=⟨_,rfl⟩
         have hml:m < 4096:=by
          rw[←hmm];exact Nat.lt_of_lt_of_le (Js _ i) (ut (by omega)).2
         have hOk:O2[k]?=some ((m:Nat):Int):=by
          rw[QV.o k hlt2,if_neg (Nat.lt_irrefl k),if_pos rfl];unfold mkV;rw[HOX.o];simp only[hmm]
         have y0:=xJ.intc QO5.o QN.o.symm hOk;obtain⟨csO,hcO⟩:=qj.objT QO5.o;have yf:=qB hcO k;have yl:=qd hcO;have pw:=ut (i:=i) (by omega);have hbo:bits .or .i64 (m:Int) (wrap64 (2 ^ i))=((m|||2 ^ i:Nat):Int):=by rw[pw.1];exact Zp (by omega) (by have:=pw.2;omega)
         have hSet:=qh (xJ.setI QO5.o QN.o.symm k ((m|||2 ^ i:Nat):Int));have hgs:g5 < W5.heap.size:=yl;have QL6:=qh (qj.other (g:=g5) (j:=k) QL5.o (qj.neT QL5.o hcO (by decide)) (.int .i64 ((m|||2 ^ i:Nat):Int)));have R7:=qh (qJ (j:=k) (v:=.int .i64 ((m|||2 ^ i:Nat):Int)) R6.o (show g5≠p11 by rintro rfl;rw[R6.o] at hcO;simp at hcO));have QB6:=qh (QB5.o.setCell (p:=⟨g5,k,none⟩) hgB (.int .i64 ((m|||2 ^ i:Nat):Int)));have HMK:=qh hmk;have HMM:=qh hmm;have HBO:=qh hbo;clear hmk hmm hcO pw hOk hbo;go_wp2_with fail;refine qI (W5.heap.size) [0,0,0,1,0,0,0,0,2] (.fin [0,1,2,3,4,5,6,7,8]) (by kernel_rfl) ?_;simp only[xi,qP,qA,sD,sE,sF,sG]
         repeat first|(refine qz fun K hK=>?_;go_simp;refine hK _ _ ?_;clear hK K)|(apply qC;(intro w2 hw2;have hk1:=hw2.cell;have hk3:=hw2.1;clear hw2;go_simp;with_reducible rfl);simp only[Act.put,sA,sB,sC])
         refine qM (fun K hK=>?_);go_simp;refine hK _ _ ?_;clear hK K
         repeat refine qu ?_
         go_wp2_with fail;rw[HBO.o];refine⟨⟨i+1,O2.set k ((m|||2 ^ i:Nat):Int),by omega,by go_num,hSet.o.drew,by rw[List.length_set];exact QN.o,fun j hj=>?_,QL6.o.drew,R7.o,QB6.o.drew⟩,by simp[intOf];omega⟩;by_cases e2:j=k
         ·subst e2
          rw[List.getElem?_set_self (by have:=QN.o;omega),if_neg (Nat.lt_irrefl _),if_pos rfl];unfold mkV;rw[HOX.o];simp only;rw[jh,HMK.o,HMM.o,if_pos rfl]
         ·rw [List.getElem?_set_ne (fun e=>e2 e.symm),QV.o j hj,if_neg e2,if_neg e2]
      ·obtain rfl:i=L.length:=by omega
       have hq3:decide ((L.length:Int) < (L.length:Int))=false:=by simp
       go_wp2_with fail;refine⟨⟨k+1,O2,by omega,by go_num,QO.o,QN.o,fun j hj=>?_,QL.o,QB.o⟩,by simp[intOf];omega⟩;rw[QV.o j hj];by_cases e1:j < k
       ·rw [if_pos e1,if_pos (by omega)]
       ·by_cases e2:j=k
        ·rw [if_neg e1,if_pos e2,if_pos (by omega)]
        ·rw [if_neg e1,if_neg e2,if_neg (by omega)]
    ·obtain rfl:k=L.length:=by omega
     have hq2:decide ((L.length:Int) < (L.length:Int))=false:=by simp
     have hO:O=L.map fun b=>((qbO lev L b:Nat):Int):=by
      refine List.ext_getElem? fun j=>?_;by_cases hj:j < L.length
      ·rw [QV.o j hj,if_pos hj,List.getElem?_map]
       unfold mkV;rw[List.getElem?_eq_getElem hj];rfl
      ·rw [List.getElem?_eq_none (by have:=QN.o;omega),List.getElem?_eq_none (by simp;omega)]
     have HO:=qh hO;clear hO;go_wp2_with fail;refine bodyPost_ret (v:=.tuple #[.slice (some ⟨g5,0,none⟩) L.length L.length,.nilIface]) (by simp[results,Tryz.results147,go_sem]) rfl ?_;refine⟨_,rfl,?_,QB.o⟩;rw[←hLe.o,←HO.o];exact QO.o
end
section
attribute [local irreducible] xE
theorem ZP {α β:Type} {R:α->β->Prop} {f:α->Bool} {g:β->Bool} (hfg:∀x y,R x y->f x=g y):∀(l:List α) (m:List β),l.length=m.length->(∀(k:Nat) (x:α) (y:β),l[k]?=some x->m[k]?=some y->R x y)->
  (l.filter f).length=(m.filter g).length/\∀(k:Nat) (x:α) (y:β),(l.filter f)[k]?=some x->(m.filter g)[k]?=some y->R x y
 |[],[],_,_=>⟨rfl,fun k x y h=>by simp at h⟩
 |[],_::_,h,_=>by simp at h
 |_::_,[],h,_=>by simp at h
 |a::l,b::m,h,hR=>by
  have h0:R a b:=hR 0 a b rfl rfl;obtain⟨i1,i2⟩:=ZP hfg l m (by simpa using h) fun k x y hx hy=>hR (k+1) x y (by simpa using hx) (by simpa using hy);have e:=hfg a b h0;cases hf:f a with
  |true=>
   rw[hf] at e;rw[List.filter_cons,List.filter_cons,if_pos hf,if_pos e.symm];refine⟨by simp[i1],fun k x y hx hy=>?_⟩;cases k with
   |zero=>simp at hx hy;subst hx hy;exact h0
   |succ k=>exact i2 k x y (by simpa using hx) (by simpa using hy)
  |false=>
   rw[hf] at e;rw[List.filter_cons,List.filter_cons,if_neg (by simp[hf]),if_neg (by simp[←e])];exact⟨i1,i2⟩
theorem Zh {f g:Nat->Bool}:∀n,(∀i,i < n->f i=g i)->jh f n=jh g n
 |0,_=>rfl
 |n+1,h=>by rw[jh,jh,Zh n fun i hi=>h i (by omega),h n (by omega)]
theorem qfL {lev:Int} {fs:List uG} {F:List St} (hl:fs.length=F.length) (hR:∀(k:Nat) (r:uG) (s:St),fs[k]?=some r->F[k]?=some s->NG r s) {r:uG} {s:St} (h:NG r s):qbO lev fs r=Kj lev F s:=by
 unfold qbO Kj;rw[hl];refine Zh _ fun i hi=>?_;unfold Jq qgO;have h1:=List.getElem?_eq_getElem (l:=fs) (i:=i) (by omega);have h2:=List.getElem?_eq_getElem (l:=F) (i:=i) hi;have h3:=hR i _ _ h1 h2;rw[h1,h2];simp only[qgK,rly];rw[h3.2.2.2.2.1,h.2.2.2.1]
structure YX (w:World) (B bG:Nat) (g:Gm) (σ:List Int) (tv mv fv:Value):Prop where
 row:w.heap[bG]?=some (.cells #[.int .i64 g.lev,tv,mv,fv] 213 (0,0))
 hB:B<=bG
 txs:ue w B tv g.txs
 masks:xJ w B mv (g.masks.map fun m=>((m:Nat):Int))
 first :js w B fv σ
theorem YX.below {w w':World} {B bG:Nat} {g:Gm} {σ:List Int} {tv mv fv:Value} (h:YX w B bG g σ tv mv fv) (hb:Below w.heap.size w w'):YX w' B bG g σ tv mv fv:=
 ⟨qp h.row hb (qd h.row),h.hB,h.txs.below hb,qj.below h.masks hb,qj.below h.first hb⟩
theorem qeV (lev:Int) (hl:lev=1\/lev=2\/lev=3) (ov vv:Value) (os:List Ob) (es:List Ev) (A:Au) (w:World) (ho:Sl w w.heap.size 2 ov os.length (os.flatMap Ob.cells)) (he:Sl w w.heap.size 8 vv es.length (es.flatMap Ev.cells)) (hne:os≠[]) (hr:Ra os) (hel:es.length<=400) (hes:∀e ∈ es,qfa os.length e) (hW:yR w) (hF:Rc es A) (hA:A.length<=12) (hTb:UB w ov vv A) (hX:WX w):
  Calls Tryz.prog 93 #[.agg #[ov,vv],.int .i64 lev] w fun e w'=>∃bG tv mv fv,e=.returned (.tuple #[.pointer (some ⟨bG,0,none⟩),.nilIface])/\YX w' w.heap.size bG (Wj lev A) (os.map (·.init)) tv mv fv/\Below w.heap.size w w':=by
 obtain⟨ao,co,rfl,mo⟩:=ho.ex;obtain⟨ae,ce,rfl,me⟩:=he.ex;have b0:Below w.heap.size w (w.alloc (.cells #[.slice ao os.length co,.slice ae es.length ce] 25)):=(Below.refl _ w).alloc (Nat.le_refl _) _;have r0:=qy w (.cells #[.slice ao os.length co,.slice ae es.length ce] 25);have hz0:=qh (show(w.alloc (.cells #[.slice ao os.length co,.slice ae es.length ce] 25)).heap.size=w.heap.size+1 by simp);have y:=qa r0;have y0:=y 0;have y1:=y 1;have HL:=qh hl;have HO:=qh ho;have HR:=qh hr;have HW:=qh hW;have TC:=qh (hTb _ b0);have HX:=qh hX;clear ho he hne hel hes hW hF hl hr y hTb hX;go_enter Tryz.func93,Tryz.ntmps93;go_wp2_with fail;generalize w.alloc (.cells #[.slice ao os.length co,.slice ae es.length ce] 25)=W at *;refine TC.o.mono ?_;rintro e W1 ⟨tv,rfl,T1,b1⟩;obtain⟨rs,o1,hrl,hrc⟩:=T1;obtain⟨at1,ct1,rfl,-⟩:=(qj.sl o1).ex;have HD:Hid (qgs rs):=qh (fun r hr=>by
  obtain⟨k,hk⟩:=List.mem_iff_getElem?.1 hr;have hkl:k < A.length:=by have:=(List.getElem?_eq_some_iff.1 hk).1;omega
  obtain⟨a,c,e⟩:=qj.slv (hrc k r _ hk (List.getElem?_eq_getElem hkl)).2;exact⟨a,_,c,e⟩)
 have HRC:=qh hrc;have hz1:=b1.size;have hz0':w.heap.size<=W.heap.size:=b0.size;have R0:=qh (qp r0 b1 (qd r0));have B1:=qh (b0.trans (b1.mono b0.size));have O1:=qh o1;have hr12:rs.length<=12:=by omega
 have q12:decide ((rs.length:Int) > 12)=false:=by simp;omega
 have q12':decide (12 < (rs.length:Int))=false:=by simp;omega
 have HRL:=qh hrl;clear o1 hrc b1 r0 b0 y0 y1 TC hrl;go_wp2_with fail;have RG:=qh (qy W1 (.cells #[.int .i64 lev,.slice none 0 0,.slice none 0 0,.slice none 0 0] 213));have BG:=qh (show Below W1.heap.size W1 (W1.alloc (.cells #[.int .i64 lev,.slice none 0 0,.slice none 0 0,.slice none 0 0] 213)) from(Below.refl _ W1).alloc (Nat.le_refl _) _);generalize W1.alloc (.cells #[.int .i64 lev,.slice none 0 0,.slice none 0 0,.slice none 0 0] 213)=W2 at *
 go_loopw [28] (fun p wr=>∃(k:Nat) (q:Value),k<=rs.length/\p=.int .i64 k/\wr.heap[W1.heap.size]?=some (.cells #[.int .i64 lev,q,.slice none 0 0,.slice none 0 0] 213 (0,0))/\qj uG.cells 49 7 wr W1.heap.size q ((rs.take k).filter (vS lev))/\Below W1.heap.size W1 wr) (fun p _=>rs.length - (intOf p).toNat)
 case atStart=>exact⟨0,_,by omega,by go_num,RG.o,qj.nil _ _,BG.o⟩
 case round=>
  obtain⟨k,q,hk,rfl,qr,qo,qb⟩:=hrel;clear RG BG W2;have hsz:=qb.size;obtain⟨L,hL⟩:∃L,(rs.take k).filter (vS lev)=L:=⟨_,rfl⟩
  have hLl:=Qd (vS lev) rs k;rw[hL] at qo hLl;have HLL:=qh hL;clear hL;obtain⟨aq,cq,rfl,-⟩:=(qj.sl qo).ex;have QR:=qh qr;have QO:=qh qo;have QB:=qh qb;clear qr qo qb;by_cases hlt:k < rs.length
  ·obtain ⟨b,off,o,rfl,hb,hox,hc⟩:=(qj.sl (qj.below O1.o QB.o)).atF uG.len rfl hlt
   obtain⟨i1,th1,st1,be1,fi1,tr1,dv⟩:=o;obtain⟨ad1,nd1,cd1,hdv⟩:=HD.o _ (List.mem_of_getElem? hox);simp only at hdv;subst hdv;have c0:wr.cell? ⟨b,off+k*7,none⟩=some (.int .i64 i1):=hc 0 (by decide);have c1:wr.cell? ⟨b,off+k*7+1,none⟩=some (.int .i64 th1):=hc 1 (by decide);have c2:wr.cell? ⟨b,off+k*7+2,none⟩=some (.int .i64 st1):=hc 2 (by decide);have c3:wr.cell? ⟨b,off+k*7+3,none⟩=some (.int .i64 be1):=hc 3 (by decide);have c4:wr.cell? ⟨b,off+k*7+4,none⟩=some (.int .i64 fi1):=hc 4 (by decide);have c5:wr.cell? ⟨b,off+k*7+5,none⟩=some (.int .i64 tr1):=hc 5 (by decide);have c6:wr.cell? ⟨b,off+k*7+6,none⟩=some (.slice ad1 nd1 cd1):=hc 6 (by decide);have HX:=qh (vj (vS lev) rs k _ hox);clear hc hox;have b3:Below wr.heap.size wr (wr.alloc (.cells #[.int .i64 i1,.int .i64 th1,.int .i64 st1,.int .i64 be1,.int .i64 fi1,.int .i64 tr1,.slice ad1 nd1 cd1] 49)):=(Below.refl _ wr).alloc (Nat.le_refl _) _;have r3:=qy wr (.cells #[.int .i64 i1,.int .i64 th1,.int .i64 st1,.int .i64 be1,.int .i64 fi1,.int .i64 tr1,.slice ad1 nd1 cd1] 49);go_wp2_with fail;generalize wr.alloc (.cells #[.int .i64 i1,.int .i64 th1,.int .i64 st1,.int .i64 be1,.int .i64 fi1,.int .i64 tr1,.slice ad1 nd1 cd1] 49)=W3 at *;refine(Xu lev HL.o i1 th1 st1 be1 fi1 tr1 ad1 nd1 cd1 W3).mono ?_;rintro e W4 ⟨rfl,b4⟩;have b34:=b3.trans (b4.mono b3.size);have hz4:=b34.size;have B4:=qh (QB.o.trans (b34.mono hsz));have r4:=qp r3 b4 (qd r3);have d:=qa r4;have d0:=d 0;have d1:=d 1;have d2:=d 2;have d3:=d 3;have d4:=d 4;have d5:=d 5;have d6:=d 6;have dl:=qd r4;have QO4:=qh (qj.below QO.o b34);have rg4:=qp QR.o b34 (qd QR.o);have gl4:=qd rg4;have RG4:=qh rg4;have g1:=qa rg4 1;clear d r3 b3 b4 b34 r4 rg4 c0 c1 c2 c3 c4 c5 c6;cases hcb:Uw lev st1 with
   |true=>
    go_wp2_with fail;simp at d0 d1 d2 d3 d4 d5 d6 g1;refine qI (W4.heap.size) [0,0,0,0,1,1,3,2,0,0,2] (.fin [0,1,2,3,4,5,6,7,8,9,10]) (by kernel_rfl) ?_;simp only[xi,qP,qA,sD,sE,sF,sG]
    repeat first|(refine qz fun K hK=>?_;go_simp;refine hK _ _ ?_;clear hK K)|(apply qC;(intro w2 hw2;have hk1:=hw2.cell;have hk3:=hw2.1;clear hw2;go_simp;with_reducible rfl);simp only[Act.put,sA,sB,sC])
    refine qG (fun K hK=>?_);go_simp;refine hK _ _ (RN.KeepsN.alloc W4.drew _ (Nat.le_refl _)) ?_;clear hK K;refine qM (fun K hK=>?_);rw[uz];refine ui _ _ _ rfl _ 72 Tryz.underlying42 Wf rfl QO4.o.drew (uG.mk i1 th1 st1 be1 fi1 tr1 (.slice ad1 nd1 cd1)) (show W1.heap.size<=W4.drew.heap.size from Nat.le_trans hsz hz4) (by rfl) (by rfl) (by first|rfl|simp) rfl (Rj _) (by first|omega|(simp only[List.length_append,List.length_cons,List.length_nil,List.length_replicate];omega)) (by first|omega|(simp only[List.length_append,List.length_cons,List.length_nil,List.length_replicate];omega)) ?_;intro g5 c5 w5 o5 G5;refine hK _ _ ?_;clear hK K;have ne:=qj.neT QO4.o RG4.o (by decide);have r5:w5.heap[W1.heap.size]?=some _:=qL (w:=W4.drew) RG4.o G5 ne;have neF:(Value.slice (some ⟨g5,0,none⟩) (L.length+1) c5).ownBlock≠some W1.heap.size:=qj.neT o5 r5 (by decide);have y:=qa r5 1;simp at y;have yf:=qB r5 1;have yl:=qd r5;have oF:=qh (qj.other (j:=1) o5 neF (.slice (some ⟨g5,0,none⟩) (L.length+1) c5));have rF:=qh (qq r5 1 (.slice (some ⟨g5,0,none⟩) (L.length+1) c5));have bF:=qh ((B4.o.drew.trans (G5.below (B:=W1.heap.size) (show W1.heap.size<=W4.drew.heap.size from Nat.le_trans hsz hz4) fun j hj=>(qj.lt QO4.o j hj).1)).setCell (p:=⟨W1.heap.size,1,none⟩) (Nat.le_refl _) (.slice (some ⟨g5,0,none⟩) (L.length+1) c5));clear ne r5 neF o5 G5 d0 d1 d2 d3 d4 d5 d6 g1
    repeat (refine qz fun K hK=>?_;go_simp;refine hK _ _ ?_;clear hK K)
    refine qM (fun K hK=>?_);go_simp;refine hK _ _ ?_;clear hK K
    repeat refine qu ?_
    go_wp2_with fail;refine⟨⟨k+1,_,by omega,by go_num,by simpa using rF.o,?_,bF.o⟩,by simp[intOf];omega⟩;have hcR:vS lev ⟨i1,th1,st1,be1,fi1,tr1,.slice ad1 nd1 cd1⟩=true:=hcb;rw[HX.o,HLL.o,if_pos hcR];exact oF.o
   |false=>
    go_wp2_with fail;refine⟨⟨k+1,_,by omega,by go_num,RG4.o,?_,B4.o⟩,by simp[intOf];omega⟩;rw[HX.o,HLL.o,if_neg (by show ¬Uw lev st1=true;rw[hcb];simp),List.append_nil];exact QO4.o
  ·obtain rfl:k=rs.length:=by omega
   have hq:decide ((rs.length:Int) < (rs.length:Int))=false:=by simp
   have hLe:=qh (show L=rs.filter (vS lev) by rw[←HLL.o,List.take_length]);have BB:=qh (B1.o.trans (QB.o.mono (by have:=B1.o.size;omega)));have MC:=qh (qbu lev HL.o _ rs wr (qj.sl (qj.below O1.o QB.o)) HD.o hr12);go_wp2_with fail;refine MC.o.mono ?_;rintro e W5 ⟨mv,rfl,o5,b5⟩;obtain⟨Ms,hMs⟩:∃Ms,((rs.filter (vS lev)).map fun b=>((qbO lev (rs.filter (vS lev)) b:Nat):Int))=Ms:=⟨_,rfl⟩
   rw[hMs] at o5;have HMs:=qh hMs;clear hMs;obtain⟨am,cm,rfl,-⟩:=(qj.sl o5).ex;have r5:=qp QR.o b5 (qd QR.o);have y:=qa r5 2;simp at y;have yf:=qB r5 2;have yl:=qd r5;have hne5:=qj.neT o5 r5 (by decide);have O6:=qh (qj.other (j:=2) o5 hne5 (.slice am Ms.length cm));have R6:=qh (qq r5 2 (.slice am Ms.length cm));have B6:=qh ((QB.o.trans (b5.mono hsz)).setCell (p:=⟨W1.heap.size,2,none⟩) (Nat.le_refl _) (.slice am Ms.length cm));have QO6:=qh (qj.other (j:=2) (qj.below QO.o b5) (qj.neT (qj.below QO.o b5) r5 (by decide)) (.slice am Ms.length cm));have hs56:wr.heap.size<=W5.heap.size:=b5.size;clear o5 b5 r5 hne5;have ro6:=qp R0.o B6.o (qd R0.o);have yo:=qa ro6 0;simp at yo;have yol:=qd ro6;have BW6:=qh (B1.o.trans (B6.o.mono B1.o.size));have NC:=qh (qgI (.slice ao os.length co) os (W5.setCell ⟨W1.heap.size,2,none⟩ (.slice am Ms.length cm)) ((HO.o.below BW6.o).more BW6.o.size) HR.o (HW.o.below BW6.o) (HX.o.below BW6.o));clear ro6;go_wp2_with fail;refine NC.o.mono ?_;rintro e W7 ⟨fv,rfl,o7,b7⟩;obtain⟨af,cf,hv7,-⟩:=(qj.sl o7).ex;rw[List.length_map] at hv7;subst hv7;have r7:=qp R6.o b7 (qd R6.o);have y:=qa r7 3;simp at y;have yf:=qB r7 3;have yl:=qd r7;have O8:=qh (qj.other (j:=3) o7 (qj.neT o7 r7 (by decide)) (.slice af os.length cf));have M8:=qh (qj.other (j:=3) (qj.below O6.o b7) (qj.neT (qj.below O6.o b7) r7 (by decide)) (.slice af os.length cf));have T8:=qh (qj.other (j:=3) (qj.below QO6.o b7) (qj.neT (qj.below QO6.o b7) r7 (by decide)) (.slice af os.length cf));have R8:=qh (qq r7 3 (.slice af os.length cf));have B8:=qh ((B6.o.trans (b7.mono B6.o.size)).setCell (p:=⟨W1.heap.size,3,none⟩) (Nat.le_refl _) (.slice af os.length cf));clear o7 b7 r7;go_wp2_with fail;refine bodyPost_ret (v:=.tuple #[.pointer (some ⟨W1.heap.size,0,none⟩),.nilIface]) (by simp[results,Tryz.results93,go_sem]) rfl ?_;have hw1:=B1.o.size;obtain⟨z1,z2⟩:=ZP (R:=fun r s=>NG r s/\XG W1 W.heap.size r.dv s.deeds) (f:=vS lev) (g:=YS lev) (fun r s h=>by rw[qcZ];unfold vS;rw[h.1.2.2.1]) rs A HRL.o HRC.o;refine⟨W1.heap.size,.slice aq L.length cq,.slice am Ms.length cm,.slice af os.length cf,rfl,⟨by have:=R8.o;simpa[Wj] using this,hw1,⟨L,qj.base T8.o hw1,by rw[hLe.o];exact z1,fun k r s hr hs=>?_⟩,?_,?_⟩,B1.o.trans (B8.o.mono hw1)⟩
   ·rw [hLe.o] at hr
    have:=z2 k r s hr hs;exact⟨this.1,qj.base (qj.below this.2 B8.o) hz0'⟩
   ·have e:((Wj lev A).masks.map fun m=>((m:Nat):Int))=Ms:=by
     rw[←HMs.o];show((A.filter (YS lev)).map (Kj lev (A.filter (YS lev)))).map _=_;rw[List.map_map];refine List.ext_getElem? fun k=>?_;rw[List.getElem?_map,List.getElem?_map];by_cases hk:k < (rs.filter (vS lev)).length
     ·have h1:=List.getElem?_eq_getElem hk
      have h2:=List.getElem?_eq_getElem (l:=A.filter (YS lev)) (i:=k) (by omega);rw[h1,h2];simp only[Option.map_some,Function.comp_apply];rw[qfL z1 (fun k r s hr hs=>(z2 k r s hr hs).1) (z2 k _ _ h1 h2).1]
     ·rw [List.getElem?_eq_none (by omega),List.getElem?_eq_none (by omega)]
      rfl
    rw[e];exact qj.base M8.o (Nat.le_trans hw1 hsz)
   ·exact qj.base O8.o (by have:=BW6.o.size;exact this)
end
section
attribute [local irreducible] xE
structure Xg where
 id:Int
 com:Bool
 p:Nat
 sv:Value
def Xg.cells (r:Xg):List Value:=[.int .i64 r.id,.bool r.com,.int .i64 (r.p:Nat),r.sv]
theorem Xg.len (r:Xg):r.cells.length=4:=rfl
theorem vK:(Tryz.prog.info? 220).map (fun i=>(i.zero,i.size,i.bytes))=some (some (.agg #[.int .i64 0,.bool false,.int .i64 0,.slice none 0 0]),4,48):=by kernel_rfl
theorem vy (i:Int) {b:Bool} {p:Nat} {a:Option Addr} {n c:Nat}:∀u ∈ Xg.cells ⟨i,b,p,.slice a n c⟩,u.oneCell'=true:=by intro u hu;simp[Xg.cells] at hu;rcases hu with rfl|rfl|rfl|rfl <;> rfl
def vV (w:World) (r:Xg) (t:Tn):Prop:=r.id=t.id/\r.com=t.com/\r.p=t.dest.1/\js w 0 r.sv t.dest.2
def zU (w:World) (B:Nat) (v:Value) (ts:List Tn):Prop:=∃rs:List Xg,qj Xg.cells 220 4 w B v rs/\rs.length=ts.length/\∀(k:Nat) (r:Xg) (t:Tn),rs[k]?=some r->ts[k]?=some t->vV w r t
theorem vV.below {w w':World} {r:Xg} {t:Tn} (h:vV w r t) (hb:Below w.heap.size w w'):vV w' r t:=⟨h.1,h.2.1,h.2.2.1,qj.below h.2.2.2 hb⟩
theorem zU.below {w w':World} {B:Nat} {v:Value} {ts:List Tn} (h:zU w B v ts) (hb:Below w.heap.size w w'):zU w' B v ts:=
 let ⟨rs,a,b,c⟩:=h;⟨rs,qj.below a hb,b,fun k r t hr ht=>(c k r t hr ht).below hb⟩
theorem zU.drew {w:World} {B:Nat} {v:Value} {ts:List Tn} (h:zU w B v ts):zU w.drew B v ts:=
 let ⟨rs,a,b,c⟩:=h;⟨rs,qj.drew a,b,fun k r t hr ht=>⟨(c k r t hr ht).1,(c k r t hr ht).2.1,(c k r t hr ht).2.2.1,qj.drew (c k r t hr ht).2.2.2⟩⟩
theorem zU.snoc {w w':World} {B:Nat} {v v':Value} {ts:List Tn} {rs:List Xg} {r:Xg} {t:Tn} (hv:qj Xg.cells 220 4 w B v rs) (hl:rs.length=ts.length) (hc:∀(k:Nat) (r:Xg) (t:Tn),rs[k]?=some r->ts[k]?=some t->vV w r t) (h1:vV w r t)
  (h':qj Xg.cells 220 4 w' B v' (rs++[r])) (hb:Yt w w' v v'):zU w' B v' (ts++[t]):=by
 have key:∀(r:Xg) (t:Tn),vV w r t->vV w' r t:=fun r t h=>⟨h.1,h.2.1,h.2.2.1,qj.grwT h.2.2.2 hv (by decide) hb⟩
 refine⟨_,h',by simp[hl],fun k r' t' hr ht=>?_⟩;rcases Nat.lt_trichotomy k ts.length with h|h|h
 ·rw [List.getElem?_append_left (by omega)] at hr ht
  exact key _ _ (hc k r' t' hr ht)
 ·subst h
  rw[List.getElem?_append_right (by omega)] at hr ht;simp[hl] at hr ht;subst hr ht;exact key _ _ h1
 ·rw [List.getElem?_append_right (by omega)] at ht
  rw[List.getElem?_eq_none (by simp;omega)] at ht;cases ht
theorem qdK {p k:Nat} (hp:p < 4096) (hk:k<=12):(bits BinOp.and IntKind.i64 ((p:Int) / 2 ^ min k 64) 1==1)=p.testBit k:=by
 have e1:(p:Int) / 2 ^ min k 64=((p / 2 ^ k:Nat):Int):=by rw[show min k 64=k by omega,Int.natCast_ediv,Int.natCast_pow];rfl
 have hl:p / 2 ^ k < 4611686018427387904:=Nat.lt_of_le_of_lt (Nat.div_le_self _ _) (by omega);have e2:bits BinOp.and IntKind.i64 ((p:Int) / 2 ^ min k 64) 1=((p / 2 ^ k&&&1:Nat):Int):=by rw[e1];exact Wx (b:=1) hl (by decide)
 rw[e2,Nat.and_one_is_mod,Nat.testBit_eq_decide_div_mod_eq];by_cases h:p / 2 ^ k % 2=1
 ·rw [h];rfl
 ·have:p / 2 ^ k % 2=0:=by omega
  rw[this];rfl
theorem qaP {a b:Nat} (ha:a < 4096) (hb:b < 4096):(bits BinOp.andNot IntKind.i64 (a:Int) (b:Int) !=0)=!(a&&&b==a):=by
 have h:=ZD (a:=a) (b:=b) (by omega) (by omega);by_cases e:a&&&b=a
 ·have h0:bits BinOp.andNot IntKind.i64 (a:Int) (b:Int)=0:=by rw[h];exact e
  rw[h0,e];simp
 ·have h0:bits BinOp.andNot IntKind.i64 (a:Int) (b:Int)≠0:=fun h1=>e (by rw[h] at h1;exact h1)
  rw[show (bits BinOp.andNot IntKind.i64 (a:Int) (b:Int) !=0)=true from bne_iff_ne.2 h0,show(a&&&b==a)=false from beq_eq_false_iff_ne.2 e];rfl
theorem Ng (g:Gm) (n:Nd) (i:Nat) (t:St):(g.turns1 n i t).length<=2:=by
 unfold Gm.turns1
 split
 ·rw [List.length_append]
  refine Nat.add_le_add (b:=1) (d:=1) ?_ ?_
  ·split
   ·split <;> simp
   ·simp
  ·split <;> simp
 ·simp
theorem jD (g:Gm) (n:Nd):∀k,(g.turnsK n k).length<=2*k
 |0=>by simp[Gm.turnsK]
 |k+1=>by
  have ih:=jD g n k;unfold Gm.turnsK at *;rw[List.range_succ,List.flatMap_append,List.length_append];simp only[List.flatMap_cons,List.flatMap_nil,List.append_nil];refine Nat.le_trans (Nat.add_le_add (d:=2) ih ?_) (by omega)
  split
  ·exact Ng _ _ _ _
  ·simp
theorem qeh {w:World} {B bG m:Nat} {g:Gm} {σ0 σ:List Int} {tv mv fv sv:Value} {p:Nat} (h:YX w B bG g σ0 tv mv fv) (hg:g.txs.length<=12) (hs:js w 0 sv σ) (hp:p < 2 ^ g.txs.length) (hm:∀x ∈ g.masks,x < 4096) (hml:g.masks.length=g.txs.length) (hok:∀s ∈ g.txs,∀d ∈ s.deeds,DdR σ.length d) (hσ:σ.length<=8) (hE:uO 16 w):
  Calls Tryz.prog 101 #[.pointer (some ⟨bG,0,none⟩),.agg #[.int .i64 p,sv]] w fun e w'=>∃v',e=.returned v'/\zU w' w.heap.size v' (g.turns (p,σ))/\Below w.heap.size w w':=by
 obtain⟨aS,cS,rfl,-⟩:=(qj.sl hs).ex;obtain⟨rs,o1,hrl,hrc⟩:=h.txs;obtain⟨at1,ct1,rfl,-⟩:=(qj.sl o1).ex;have hmk:=h.masks;obtain⟨am1,cm1,rfl,-⟩:=(qj.sl hmk).ex;obtain⟨gl,gt,gm⟩:=g;simp only at hg hp hm hml hok hrl hrc hmk;have b0:Below w.heap.size w (w.alloc (.cells #[.int .i64 p,.slice aS σ.length cS] 206)):=(Below.refl _ w).alloc (Nat.le_refl _) _;have r0:=qh (qy w (.cells #[.int .i64 p,.slice aS σ.length cS] 206));have HZ:=qh (show(w.alloc (.cells #[.int .i64 p,.slice aS σ.length cS] 206)).heap.size=w.heap.size+1 by simp);have rg:=qp h.row b0 (qd h.row);have y:=qa rg 1;have RG:=qh h.row;have O1:=qh o1;have HRC:=qh hrc;have HRL:=qh hrl;have HMK:=qh hmk;have HS:=qh hs;have HOK:=qh hok;have HM:=qh hm;have HE:=qh hE;have B0:=qh b0;have gll:=qd rg;have HML:=qh hml;clear h o1 hrc hrl hmk hs hok hm hE b0 rg hml;go_enter Tryz.func101,Tryz.ntmps101;go_wp2_with fail;generalize w.alloc (.cells #[.int .i64 p,.slice aS σ.length cS] 206)=W at *;simp at y;go_wp2_with fail
 go_loopw [5,17] (fun q x wr=>∃(k:Nat),k<=rs.length/\x=.int .i64 k/\zU wr w.heap.size q ((Gm.mk gl gt gm).turnsK (p,σ) k)/\wr.heap[w.heap.size]?=some (.cells #[.int .i64 p,.slice aS σ.length cS] 206 (0,0))/\Below w.heap.size w wr) (fun _ x _=>rs.length - (intOf x).toNat)
 case atStart=>exact⟨0,by omega,by go_num,⟨[],qj.nil _ _,rfl,fun k r t hr=>by simp at hr⟩,r0.o,B0.o⟩
 case round=>
  obtain⟨k,hk,rfl,qt,qr,qb⟩:=hrel;have hsz:=qb.size;have QT:=qh qt;have QR:=qh qr;have QB:=qh qb;clear qt qr qb r0 B0 HZ y gll W;by_cases hlt:k < rs.length
  ·obtain ⟨b,off,o,rfl,hb,hox,hc⟩:=(qj.sl (qj.below O1.o QB.o)).atF uG.len rfl hlt
   obtain⟨s,hs⟩:∃s,gt[k]?=some s:=⟨_,List.getElem?_eq_getElem (by have:=HRL.o;omega)⟩
   obtain⟨⟨e1,e2,e3,e4,e5,e6⟩,od⟩:=HRC.o k o s hox hs;obtain⟨i1,th1,st1,be1,fi1,tr1,dv⟩:=o;obtain⟨ad1,cd1,hdv⟩:=qj.slv od;simp only at hdv e1 e2 e3 e4 e5 e6 od;subst hdv;obtain⟨nd1,hnd⟩:∃n,s.deeds.length=n:=⟨_,rfl⟩
   rw[hnd] at hc;have c0:wr.cell? ⟨b,off+k*7,none⟩=some (.int .i64 i1):=hc 0 (by decide);have c1:wr.cell? ⟨b,off+k*7+1,none⟩=some (.int .i64 th1):=hc 1 (by decide);have c2:wr.cell? ⟨b,off+k*7+2,none⟩=some (.int .i64 st1):=hc 2 (by decide);have c3:wr.cell? ⟨b,off+k*7+3,none⟩=some (.int .i64 be1):=hc 3 (by decide);have c4:wr.cell? ⟨b,off+k*7+4,none⟩=some (.int .i64 fi1):=hc 4 (by decide);have c5:wr.cell? ⟨b,off+k*7+5,none⟩=some (.int .i64 tr1):=hc 5 (by decide);have c6:wr.cell? ⟨b,off+k*7+6,none⟩=some (.slice ad1 nd1 cd1):=hc 6 (by decide);have SX:=qh (WK (g:=Gm.mk gl gt gm) (n:=(p,σ)) hs);have HSS:=qh hs;have HND:=qh hnd;have OD:=qh od;have E1:=qh e1;have E3:=qh e3;clear hc hox hs e1 e2 e3 e4 e5 e6 hnd od;have b3:Below wr.heap.size wr (wr.alloc (.cells #[.int .i64 i1,.int .i64 th1,.int .i64 st1,.int .i64 be1,.int .i64 fi1,.int .i64 tr1,.slice ad1 nd1 cd1] 49)):=(Below.refl _ wr).alloc (Nat.le_refl _) _;have r3:=qy wr (.cells #[.int .i64 i1,.int .i64 th1,.int .i64 st1,.int .i64 be1,.int .i64 fi1,.int .i64 tr1,.slice ad1 nd1 cd1] 49);have hz3:=qh (show(wr.alloc (.cells #[.int .i64 i1,.int .i64 th1,.int .i64 st1,.int .i64 be1,.int .i64 fi1,.int .i64 tr1,.slice ad1 nd1 cd1] 49)).heap.size=wr.heap.size+1 by simp);go_wp2_with fail;generalize wr.alloc (.cells #[.int .i64 i1,.int .i64 th1,.int .i64 st1,.int .i64 be1,.int .i64 fi1,.int .i64 tr1,.slice ad1 nd1 cd1] 49)=W3 at *;have rn3:=qp QR.o b3 (qd QR.o);have BB3:=qh (QB.o.trans (b3.mono hsz));have rg3:=qp RG.o BB3.o (qd RG.o);have x:=qa rn3;have x0:=x 0;have x1:=x 1;have yg:=qa rg3;have y0:=yg 0;have y2:=yg 2;have z:=qa r3;have z0:=z 0;have z2:=z 2;have z6:=z 6;simp at x0 x1 y0 y2 z0 z2 z6;have xl:=qd rn3;have yl:=qd rg3;have zl:=qd r3;have R3:=qh r3;have B3:=qh b3;clear x yg z rn3 rg3 r3 b3 c0 c1 c2 c3 c4 c5 c6;have hp12:p < 4096:=Nat.lt_of_lt_of_le hp (ut (i:=gt.length) hg).2;have hk12:k<=12:=by have:=HRL.o;omega
   have hsb:=qdK hp12 hk12;rw[show min k 64=k by omega] at hsb;have hmk:k < gm.length:=by have:=HRL.o;have:=HML.o;omega
   obtain⟨b2,off2,mx,rfl,hb2,hmx,hcm⟩:=(qj.sl (qj.below HMK.o BB3.o)).atF Qx rfl (by simpa using hmk);have hmxe:mx=((gm.getD k 0:Nat):Int):=by
    rw[List.getElem?_map,List.getElem?_eq_getElem hmk] at hmx;rw[List.getD_eq_getElem?_getD,List.getElem?_eq_getElem hmk];simpa using hmx.symm
   obtain⟨mN,hmN⟩:∃mN,gm.getD k 0=mN:=⟨_,rfl⟩
   rw[hmN] at hmxe;subst hmxe;have hmN4:mN < 4096:=HM.o _ (by rw[←hmN,List.getD_eq_getElem?_getD,List.getElem?_eq_getElem hmk];exact List.getElem_mem hmk);have v0:W3.cell? ⟨b2,off2+k,none⟩=some (.int .i64 (mN:Int)):=by have:=hcm 0 (by decide);simpa[zK] using this
   have han:=qaP hmN4 hp12;have HMN:=qh hmN;clear hcm hmx hmN;cases hbit:p.testBit k with
   |true=>
    rw[hbit] at hsb;refine qI (W3.heap.size) [0,1,0,0,0,0,0,0,0,0,1,0,0,1,0,1,0,0,0] (.fin [0,1,2,3,4,5,6,7,8,9,10,11,12,13,14,15,16,17,18]) (by kernel_rfl) ?_;simp only[xi,qP,qA,sD,sE,sF,sG,Option.bind_some]
    repeat first|(refine qz fun K hK=>?_;go_simp;refine hK _ _ ?_;clear hK K)|(apply qC;(intro w2 hw2;have hk1:=hw2.cell;have hk3:=hw2.1;clear hw2;go_simp;with_reducible rfl);simp only[Act.put,sA,sB,sC])|(refine qQ rfl rfl fun K hK=>?_;simp only[Act.put,sA,sB,sC];refine hK _ _ ?_;clear hK K)|refine qu ?_
    go_wp2_with fail;refine⟨⟨k+1,by omega,by go_num,?_,qp QR.o B3.o.drew (qd QR.o),QB.o.trans (B3.o.drew.mono hsz)⟩,by simp[intOf];omega⟩;have hmay:(Gm.mk gl gt gm).may p k=false:=by
     show(!p.testBit k&&(gm.getD k 0&&&p==gm.getD k 0))=false;rw[HMN.o,hbit];rfl
    have e:(Gm.mk gl gt gm).turns1 (p,σ) k s=[]:=by unfold Gm.turns1;rw[if_neg (by rw[hmay];simp)]
    rw[SX.o,e,List.append_nil];exact QT.o.below B3.o.drew
   |false=>
    rw[hbit] at hsb;cases hmb:(mN&&&p==mN) with
    |false=>
     rw[hmb] at han;refine qI (W3.heap.size) [0,1,0,0,0,0,0,0,0,0,1,0,0,1,0,1,0,0,0] (.fin [0,1,2,3,4,5,6,7,8,9,10,11,12,13,14,15,16,17,18]) (by kernel_rfl) ?_;simp only[xi,qP,qA,sD,sE,sF,sG,Option.bind_some]
     repeat first|(refine qz fun K hK=>?_;go_simp;refine hK _ _ ?_;clear hK K)|(apply qC;(intro w2 hw2;have hk1:=hw2.cell;have hk3:=hw2.1;clear hw2;go_simp;with_reducible rfl);simp only[Act.put,sA,sB,sC])|refine qH rfl rfl ?_|refine qu ?_
     go_wp2_with fail;refine⟨⟨k+1,by omega,by go_num,?_,qp QR.o B3.o.drew (qd QR.o),QB.o.trans (B3.o.drew.mono hsz)⟩,by simp[intOf];omega⟩;have hmay:(Gm.mk gl gt gm).may p k=false:=by
      show(!p.testBit k&&(gm.getD k 0&&&p==gm.getD k 0))=false;rw[HMN.o,hbit,hmb];rfl
     have e:(Gm.mk gl gt gm).turns1 (p,σ) k s=[]:=by unfold Gm.turns1;rw[if_neg (by rw[hmay];simp)]
     rw[SX.o,e,List.append_nil];exact QT.o.below B3.o.drew
    |true=>
     rw[hmb] at han;refine qI (W3.heap.size) [0,1,0,0,0,0,0,0,0,0,1,0,0,1,0,1,0,0,0] (.fin [0,1,2,3,4,5,6,7,8,9,10,11,12,13,14,15,16,17,18]) (by kernel_rfl) ?_;simp only[xi,qP,qA,sD,sE,sF,sG,Option.bind_some]
     repeat first|(refine qz fun K hK=>?_;go_simp;refine hK _ _ ?_;clear hK K)|(apply qC;(intro w2 hw2;have hk1:=hw2.cell;have hk3:=hw2.1;clear hw2;go_simp;with_reducible rfl);simp only[Act.put,sA,sB,sC])|refine qH rfl rfl ?_|refine qu ?_
     go_wp2_with fail;have hmay:(Gm.mk gl gt gm).may p k=true:=by
      show(!p.testBit k&&(gm.getD k 0&&&p==gm.getD k 0))=true;rw[HMN.o,hbit,hmb];rfl
     have HMAY:=qh hmay;have QT3:=qh (QT.o.below B3.o.drew);have BWR:=qh (QB.o.trans (B3.o.drew.mono hsz));have hsz3:wr.heap.size<=W3.drew.heap.size:=B3.o.drew.size;have hdd:=qj.below OD.o (show Below w.heap.size w W3.drew from BWR.o);rw[HND.o] at hdd;have RC:=qh (qfE (.slice aS σ.length cS) (.slice ad1 nd1 cd1) σ s.deeds W3.drew (qj.below HS.o BWR.o) (by omega) (by have:=qj.sl hdd;rw[HND.o] at this ⊢;exact this) (HOK.o s (List.mem_of_getElem? HSS.o)) (HE.o.below BWR.o));have RN4:=qh (qp QR.o B3.o.drew (qd QR.o));have RG4:=qh (qp RG.o BWR.o (qd RG.o));have RT4:=qh (show W3.drew.heap[wr.heap.size]?=_ from R3.o);clear v0 han hsb hmay hdd hbit hmb x0 x1 y0 y2 z0 z2 z6 xl yl zl hmN4 hb hb2;generalize W3.drew=W4 at *;refine RC.o.mono ?_;rintro e W5 ⟨hpost,b5⟩;have hbl:=Zp (a:=p) (b:=2 ^ k) (by omega) (by have:=(ut hk12).2;omega);rw[←(ut hk12).1] at hbl;cases hrep:Jh σ s.deeds with
     |some τ=>
      rw[hrep] at hpost;obtain⟨v',rfl,o5⟩:=hpost;obtain⟨a5,c5,rfl,-⟩:=(qj.sl o5).ex;have b6:Below W5.heap.size W5 (W5.alloc (.cells #[.slice a5 τ.length c5] 57)):=(Below.refl _ W5).alloc (Nat.le_refl _) _;have ru:=qy W5 (.cells #[.slice a5 τ.length c5] 57);have b46:=qh (b5.trans (b6.mono b5.size));have O6:=qh (qj.below o5 b6);have hz56:W4.heap.size<=W5.heap.size:=b5.size;unfold NP;go_wp2_with fail;generalize W5.alloc (.cells #[.slice a5 τ.length c5] 57)=W6 at *;have rn:=qp RN4.o b46.o (qd RN4.o);have rt:=qp RT4.o b46.o (qd RT4.o);have rg:=qp RG4.o b46.o (qd RG4.o);have x0:=qa rn 0;have x1:=qa rn 1;have z0:=qa rt 0;have z2:=qa rt 2;have y0:=qa rg 0;have u0:=qa ru 0;simp at x0 x1 z0 z2 y0 u0;have xl:=qd rn;have zl:=qd rt;have yl:=qd rg;have ul:=qd ru;have RNX:=qh rn;have RTX:=qh rt;have RGX:=qh rg;clear rn rt rg b6 b5 o5;refine qI (W6.heap.size) [0,1,0,0,0,0] (.fin [0,1,2,3,4,5]) (by kernel_rfl) ?_;simp only[xi,qP,qA,sD,sE,sF,sG]
      repeat first|(refine qz fun K hK=>?_;go_simp;refine hK _ _ ?_;clear hK K)|(apply qC;(intro w2 hw2;have hk1:=hw2.cell;have hk3:=hw2.1;clear hw2;go_simp;with_reducible rfl);simp only[Act.put,sA,sB,sC])|refine qu ?_
      simp only[Qk,hbl];have ru6:=qh ru;have rn6:=qh (show W6.drew.heap[w.heap.size]?=_ from RNX.o);have rt6:=qh (show W6.drew.heap[wr.heap.size]?=_ from RTX.o);have rg6:=qh (show W6.drew.heap[bG]?=_ from RGX.o);have bw6:=qh ((BWR.o.trans (b46.o.mono (Nat.le_trans hsz hsz3))).drew);have QT6:=qh (QT3.o.below b46.o);obtain⟨trs0,ow0,hl0,hc0⟩:=QT6.o;have hT0:=jD (Gm.mk gl gt gm) (p,σ) k;have hLL0:trs0.length<=60:=by rw[hl0];omega
      have HL0:=qh hl0;have ow:=ow0.drew;have hB6:w.heap.size<=W6.drew.heap.size:=bw6.o.size;clear ru;by_cases h3:st1=3
      ·have q3:(st1==3)=true:=by simp[h3]
       have q3n:(st1 !=3)=false:=by simp[h3]
       go_wp2_with (at_builtin;refine qN rfl _ _ _ rfl _ 48 Tryz.underlying217 vK rfl ow (Xg.mk i1 true (p|||2 ^ k) (.slice a5 τ.length c5)) hB6 (by rfl) (by rfl) (by first|rfl|simp) rfl (vy _) (by first|omega|(simp only[List.length_append,List.length_cons,List.length_nil,List.length_replicate];omega)) (by first|omega|(simp only[List.length_append,List.length_cons,List.length_nil,List.length_replicate];omega)) ?_;refine qK.halt ?_)
       refine qK.go ?_;intro g1 cc1 v1 oo1 GG1;have T1:=qh (zU.snoc (t:=(⟨i1,true,(p|||2 ^ k,τ)⟩:Tn)) ow hl0 hc0 ⟨rfl,rfl,rfl,(qj.drew O6.o)⟩ oo1 GG1);have rn1:=qh (qL rn6.o GG1 (qj.neT ow rn6.o (by decide)));have rt1:=qh (qL rt6.o GG1 (qj.neT ow rt6.o (by decide)));have rg1:=qh (qL rg6.o GG1 (qj.neT ow rg6.o (by decide)));have bw1:=qh ((bw6.o).trans (GG1.below hB6 fun j hj=>(qj.lt ow j hj).1));obtain⟨trs1,ow1,hl1,hc1⟩:=T1.o;have hLL1:trs1.length<=60:=by rw[hl1];simp;omega
       have hB1:w.heap.size<=v1.heap.size:=bw1.o.size;have HL1:=qh hl1;have x0:=qa rn1.o 0;have x1:=qa rn1.o 1;have z0:=qa rt1.o 0;have z2:=qa rt1.o 2;have y0:=qa rg1.o 0;simp at x0 x1 z0 z2 y0;have xl:=qd rn1.o;have zl:=qd rt1.o;have yl:=qd rg1.o;go_wp2_with fail;refine⟨⟨k+1,by omega,by go_num,?_,rn1.o,bw1.o⟩,by simp[intOf];omega⟩;have e:(Gm.mk gl gt gm).turns1 (p,σ) k s=[(⟨i1,true,(p|||2 ^ k,τ)⟩:Tn)]:=by
        unfold Gm.turns1;rw[if_pos HMAY.o,←E3.o,←E1.o];simp[hrep,h3]
       rw[SX.o,e];exact T1.o
      ·by_cases h2:st1=2
       ·by_cases hv:gl=3
        ·have q3:(st1==3)=false:=beq_eq_false_iff_ne.2 h3
         have q3n:(st1 !=3)=true:=bne_iff_ne.2 h3;have q2:(st1==2)=true:=by simp[h2]
         have qv:(gl !=3)=false:=by simp[hv]
         go_wp2_with (at_builtin;refine qN rfl _ _ _ rfl _ 48 Tryz.underlying217 vK rfl ow (Xg.mk i1 true (p|||2 ^ k) (.slice a5 τ.length c5)) hB6 (by rfl) (by rfl) (by first|rfl|simp) rfl (vy _) (by first|omega|(simp only[List.length_append,List.length_cons,List.length_nil,List.length_replicate];omega)) (by first|omega|(simp only[List.length_append,List.length_cons,List.length_nil,List.length_replicate];omega)) ?_;refine qK.halt ?_)
         refine qK.go ?_;intro g1 cc1 v1 oo1 GG1;have T1:=qh (zU.snoc (t:=(⟨i1,true,(p|||2 ^ k,τ)⟩:Tn)) ow hl0 hc0 ⟨rfl,rfl,rfl,(qj.drew O6.o)⟩ oo1 GG1);have rn1:=qh (qL rn6.o GG1 (qj.neT ow rn6.o (by decide)));have rt1:=qh (qL rt6.o GG1 (qj.neT ow rt6.o (by decide)));have rg1:=qh (qL rg6.o GG1 (qj.neT ow rg6.o (by decide)));have bw1:=qh ((bw6.o).trans (GG1.below hB6 fun j hj=>(qj.lt ow j hj).1));obtain⟨trs1,ow1,hl1,hc1⟩:=T1.o;have hLL1:trs1.length<=60:=by rw[hl1];simp;omega
         have hB1:w.heap.size<=v1.heap.size:=bw1.o.size;have HL1:=qh hl1;have x0:=qa rn1.o 0;have x1:=qa rn1.o 1;have z0:=qa rt1.o 0;have z2:=qa rt1.o 2;have y0:=qa rg1.o 0;simp at x0 x1 z0 z2 y0;have xl:=qd rn1.o;have zl:=qd rt1.o;have yl:=qd rg1.o;go_wp2_with (at_builtin;refine qN rfl _ _ _ rfl _ 48 Tryz.underlying217 vK rfl ow1 (Xg.mk i1 false (p|||2 ^ k) (.slice aS σ.length cS)) hB1 (by rfl) (by rfl) (by first|rfl|simp) rfl (vy _) (by first|omega|(simp only[List.length_append,List.length_cons,List.length_nil,List.length_replicate];omega)) (by first|omega|(simp only[List.length_append,List.length_cons,List.length_nil,List.length_replicate];omega)) ?_;refine qK.halt ?_)
         refine qK.go ?_;intro g2 cc2 v2 oo2 GG2;have T2:=qh (zU.snoc (t:=(⟨i1,false,(p|||2 ^ k,σ)⟩:Tn)) ow1 hl1 hc1 ⟨rfl,rfl,rfl,(qj.below HS.o bw1.o)⟩ oo2 GG2);have rn2:=qh (qL rn1.o GG2 (qj.neT ow1 rn1.o (by decide)));have rt2:=qh (qL rt1.o GG2 (qj.neT ow1 rt1.o (by decide)));have rg2:=qh (qL rg1.o GG2 (qj.neT ow1 rg1.o (by decide)));have bw2:=qh ((bw1.o).trans (GG2.below hB1 fun j hj=>(qj.lt ow1 j hj).1));obtain⟨trs2,ow2,hl2,hc2⟩:=T2.o;have hLL2:trs2.length<=60:=by rw[hl2];simp;omega
         have hB2:w.heap.size<=v2.heap.size:=bw2.o.size;have HL2:=qh hl2;have x0:=qa rn2.o 0;have x1:=qa rn2.o 1;have z0:=qa rt2.o 0;have z2:=qa rt2.o 2;have y0:=qa rg2.o 0;simp at x0 x1 z0 z2 y0;have xl:=qd rn2.o;have zl:=qd rt2.o;have yl:=qd rg2.o;go_wp2_with fail;refine⟨⟨k+1,by omega,by go_num,?_,rn2.o,bw2.o⟩,by simp[intOf];omega⟩;have e:(Gm.mk gl gt gm).turns1 (p,σ) k s=[(⟨i1,true,(p|||2 ^ k,τ)⟩:Tn),(⟨i1,false,(p|||2 ^ k,σ)⟩:Tn)]:=by
          unfold Gm.turns1;rw[if_pos HMAY.o,←E3.o,←E1.o];simp[hrep,h3,h2,hv]
         rw[SX.o,e];have:=T2.o;simpa using this
        ·have q3:(st1==3)=false:=beq_eq_false_iff_ne.2 h3
         have q3n:(st1 !=3)=true:=bne_iff_ne.2 h3;have q2:(st1==2)=true:=by simp[h2]
         have qv:(gl !=3)=true:=bne_iff_ne.2 hv;go_wp2_with (at_builtin;refine qN rfl _ _ _ rfl _ 48 Tryz.underlying217 vK rfl ow (Xg.mk i1 true (p|||2 ^ k) (.slice a5 τ.length c5)) hB6 (by rfl) (by rfl) (by first|rfl|simp) rfl (vy _) (by first|omega|(simp only[List.length_append,List.length_cons,List.length_nil,List.length_replicate];omega)) (by first|omega|(simp only[List.length_append,List.length_cons,List.length_nil,List.length_replicate];omega)) ?_;refine qK.halt ?_)
         refine qK.go ?_;intro g1 cc1 v1 oo1 GG1;have T1:=qh (zU.snoc (t:=(⟨i1,true,(p|||2 ^ k,τ)⟩:Tn)) ow hl0 hc0 ⟨rfl,rfl,rfl,(qj.drew O6.o)⟩ oo1 GG1);have rn1:=qh (qL rn6.o GG1 (qj.neT ow rn6.o (by decide)));have rt1:=qh (qL rt6.o GG1 (qj.neT ow rt6.o (by decide)));have rg1:=qh (qL rg6.o GG1 (qj.neT ow rg6.o (by decide)));have bw1:=qh ((bw6.o).trans (GG1.below hB6 fun j hj=>(qj.lt ow j hj).1));obtain⟨trs1,ow1,hl1,hc1⟩:=T1.o;have hLL1:trs1.length<=60:=by rw[hl1];simp;omega
         have hB1:w.heap.size<=v1.heap.size:=bw1.o.size;have HL1:=qh hl1;have x0:=qa rn1.o 0;have x1:=qa rn1.o 1;have z0:=qa rt1.o 0;have z2:=qa rt1.o 2;have y0:=qa rg1.o 0;simp at x0 x1 z0 z2 y0;have xl:=qd rn1.o;have zl:=qd rt1.o;have yl:=qd rg1.o;go_wp2_with (at_builtin;refine qN rfl _ _ _ rfl _ 48 Tryz.underlying217 vK rfl ow1 (Xg.mk i1 false (p|||2 ^ k) (.slice aS σ.length cS)) hB1 (by rfl) (by rfl) (by first|rfl|simp) rfl (vy _) (by first|omega|(simp only[List.length_append,List.length_cons,List.length_nil,List.length_replicate];omega)) (by first|omega|(simp only[List.length_append,List.length_cons,List.length_nil,List.length_replicate];omega)) ?_;refine qK.halt ?_)
         refine qK.go ?_;intro g2 cc2 v2 oo2 GG2;have T2:=qh (zU.snoc (t:=(⟨i1,false,(p|||2 ^ k,σ)⟩:Tn)) ow1 hl1 hc1 ⟨rfl,rfl,rfl,(qj.below HS.o bw1.o)⟩ oo2 GG2);have rn2:=qh (qL rn1.o GG2 (qj.neT ow1 rn1.o (by decide)));have rt2:=qh (qL rt1.o GG2 (qj.neT ow1 rt1.o (by decide)));have rg2:=qh (qL rg1.o GG2 (qj.neT ow1 rg1.o (by decide)));have bw2:=qh ((bw1.o).trans (GG2.below hB1 fun j hj=>(qj.lt ow1 j hj).1));obtain⟨trs2,ow2,hl2,hc2⟩:=T2.o;have hLL2:trs2.length<=60:=by rw[hl2];simp;omega
         have hB2:w.heap.size<=v2.heap.size:=bw2.o.size;have HL2:=qh hl2;have x0:=qa rn2.o 0;have x1:=qa rn2.o 1;have z0:=qa rt2.o 0;have z2:=qa rt2.o 2;have y0:=qa rg2.o 0;simp at x0 x1 z0 z2 y0;have xl:=qd rn2.o;have zl:=qd rt2.o;have yl:=qd rg2.o;go_wp2_with fail;refine⟨⟨k+1,by omega,by go_num,?_,rn2.o,bw2.o⟩,by simp[intOf];omega⟩;have e:(Gm.mk gl gt gm).turns1 (p,σ) k s=[(⟨i1,true,(p|||2 ^ k,τ)⟩:Tn),(⟨i1,false,(p|||2 ^ k,σ)⟩:Tn)]:=by
          unfold Gm.turns1;rw[if_pos HMAY.o,←E3.o,←E1.o];simp[hrep,h3,h2,hv]
         rw[SX.o,e];have:=T2.o;simpa using this
       ·by_cases hv:gl=3
        ·have q3:(st1==3)=false:=beq_eq_false_iff_ne.2 h3
         have q3n:(st1 !=3)=true:=bne_iff_ne.2 h3;have q2:(st1==2)=false:=beq_eq_false_iff_ne.2 h2;have qv:(gl !=3)=false:=by simp[hv]
         go_wp2_with (at_builtin;refine qN rfl _ _ _ rfl _ 48 Tryz.underlying217 vK rfl ow (Xg.mk i1 false (p|||2 ^ k) (.slice aS σ.length cS)) hB6 (by rfl) (by rfl) (by first|rfl|simp) rfl (vy _) (by first|omega|(simp only[List.length_append,List.length_cons,List.length_nil,List.length_replicate];omega)) (by first|omega|(simp only[List.length_append,List.length_cons,List.length_nil,List.length_replicate];omega)) ?_;refine qK.halt ?_)
         refine qK.go ?_;intro g1 cc1 v1 oo1 GG1;have T1:=qh (zU.snoc (t:=(⟨i1,false,(p|||2 ^ k,σ)⟩:Tn)) ow hl0 hc0 ⟨rfl,rfl,rfl,(qj.below HS.o bw6.o)⟩ oo1 GG1);have rn1:=qh (qL rn6.o GG1 (qj.neT ow rn6.o (by decide)));have rt1:=qh (qL rt6.o GG1 (qj.neT ow rt6.o (by decide)));have rg1:=qh (qL rg6.o GG1 (qj.neT ow rg6.o (by decide)));have bw1:=qh ((bw6.o).trans (GG1.below hB6 fun j hj=>(qj.lt ow j hj).1));obtain⟨trs1,ow1,hl1,hc1⟩:=T1.o;have hLL1:trs1.length<=60:=by rw[hl1];simp;omega
         have hB1:w.heap.size<=v1.heap.size:=bw1.o.size;have HL1:=qh hl1;have x0:=qa rn1.o 0;have x1:=qa rn1.o 1;have z0:=qa rt1.o 0;have z2:=qa rt1.o 2;have y0:=qa rg1.o 0;simp at x0 x1 z0 z2 y0;have xl:=qd rn1.o;have zl:=qd rt1.o;have yl:=qd rg1.o;go_wp2_with fail;refine⟨⟨k+1,by omega,by go_num,?_,rn1.o,bw1.o⟩,by simp[intOf];omega⟩;have e:(Gm.mk gl gt gm).turns1 (p,σ) k s=[(⟨i1,false,(p|||2 ^ k,σ)⟩:Tn)]:=by
          unfold Gm.turns1;rw[if_pos HMAY.o,←E3.o,←E1.o];simp[hrep,h3,h2,hv]
         rw[SX.o,e];exact T1.o
        ·have q3:(st1==3)=false:=beq_eq_false_iff_ne.2 h3
         have q3n:(st1 !=3)=true:=bne_iff_ne.2 h3;have q2:(st1==2)=false:=beq_eq_false_iff_ne.2 h2;have qv:(gl !=3)=true:=bne_iff_ne.2 hv;go_wp2_with (at_builtin;refine qN rfl _ _ _ rfl _ 48 Tryz.underlying217 vK rfl ow (Xg.mk i1 false (p|||2 ^ k) (.slice aS σ.length cS)) hB6 (by rfl) (by rfl) (by first|rfl|simp) rfl (vy _) (by first|omega|(simp only[List.length_append,List.length_cons,List.length_nil,List.length_replicate];omega)) (by first|omega|(simp only[List.length_append,List.length_cons,List.length_nil,List.length_replicate];omega)) ?_;refine qK.halt ?_)
         refine qK.go ?_;intro g1 cc1 v1 oo1 GG1;have T1:=qh (zU.snoc (t:=(⟨i1,false,(p|||2 ^ k,σ)⟩:Tn)) ow hl0 hc0 ⟨rfl,rfl,rfl,(qj.below HS.o bw6.o)⟩ oo1 GG1);have rn1:=qh (qL rn6.o GG1 (qj.neT ow rn6.o (by decide)));have rt1:=qh (qL rt6.o GG1 (qj.neT ow rt6.o (by decide)));have rg1:=qh (qL rg6.o GG1 (qj.neT ow rg6.o (by decide)));have bw1:=qh ((bw6.o).trans (GG1.below hB6 fun j hj=>(qj.lt ow j hj).1));obtain⟨trs1,ow1,hl1,hc1⟩:=T1.o;have hLL1:trs1.length<=60:=by rw[hl1];simp;omega
         have hB1:w.heap.size<=v1.heap.size:=bw1.o.size;have HL1:=qh hl1;have x0:=qa rn1.o 0;have x1:=qa rn1.o 1;have z0:=qa rt1.o 0;have z2:=qa rt1.o 2;have y0:=qa rg1.o 0;simp at x0 x1 z0 z2 y0;have xl:=qd rn1.o;have zl:=qd rt1.o;have yl:=qd rg1.o;go_wp2_with fail;refine⟨⟨k+1,by omega,by go_num,?_,rn1.o,bw1.o⟩,by simp[intOf];omega⟩;have e:(Gm.mk gl gt gm).turns1 (p,σ) k s=[(⟨i1,false,(p|||2 ^ k,σ)⟩:Tn)]:=by
          unfold Gm.turns1;rw[if_pos HMAY.o,←E3.o,←E1.o];simp[hrep,h3,h2,hv]
         rw[SX.o,e];exact T1.o
     |none=>
      rw[hrep] at hpost;obtain⟨te,ve,rfl⟩:=hpost;have b6:Below W5.heap.size W5 (W5.alloc (.cells #[.slice none 0 0] 57)):=(Below.refl _ W5).alloc (Nat.le_refl _) _;have ru:=qy W5 (.cells #[.slice none 0 0] 57);have b46:=qh (b5.trans (b6.mono b5.size));have hz56:W4.heap.size<=W5.heap.size:=b5.size;unfold NP;go_wp2_with fail;generalize W5.alloc (.cells #[.slice none 0 0] 57)=W6 at *;have rn:=qp RN4.o b46.o (qd RN4.o);have rt:=qp RT4.o b46.o (qd RT4.o);have rg:=qp RG4.o b46.o (qd RG4.o);have x0:=qa rn 0;have x1:=qa rn 1;have z0:=qa rt 0;have z2:=qa rt 2;have y0:=qa rg 0;have u0:=qa ru 0;simp at x0 x1 z0 z2 y0 u0;have xl:=qd rn;have zl:=qd rt;have yl:=qd rg;have ul:=qd ru;have RNX:=qh rn;have RTX:=qh rt;have RGX:=qh rg;clear rn rt rg b6 b5;refine qI (W6.heap.size) [0,1,0,0,0,0] (.fin [0,1,2,3,4,5]) (by kernel_rfl) ?_;simp only[xi,qP,qA,sD,sE,sF,sG]
      repeat first|(refine qz fun K hK=>?_;go_simp;refine hK _ _ ?_;clear hK K)|(apply qC;(intro w2 hw2;have hk1:=hw2.cell;have hk3:=hw2.1;clear hw2;go_simp;with_reducible rfl);simp only[Act.put,sA,sB,sC])|refine qu ?_
      simp only[Qk,hbl];have ru6:=qh ru;have rn6:=qh (show W6.drew.heap[w.heap.size]?=_ from RNX.o);have rt6:=qh (show W6.drew.heap[wr.heap.size]?=_ from RTX.o);have rg6:=qh (show W6.drew.heap[bG]?=_ from RGX.o);have bw6:=qh ((BWR.o.trans (b46.o.mono (Nat.le_trans hsz hsz3))).drew);have QT6:=qh (QT3.o.below b46.o);obtain⟨trs0,ow0,hl0,hc0⟩:=QT6.o;have hT0:=jD (Gm.mk gl gt gm) (p,σ) k;have hLL0:trs0.length<=60:=by rw[hl0];omega
      have HL0:=qh hl0;have ow:=ow0.drew;have hB6:w.heap.size<=W6.drew.heap.size:=bw6.o.size;clear ru;by_cases h3:st1=3
      ·have q3:(st1==3)=true:=by simp[h3]
       have q3n:(st1 !=3)=false:=by simp[h3]
       go_wp2_with fail;refine⟨⟨k+1,by omega,by go_num,?_,rn6.o,bw6.o⟩,by simp[intOf];omega⟩;have e:(Gm.mk gl gt gm).turns1 (p,σ) k s=[]:=by
        unfold Gm.turns1;rw[if_pos HMAY.o,←E3.o,←E1.o];simp[hrep,h3]
       rw[SX.o,e];rw[List.append_nil];exact QT6.o.drew
      ·by_cases h2:st1=2
       ·by_cases hv:gl=3
        ·have q3:(st1==3)=false:=beq_eq_false_iff_ne.2 h3
         have q3n:(st1 !=3)=true:=bne_iff_ne.2 h3;have q2:(st1==2)=true:=by simp[h2]
         have qv:(gl !=3)=false:=by simp[hv]
         go_wp2_with fail;refine⟨⟨k+1,by omega,by go_num,?_,rn6.o,bw6.o⟩,by simp[intOf];omega⟩;have e:(Gm.mk gl gt gm).turns1 (p,σ) k s=[]:=by
          unfold Gm.turns1;rw[if_pos HMAY.o,←E3.o,←E1.o];simp[hrep,h3,h2,hv]
         rw[SX.o,e];rw[List.append_nil];exact QT6.o.drew
        ·have q3:(st1==3)=false:=beq_eq_false_iff_ne.2 h3
         have q3n:(st1 !=3)=true:=bne_iff_ne.2 h3;have q2:(st1==2)=true:=by simp[h2]
         have qv:(gl !=3)=true:=bne_iff_ne.2 hv;go_wp2_with (at_builtin;refine qN rfl _ _ _ rfl _ 48 Tryz.underlying217 vK rfl ow (Xg.mk i1 false (p|||2 ^ k) (.slice aS σ.length cS)) hB6 (by rfl) (by rfl) (by first|rfl|simp) rfl (vy _) (by first|omega|(simp only[List.length_append,List.length_cons,List.length_nil,List.length_replicate];omega)) (by first|omega|(simp only[List.length_append,List.length_cons,List.length_nil,List.length_replicate];omega)) ?_;refine qK.halt ?_)
         refine qK.go ?_;intro g1 cc1 v1 oo1 GG1;have T1:=qh (zU.snoc (t:=(⟨i1,false,(p|||2 ^ k,σ)⟩:Tn)) ow hl0 hc0 ⟨rfl,rfl,rfl,(qj.below HS.o bw6.o)⟩ oo1 GG1);have rn1:=qh (qL rn6.o GG1 (qj.neT ow rn6.o (by decide)));have rt1:=qh (qL rt6.o GG1 (qj.neT ow rt6.o (by decide)));have rg1:=qh (qL rg6.o GG1 (qj.neT ow rg6.o (by decide)));have bw1:=qh ((bw6.o).trans (GG1.below hB6 fun j hj=>(qj.lt ow j hj).1));obtain⟨trs1,ow1,hl1,hc1⟩:=T1.o;have hLL1:trs1.length<=60:=by rw[hl1];simp;omega
         have hB1:w.heap.size<=v1.heap.size:=bw1.o.size;have HL1:=qh hl1;have x0:=qa rn1.o 0;have x1:=qa rn1.o 1;have z0:=qa rt1.o 0;have z2:=qa rt1.o 2;have y0:=qa rg1.o 0;simp at x0 x1 z0 z2 y0;have xl:=qd rn1.o;have zl:=qd rt1.o;have yl:=qd rg1.o;go_wp2_with fail;refine⟨⟨k+1,by omega,by go_num,?_,rn1.o,bw1.o⟩,by simp[intOf];omega⟩;have e:(Gm.mk gl gt gm).turns1 (p,σ) k s=[(⟨i1,false,(p|||2 ^ k,σ)⟩:Tn)]:=by
          unfold Gm.turns1;rw[if_pos HMAY.o,←E3.o,←E1.o];simp[hrep,h3,h2,hv]
         rw[SX.o,e];exact T1.o
       ·by_cases hv:gl=3
        ·have q3:(st1==3)=false:=beq_eq_false_iff_ne.2 h3
         have q3n:(st1 !=3)=true:=bne_iff_ne.2 h3;have q2:(st1==2)=false:=beq_eq_false_iff_ne.2 h2;have qv:(gl !=3)=false:=by simp[hv]
         go_wp2_with fail;refine⟨⟨k+1,by omega,by go_num,?_,rn6.o,bw6.o⟩,by simp[intOf];omega⟩;have e:(Gm.mk gl gt gm).turns1 (p,σ) k s=[]:=by
          unfold Gm.turns1;rw[if_pos HMAY.o,←E3.o,←E1.o];simp[hrep,h3,h2,hv]
         rw[SX.o,e];rw[List.append_nil];exact QT6.o.drew
        ·have q3:(st1==3)=false:=beq_eq_false_iff_ne.2 h3
         have q3n:(st1 !=3)=true:=bne_iff_ne.2 h3;have q2:(st1==2)=false:=beq_eq_false_iff_ne.2 h2;have qv:(gl !=3)=true:=bne_iff_ne.2 hv;go_wp2_with (at_builtin;refine qN rfl _ _ _ rfl _ 48 Tryz.underlying217 vK rfl ow (Xg.mk i1 false (p|||2 ^ k) (.slice aS σ.length cS)) hB6 (by rfl) (by rfl) (by first|rfl|simp) rfl (vy _) (by first|omega|(simp only[List.length_append,List.length_cons,List.length_nil,List.length_replicate];omega)) (by first|omega|(simp only[List.length_append,List.length_cons,List.length_nil,List.length_replicate];omega)) ?_;refine qK.halt ?_)
         refine qK.go ?_;intro g1 cc1 v1 oo1 GG1;have T1:=qh (zU.snoc (t:=(⟨i1,false,(p|||2 ^ k,σ)⟩:Tn)) ow hl0 hc0 ⟨rfl,rfl,rfl,(qj.below HS.o bw6.o)⟩ oo1 GG1);have rn1:=qh (qL rn6.o GG1 (qj.neT ow rn6.o (by decide)));have rt1:=qh (qL rt6.o GG1 (qj.neT ow rt6.o (by decide)));have rg1:=qh (qL rg6.o GG1 (qj.neT ow rg6.o (by decide)));have bw1:=qh ((bw6.o).trans (GG1.below hB6 fun j hj=>(qj.lt ow j hj).1));obtain⟨trs1,ow1,hl1,hc1⟩:=T1.o;have hLL1:trs1.length<=60:=by rw[hl1];simp;omega
         have hB1:w.heap.size<=v1.heap.size:=bw1.o.size;have HL1:=qh hl1;have x0:=qa rn1.o 0;have x1:=qa rn1.o 1;have z0:=qa rt1.o 0;have z2:=qa rt1.o 2;have y0:=qa rg1.o 0;simp at x0 x1 z0 z2 y0;have xl:=qd rn1.o;have zl:=qd rt1.o;have yl:=qd rg1.o;go_wp2_with fail;refine⟨⟨k+1,by omega,by go_num,?_,rn1.o,bw1.o⟩,by simp[intOf];omega⟩;have e:(Gm.mk gl gt gm).turns1 (p,σ) k s=[(⟨i1,false,(p|||2 ^ k,σ)⟩:Tn)]:=by
          unfold Gm.turns1;rw[if_pos HMAY.o,←E3.o,←E1.o];simp[hrep,h3,h2,hv]
         rw[SX.o,e];exact T1.o
  ·obtain rfl:k=rs.length:=by omega
   have hq:decide ((rs.length:Int) < (rs.length:Int))=false:=by simp
   go_wp2_with fail;go_ret;refine⟨_,rfl,?_,QB.o⟩;have:=QT.o;rw[HRL.o] at this;exact this
end
