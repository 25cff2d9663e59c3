/- Parts of the proof; the first: Events of all kinds of objects: which may be, of those that have a list of fields. Conditions: those of each theorem, as typed. -/
import Derived.Test.YtcpfbphcldocpaaGreatDoorQW04
import Derived.Test.YtcpfbphcldocpaaGreatDoorQW05
set_option linter.unusedVariables false
set_option linter.unusedSimpArgs false
set_option linter.unusedSectionVars false
set_option maxRecDepth 100000
set_option maxHeartbeats 4000000
namespace Go.Proofs.YtcpfbphcldocpaaGreatDoor
open Go.Maps Go.RowKit
section
attribute [local irreducible] xE
def vL:List Fd:=[qF,xm,xS,yu,Yp,jV,qT]
def xR (f:Fd):Nat:=if f.f=218 then 5 else Kf f
theorem Mc {f:Fd} (h:f ∈ Xp):xR f=Kf f:=by
 simp only[Xp,List.mem_cons,List.not_mem_nil,or_false] at h;rcases h with rfl|rfl|rfl|rfl|rfl|rfl <;> rfl
theorem XE {f:Fd}:f ∈ vL↔f=Yp\/f ∈ Xp:=by
 simp only[vL,Xp,List.mem_cons,List.not_mem_nil,or_false];constructor
 ·rintro (h|h|h|h|h|h|h) <;> simp[h]
 ·rintro (h|h|h|h|h|h|h) <;> simp[h]
theorem Nr {f:Fd} (h:f ∈ vL) (b:Nat) (w:World):Calls Tryz.prog f.f #[.pointer (some ⟨b,0,none⟩)] w fun e w'=>e=.returned (.pointer (some ⟨b,xR f,none⟩))/\w'=w:=by
 rcases XE.1 h with rfl|h
 ·exact qgl b w
 ·rw [Mc h];exact qha h b w
theorem Ny {f:Fd} (h:f ∈ vL) (args:Array Value) (X:World):Sem.run Tryz.prog (callFunc f.f args) X=.ok (.enter f.f args) X:=by
 rcases XE.1 h with rfl|h
 ·kernel_rfl
 ·exact qhk h args X
theorem uk {f:Fd} (h:f ∈ vL):1<=xR f/\xR f < 8:=by
 rcases XE.1 h with rfl|h
 ·decide
 ·rw [Mc h];exact qfH h
def zh (cs:List Value) (l:List Fd):List Value:=l.foldl (fun cs f=>cs.set (xR f) (.int .i64 0)) cs
theorem Xx (cs:List Value) (l:List Fd) (f:Fd):zh cs (l++[f])=(zh cs l).set (xR f) (.int .i64 0):=by simp[zh,List.foldl_append]
theorem YA (cs:List Value):∀(l:List Fd),(zh cs l).length=cs.length:=fun l=>by
 induction l generalizing cs with
 |nil=>rfl
 |cons f l ih=>show(zh (cs.set _ _) l).length=_;rw[ih,List.length_set]
def Qz (x:Ev):Nat->Int
 |0=>x.kind
 |1=>x.tx
 |2=>x.thread
 |3=>x.obj
 |4=>x.op
 |5=>x.key
 |6=>x.val
 |_=>x.ret
theorem JK (x:Ev) {j:Nat} (h:j < 8):x.cells[j]?=some (.int .i64 (Qz x j)):=by
 match j,h with
 |0,_=>rfl
 |1,_=>rfl
 |2,_=>rfl
 |3,_=>rfl
 |4,_=>rfl
 |5,_=>rfl
 |6,_=>rfl
 |7,_=>rfl
def vH (x:Ev) (l:List Fd) (j:Nat):Int:=if j=0\/j ∈ l.map xR then 0 else Qz x j
theorem UR (x:Ev):∀(l:List Fd) (cs:List Value),cs.length=8->(∀f ∈ l,xR f < 8)->∀(g:Nat->Int),(∀j,j < 8->cs[j]?=some (.int .i64 (g j)))->∀j,j < 8->(zh cs l)[j]?=some (.int .i64 (if j ∈ l.map xR then 0 else g j))
 |[],cs,hc,ho,g,h,j,hj=>by simpa[zh] using h j hj
 |f::l,cs,hc,ho,g,h,j,hj=>by
  have:=UR x l (cs.set (xR f) (.int .i64 0)) (by rw[List.length_set];exact hc) (fun q hq=>ho q (List.mem_cons_of_mem _ hq)) (fun i=>if i=xR f then 0 else g i) (fun i hi=>by
   by_cases e:i=xR f
   ·subst e;rw[List.getElem?_set_self (by omega)];simp
   ·rw [List.getElem?_set_ne (fun q=>e q.symm),h i hi];simp[e]) j hj
  refine this.trans ?_;by_cases e:j=xR f
  ·simp [e]
  ·simp [e]
theorem YH (x:Ev) {l:List Fd} (ho:∀f ∈ l,xR f < 8) {j:Nat} (hj:j < 8):(zh (jW x) l)[j]?=some (.int .i64 (vH x l j)):=by
 have:=UR x l (jW x) rfl ho (fun j=>if j=0 then 0 else Qz x j) (fun i hi=>by
  match i,hi with
  |0,_=>rfl
  |1,_=>rfl
  |2,_=>rfl
  |3,_=>rfl
  |4,_=>rfl
  |5,_=>rfl
  |6,_=>rfl
  |7,_=>rfl) j hj
 refine this.trans ?_;unfold vH;by_cases e:j=0
 ·simp [e]
 ·simp [e]
def jr (x:Ev) (f:Fd):Bool:=decide (f.lo<=Qz x (xR f))&&decide (Qz x (xR f)<=f.hi)
def XI (x:Ev) (L:List Fd):Bool:=(List.range 8).all fun j=>vH x L j==0
structure qeZ (L:List Fd):Prop where
 all:∀f ∈ L,f ∈ vL
 len:L.length<=10
def yG (x:Ev) (vE:Value) (L:List Fd):Value:=if L.all (jr x)&&XI x L then .nilIface else vE
def qdo (w:World) (x:Ev) (vE:Value) (L:List Fd) (e:Ending) (w':World):Prop:=e=.returned (yG x vE L)/\Below w.heap.size w w'
theorem QU {x:Ev} {L:List Fd}:XI x L=true↔∀j,j < 8->vH x L j=0:=by unfold XI;simp
theorem Ud {p:Fd->Bool} {L:List Fd} {i:Nat} (h:∀f ∈ L.take i,p f=true) (hi:i=L.length):L.all p=true:=by
 rw[List.all_eq_true];intro f hf;rw[hi,List.take_length] at h;exact h f hf
theorem qcz (xk xx xh xj xo xy xv xr:Int) (hk:xk=1\/4<=xk/\xk < 8) (L:List Fd) (hL:qeZ L) (vE:Value) (w:World) (hW:xu w) (hgE:8 < w.heap.size) (hE:w.cell? ⟨8,0,none⟩=some vE) (hL1:L=Xo xk):
  Calls Tryz.prog 81 #[Xc ⟨xk,xx,xh,xj,xo,xy,xv,xr⟩] w (qdo w ⟨xk,xx,xh,xj,xo,xy,xv,xr⟩ vE L):=by
 have HE:=qh hE;have HGE:=qh hgE;clear hE hgE;have b0:Below w.heap.size w (w.alloc (.cells #[.int .i64 xk,.int .i64 xx,.int .i64 xh,.int .i64 xj,.int .i64 xo,.int .i64 xy,.int .i64 xv,.int .i64 xr] 69)):=(Below.refl _ w).alloc (Nat.le_refl _) _;have r0:=qy w (.cells #[.int .i64 xk,.int .i64 xx,.int .i64 xh,.int .i64 xj,.int .i64 xo,.int .i64 xy,.int .i64 xv,.int .i64 xr] 69);have hf:=uq (w.alloc (.cells #[.int .i64 xk,.int .i64 xx,.int .i64 xh,.int .i64 xj,.int .i64 xo,.int .i64 xy,.int .i64 xv,.int .i64 xr] 69)).drew;have HW:=qh (hW.below b0);have HL:=qh hL;clear hW hL;have q2:(xk==2)=false:=by simp;omega
 have q3:(xk==3)=false:=by simp;omega
 go_enter Tryz.func81,Tryz.ntmps81;go_wp2_with fail;generalize w.alloc (.cells #[.int .i64 xk,.int .i64 xx,.int .i64 xh,.int .i64 xj,.int .i64 xo,.int .i64 xy,.int .i64 xv,.int .i64 xr] 69)=W at *;have y0:=qa r0 0;have l0:=qd r0;simp at y0;refine qI (W.heap.size) [3,0,1,2,0] (.fin [1,2,0,3,4]) (by kernel_rfl) ?_;simp only[xi,qP,qA,sD,sE,sF,sG]
 repeat first|(refine qz fun K hK=>?_;go_simp;refine hK _ _ ?_;clear hK K)|(apply qC;(intro w2 hw2;have hk1:=hw2.cell;have hk3:=hw2.1;clear hw2;go_simp;with_reducible rfl);simp only[Act.put,sA,sB,sC])
 refine qG (fun K hK=>?_);go_simp;refine hf.mono ?_;rintro e W1 ⟨bm,rfl,hF,b1⟩;refine hK _ _ (RN.KeepsN.of_below b1) ?_;clear hK K hf;have b1:Below W.heap.size W W1:=(Below.refl _ W).drew.trans b1;have z1:=b1.size;obtain⟨M,bq,hM,hc,hc2,hc3,hq,hbm⟩:=hF;obtain⟨v,hmk,bl,sv,rfl,hbl,hsv⟩:=hc xk hk;have lk:=(hM.look Tryz.underlying3 Tryz.underlying256 (Yu W1) xk hmk).1;simp only[Option.getD_some] at lk;have r1:=qp r0 b1 l0;have eqn:Sem.run Tryz.prog (binOp BinOp.eql 255 (.func (.func 180) #[] #[.pointer (some ⟨bl,0,none⟩)]) Value.nilFunc) W1=.ok (.bool false) W1:=by kernel_rfl
 have HB:=qh (b0.trans (b1.mono b0.size));have b1x:=qh b1;have R1:=qh r1;have y:=qa r1;have y0:=y 0;have y1:=y 1;have y2:=y 2;have y3:=y 3;have y4:=y 4;have y5:=y 5;have y6:=y 6;have y7:=y 7;simp at y0 y1 y2 y3 y4 y5 y6 y7;clear y hM hc hc2 hc3 r0 b0 b1 hmk;refine qM (fun K hK=>?_);go_simp;refine hK _ _ ?_;clear hK K lk
 repeat first|(refine qz fun K hK=>?_;go_simp;refine hK _ _ ?_;clear hK K)|refine qu ?_
 go_wp2_with fail;have ba:Below W1.heap.size W1 (W1.alloc (.cells #[.int .i64 0,.int .i64 xx,.int .i64 xh,.int .i64 xj,.int .i64 xo,.int .i64 xy,.int .i64 xv,.int .i64 xr] 69)):=(Below.refl _ W1).alloc (Nat.le_refl _) _;have ra:=qy W1 (.cells (jW ⟨xk,xx,xh,xj,xo,xy,xv,xr⟩).toArray 69);rw[show (jW ⟨xk,xx,xh,xj,xo,xy,xv,xr⟩).toArray=#[.int .i64 0,.int .i64 xx,.int .i64 xh,.int .i64 xj,.int .i64 xo,.int .i64 xy,.int .i64 xv,.int .i64 xr] from rfl] at ra;generalize W1.alloc (.cells #[.int .i64 0,.int .i64 xx,.int .i64 xh,.int .i64 xj,.int .i64 xo,.int .i64 xy,.int .i64 xv,.int .i64 xr] 69)=W2 at *;rw[show (#[.int .i64 0,.int .i64 xx,.int .i64 xh,.int .i64 xj,.int .i64 xo,.int .i64 xy,.int .i64 xv,.int .i64 xr]:Array Value)=(jW ⟨xk,xx,xh,xj,xo,xy,xv,xr⟩).toArray from rfl] at ra;have hnext:∀(wr:World),Below W1.heap.size W1 wr->∀i:Nat,i<=100->Calls Tryz.prog 180 #[Xc ⟨xk,xx,xh,xj,xo,xy,xv,xr⟩,.int .i64 i,.pointer (some ⟨bl,0,none⟩)] wr (zL L i wr):=by
  intro wr hb i hi;have b2:=hb;rw[hL1];exact QF _ i hi bl sv _ (qp hbl b2 (qd hbl)) (qj.sl (qj.below hsv b2))
 clear hbl hsv hL1;have B2:=qh ba;have RA:=qh ra;have BB:=qh (HB.o.trans (ba.mono HB.o.size));have RE:=qh (qp R1.o ba (qd R1.o));have lb:=qd R1.o;have hbb:=HB.o.size;have zz:=ba.size;clear ba ra y0 y1 y2 y3 y4 y5 y6 y7 eqn;obtain⟨br,hbr⟩:∃br,br=W1.heap.size:=⟨_,rfl⟩
 rw[←hbr] at RA ⊢;have hbw:w.heap.size<=br:=by omega
 have hbe:br≠w.heap.size:=by omega
 have hbw1:W1.heap.size<=br:=by omega
 clear hbr r1;have hlen:=HL.o.len
 go_loopw [5] (fun p wr=>∃i:Nat,i<=L.length/\p=.int .i64 i/\(∀f ∈ L.take i,jr ⟨xk,xx,xh,xj,xo,xy,xv,xr⟩ f=true)/\Below w.heap.size w wr/\Below W1.heap.size W1 wr/\wr.heap[w.heap.size]?=some (.cells #[.int .i64 xk,.int .i64 xx,.int .i64 xh,.int .i64 xj,.int .i64 xo,.int .i64 xy,.int .i64 xv,.int .i64 xr] 69 (0,0))/\wr.heap[br]?=some (.cells (zh (jW ⟨xk,xx,xh,xj,xo,xy,xv,xr⟩) (L.take i)).toArray 69 (0,0))) (fun p _=>L.length - (intOf p).toNat)
 case atStart=>exact⟨0,by omega,by go_num,by simp,BB.o,B2.o,RE.o,RA.o⟩
 case round=>
  obtain⟨i,hi,rfl,hpre,hB,hB2,hre,hrr⟩:=hrel;have HPRE:=qh hpre;clear hpre;have lw:=qd hre;have lr:=qd hrr;have y:=qa hre;have y0:=y 0;have y1:=y 1;have y2:=y 2;have y3:=y 3;have y4:=y 4;have y5:=y 5;have y6:=y 6;have y7:=y 7;simp at y0 y1 y2 y3 y4 y5 y6 y7;have hnx:=qh (hnext wr (hB2) i (by omega));have HBw:=qh hB;have HB2:=qh hB2;have HRE:=qh hre;have HRR:=qh hrr;clear y hB hB2 hre hrr;go_wp2_with fail;refine(hnx.o).mono ?_;rintro e W3 ⟨he,b3⟩;subst he;have z3:=b3.size;have re3:=qp HRE.o b3 lw;have rr3:=qp HRR.o b3 lr;have B3:=qh (HBw.o.trans (b3.mono HBw.o.size));have B4:=qh (HB2.o.trans (b3.mono HB2.o.size));by_cases hlt:i < L.length
  ·have hLi:L[i]?=some L[i]:=List.getElem?_eq_getElem hlt
   have hm:L[i] ∈ L:=List.getElem_mem hlt;have hfa:=HL.o.all _ hm;have HPS:∀q:jr ⟨xk,xx,xh,xj,xo,xy,xv,xr⟩ L[i]=true,∀f ∈ L.take (i+1),jr ⟨xk,xx,xh,xj,xo,xy,xv,xr⟩ f=true:=fun q f hf=>by
    rw[List.take_succ_eq_append_getElem hlt] at hf;rcases List.mem_append.1 hf with hf|hf
    ·exact HPRE.o f hf
    ·rw [List.mem_singleton.1 hf];exact q
   have HPN:jr ⟨xk,xx,xh,xj,xo,xy,xv,xr⟩ L[i]=false->L.all (jr ⟨xk,xx,xh,xj,xo,xy,xv,xr⟩)=false:=fun q=>by
    rw[List.all_eq_false];exact⟨_,hm,by rw[q];decide⟩
   have hn:=JK ⟨xk,xx,xh,xj,xo,xy,xv,xr⟩ (uk hfa).2;have ho:=uk hfa;have hsn:zh (jW ⟨xk,xx,xh,xj,xo,xy,xv,xr⟩) (L.take (i+1))=(zh (jW ⟨xk,xx,xh,xj,xo,xy,xv,xr⟩) (L.take i)).set (xR L[i]) (.int .i64 0):=by rw[List.take_succ_eq_append_getElem hlt,Xx]
   have HSN:=qh hsn;have hrl:(zh (jW ⟨xk,xx,xh,xj,xo,xy,xv,xr⟩) (L.take i)).length=8:=by rw[YA];rfl
   have hfd:=fun b w=>Nr hfa b w;rw[hLi];have HPS:=qh HPS;have HPN:=qh HPN;generalize L[i]=f at *;obtain⟨n,hnn⟩:∃n,n=Qz ⟨xk,xx,xh,xj,xo,xy,xv,xr⟩ (xR f):=⟨_,rfl⟩
   rw[←hnn] at hn;obtain⟨ff,tb,lo,hi'⟩:=f;have cn:W3.cell? ⟨w.heap.size,xR ⟨ff,tb,lo,hi'⟩,none⟩=some (.int .i64 n):=(qa re3 _).trans (by simpa[Ev.cells] using hn);obtain⟨u,hu⟩:∃u,(zh (jW ⟨xk,xx,xh,xj,xo,xy,xv,xr⟩) (L.take i))[xR ⟨ff,tb,lo,hi'⟩]?=some u:=⟨_,List.getElem?_eq_getElem (by omega)⟩
   have cr:W3.cell? ⟨br,xR ⟨ff,tb,lo,hi'⟩,none⟩=some u:=(qa rr3 _).trans (by simpa using hu);have fr:W3.frozen? ⟨br,xR ⟨ff,tb,lo,hi'⟩,none⟩=false:=qB rr3 _;obtain⟨o,hoo⟩:∃o,o=xR ⟨ff,tb,lo,hi'⟩:=⟨_,rfl⟩
   rw[←hoo] at cn cr fr hfd HSN;simp only at hfd;have hib:jr ⟨xk,xx,xh,xj,xo,xy,xv,xr⟩ ⟨ff,tb,lo,hi'⟩=(decide (lo<=n)&&decide (n<=hi')):=by unfold jr;rw[←hnn]
   clear hnn;have RE3:=qh re3;have RR3:=qh rr3;have HFD:=qh hfd;have lw3:=qd re3;have lr3:=qd rr3;clear re3 rr3 hfd hu hLi hm hn hsn hoo ho hrl y0 y1 y2 y3 y4 y5 y6 y7 hnx b3;have hbr3:br < W3.heap.size:=lr3;have hcf:=fun args X=>Ny hfa args X;simp only at hcf;clear hfa;go_wp2_with fail;refine(HFD.o _ _).mono ?_;rintro e W4 ⟨he,hw4⟩;subst he;subst hw4;have HE3:=qh (qx B3.o HGE.o HE.o);have hg3:8 < W3.heap.size:=by have:=HGE.o;have:=B3.o.size;omega
   by_cases hin:lo<=n/\n<=hi'
   case neg=>
    have HF:=qh (HPN.o (by rw[hib];simp;omega));by_cases hlo:n < lo
    ·have q1:decide (n < lo)=true:=by simpa using hlo
     have he3:=HE3.o;go_wp2;refine bodyPost_ret (v:=yG ⟨xk,xx,xh,xj,xo,xy,xv,xr⟩ vE L) (by simp[results,Tryz.results81,go_sem,yG,HF.o]) rfl ⟨rfl,?_⟩;exact B3.o.alloc B3.o.size _
    ·have q1:decide (n < lo)=false:=by simpa using hlo
     have q2':decide (hi' < n)=true:=by simp;omega
     have q3':decide (n > hi')=true:=by simp;omega
     have he3:=HE3.o;go_wp2;refine bodyPost_ret (v:=yG ⟨xk,xx,xh,xj,xo,xy,xv,xr⟩ vE L) (by simp[results,Tryz.results81,go_sem,yG,HF.o]) rfl ⟨rfl,?_⟩;exact B3.o.alloc B3.o.size _
   have q1:decide (n < lo)=false:=by simp;omega
   have q2':decide (hi' < n)=false:=by simp;omega
   have q3':decide (n > hi')=false:=by simp;omega
   have HYS:=qh (HPS.o (by rw[hib];simp;omega));go_wp2_with fail;refine(HFD.o _ _).mono ?_;rintro e W4 ⟨he,hw4⟩;subst he;subst hw4;go_wp2_with fail;go_roundw
   case rel=>
    have s3:=B3.o.setCell (p:=⟨br,o,none⟩) hbw (.int .i64 0);have s4:=B4.o.setCell (p:=⟨br,o,none⟩) hbw1 (.int .i64 0);exact⟨i+1,by omega,by go_num,HYS.o,s3.alloc s3.size _,s4.alloc s4.size _,qD (qJ RE3.o hbe),by rw[HSN.o,←VJ];exact qD (qq RR3.o _ _)⟩
   case measure=>simp[intOf];omega
  ·have hno:L[i]?=none:=List.getElem?_eq_none (by omega)
   obtain rfl:i=L.length:=by omega
   rw[hno];have hall:=Ud HPRE.o rfl;rw[List.take_length] at rr3;have y:=qa rr3;have ho8:∀f ∈ L,xR f < 8:=fun f hf=>(uk (HL.o.all f hf)).2;have hle:=fun j (hj:j < 8)=>YH ⟨xk,xx,xh,xj,xo,xy,xv,xr⟩ ho8 hj;have hlz:=QU (x:=⟨xk,xx,xh,xj,xo,xy,xv,xr⟩) (L:=L);generalize vH ⟨xk,xx,xh,xj,xo,xy,xv,xr⟩ L=m at *;have x0:W3.cell? ⟨br,0,none⟩=some (.int .i64 (m 0)):=(y 0).trans (by simpa using hle 0 (by decide));have x1:W3.cell? ⟨br,1,none⟩=some (.int .i64 (m 1)):=(y 1).trans (by simpa using hle 1 (by decide));have x2:W3.cell? ⟨br,2,none⟩=some (.int .i64 (m 2)):=(y 2).trans (by simpa using hle 2 (by decide));have x3:W3.cell? ⟨br,3,none⟩=some (.int .i64 (m 3)):=(y 3).trans (by simpa using hle 3 (by decide));have x4:W3.cell? ⟨br,4,none⟩=some (.int .i64 (m 4)):=(y 4).trans (by simpa using hle 4 (by decide));have x5:W3.cell? ⟨br,5,none⟩=some (.int .i64 (m 5)):=(y 5).trans (by simpa using hle 5 (by decide));have x6:W3.cell? ⟨br,6,none⟩=some (.int .i64 (m 6)):=(y 6).trans (by simpa using hle 6 (by decide));have x7:W3.cell? ⟨br,7,none⟩=some (.int .i64 (m 7)):=(y 7).trans (by simpa using hle 7 (by decide));generalize hm0:m 0=m0 at x0;generalize hm1:m 1=m1 at x1;generalize hm2:m 2=m2 at x2;generalize hm3:m 3=m3 at x3;generalize hm4:m 4=m4 at x4;generalize hm5:m 5=m5 at x5;generalize hm6:m 6=m6 at x6;generalize hm7:m 7=m7 at x7;have HE3:=qh (qx B3.o HGE.o HE.o);have hg3:8 < W3.heap.size:=by have:=HGE.o;have:=B3.o.size;omega
   have lr3:=qd rr3;clear y hle ho8 re3 rr3 y0 y1 y2 y3 y4 y5 y6 y7 hnx b3;have hv:yG ⟨xk,xx,xh,xj,xo,xy,xv,xr⟩ vE L=if m0=0/\m1=0/\m2=0/\m3=0/\m4=0/\m5=0/\m6=0/\m7=0 then .nilIface else vE:=by
    unfold yG;rw[hall,Bool.true_and];by_cases q:XI ⟨xk,xx,xh,xj,xo,xy,xv,xr⟩ L=true
    ·have q8:=hlz.1 q
     rw[if_pos q,if_pos];rw[←hm0,←hm1,←hm2,←hm3,←hm4,←hm5,←hm6,←hm7];exact⟨q8 0 (by decide),q8 1 (by decide),q8 2 (by decide),q8 3 (by decide),q8 4 (by decide),q8 5 (by decide),q8 6 (by decide),q8 7 (by decide)⟩
    ·rw [if_neg q,if_neg]
     rintro⟨h0,h1,h2,h3,h4,h5,h6,h7⟩;refine q (hlz.2 fun j hj=>?_)
     match j,hj with
     |0,_=>rw[hm0,h0]
     |1,_=>rw[hm1,h1]
     |2,_=>rw[hm2,h2]
     |3,_=>rw[hm3,h3]
     |4,_=>rw[hm4,h4]
     |5,_=>rw[hm5,h5]
     |6,_=>rw[hm6,h6]
     |7,_=>rw[hm7,h7]
   clear hlz hm0 hm1 hm2 hm3 hm4 hm5 hm6 hm7;by_cases hz:m0=0/\m1=0/\m2=0/\m3=0/\m4=0/\m5=0/\m6=0/\m7=0
   ·rw [if_pos hz] at hv
    have HVV:=qh hv;clear hv;obtain⟨rfl,rfl,rfl,rfl,rfl,rfl,rfl,rfl⟩:=hz;go_wp2_with fail;refine bodyPost_ret (v:=.nilIface) (by simp[results,Tryz.results81,go_sem]) rfl ⟨by rw[HVV.o],?_⟩;exact B3.o.alloc B3.o.size _
   ·rw [if_neg hz] at hv
    have HVV:=qh hv;clear hv;have he3:=HE3.o;go_wp2_with fail
    all_goals
     refine bodyPost_ret (v:=vE) (by simp[results,Tryz.results81,go_sem]) rfl ⟨by rw[HVV.o],?_⟩;exact B3.o.alloc B3.o.size _
theorem qcy (xk xx xh xj xo xy xv xr:Int) (hop:jT xo≠0) (hk:xk=2) (L:List Fd) (hL:qeZ L) (vE:Value) (w:World) (hW:xu w) (hgE:8 < w.heap.size) (hE:w.cell? ⟨8,0,none⟩=some vE) (hL1:L=jx xo):
  Calls Tryz.prog 81 #[Xc ⟨xk,xx,xh,xj,xo,xy,xv,xr⟩] w (qdo w ⟨xk,xx,xh,xj,xo,xy,xv,xr⟩ vE L):=by
 have HE:=qh hE;have HGE:=qh hgE;clear hE hgE;have b0:Below w.heap.size w (w.alloc (.cells #[.int .i64 xk,.int .i64 xx,.int .i64 xh,.int .i64 xj,.int .i64 xo,.int .i64 xy,.int .i64 xv,.int .i64 xr] 69)):=(Below.refl _ w).alloc (Nat.le_refl _) _;have r0:=qy w (.cells #[.int .i64 xk,.int .i64 xx,.int .i64 xh,.int .i64 xj,.int .i64 xo,.int .i64 xy,.int .i64 xv,.int .i64 xr] 69);have hf:=uq (w.alloc (.cells #[.int .i64 xk,.int .i64 xx,.int .i64 xh,.int .i64 xj,.int .i64 xo,.int .i64 xy,.int .i64 xv,.int .i64 xr] 69)).drew;have HW:=qh (hW.below b0);have HL:=qh hL;clear hW hL;have q2:(xk==2)=true:=by simp;omega
 have q3:(xk==3)=false:=by simp;omega
 have HK:=qh hk;clear hk;go_enter Tryz.func81,Tryz.ntmps81;go_wp2_with fail;generalize w.alloc (.cells #[.int .i64 xk,.int .i64 xx,.int .i64 xh,.int .i64 xj,.int .i64 xo,.int .i64 xy,.int .i64 xv,.int .i64 xr] 69)=W at *;have y0:=qa r0 0;have l0:=qd r0;simp at y0;refine qI (W.heap.size) [3,0,1,2,0] (.fin [1,2,0,3,4]) (by kernel_rfl) ?_;simp only[xi,qP,qA,sD,sE,sF,sG]
 repeat first|(refine qz fun K hK=>?_;go_simp;refine hK _ _ ?_;clear hK K)|(apply qC;(intro w2 hw2;have hk1:=hw2.cell;have hk3:=hw2.1;clear hw2;go_simp;with_reducible rfl);simp only[Act.put,sA,sB,sC])
 refine qG (fun K hK=>?_);go_simp;refine hf.mono ?_;rintro e W1 ⟨bm,rfl,hF,b1⟩;refine hK _ _ (RN.KeepsN.of_below b1) ?_;clear hK K hf;have b1:Below W.heap.size W W1:=(Below.refl _ W).drew.trans b1;have z1:=b1.size;obtain⟨M,bq,hM,hc,hc2,hc3,hq,hbm⟩:=hF;have hmk:M xk=some (.func (.func 183) #[] #[.pointer (some ⟨bq,0,none⟩)]):=by rw[HK.o];exact hc2
 have lk:=(hM.look Tryz.underlying3 Tryz.underlying256 (Yu W1) xk hmk).1;simp only[Option.getD_some] at lk;have r1:=qp r0 b1 l0;have eqn:Sem.run Tryz.prog (binOp BinOp.eql 255 (.func (.func 183) #[] #[.pointer (some ⟨bq,0,none⟩)]) Value.nilFunc) W1=.ok (.bool false) W1:=by kernel_rfl
 have HB:=qh (b0.trans (b1.mono b0.size));have b1x:=qh b1;have R1:=qh r1;have y:=qa r1;have y0:=y 0;have y1:=y 1;have y2:=y 2;have y3:=y 3;have y4:=y 4;have y5:=y 5;have y6:=y 6;have y7:=y 7;simp at y0 y1 y2 y3 y4 y5 y6 y7;clear y hM hc hc2 hc3 r0 b0 b1 hmk;refine qM (fun K hK=>?_);go_simp;refine hK _ _ ?_;clear hK K lk
 repeat first|(refine qz fun K hK=>?_;go_simp;refine hK _ _ ?_;clear hK K)|refine qu ?_
 go_wp2_with fail;refine(qay xo _).mono ?_;rintro e W5 ⟨he,hw5⟩;subst he;rw[hw5];clear hw5 W5;have qop:(jT xo==0)=false:=by simpa using hop
 go_wp2_with fail;have ba:Below W1.heap.size W1 (W1.alloc (.cells #[.int .i64 0,.int .i64 xx,.int .i64 xh,.int .i64 xj,.int .i64 xo,.int .i64 xy,.int .i64 xv,.int .i64 xr] 69)):=(Below.refl _ W1).alloc (Nat.le_refl _) _;have ra:=qy W1 (.cells (jW ⟨xk,xx,xh,xj,xo,xy,xv,xr⟩).toArray 69);rw[show (jW ⟨xk,xx,xh,xj,xo,xy,xv,xr⟩).toArray=#[.int .i64 0,.int .i64 xx,.int .i64 xh,.int .i64 xj,.int .i64 xo,.int .i64 xy,.int .i64 xv,.int .i64 xr] from rfl] at ra;generalize W1.alloc (.cells #[.int .i64 0,.int .i64 xx,.int .i64 xh,.int .i64 xj,.int .i64 xo,.int .i64 xy,.int .i64 xv,.int .i64 xr] 69)=W2 at *;rw[show (#[.int .i64 0,.int .i64 xx,.int .i64 xh,.int .i64 xj,.int .i64 xo,.int .i64 xy,.int .i64 xv,.int .i64 xr]:Array Value)=(jW ⟨xk,xx,xh,xj,xo,xy,xv,xr⟩).toArray from rfl] at ra;have hnext:∀(wr:World),Below W1.heap.size W1 wr->∀i:Nat,i<=100->Calls Tryz.prog 183 #[Xc ⟨xk,xx,xh,xj,xo,xy,xv,xr⟩,.int .i64 i,.pointer (some ⟨bq,0,none⟩)] wr (zL L i wr):=by
  intro wr hb i hi;rw[hL1];exact qfX ⟨xk,xx,xh,xj,xo,xy,xv,xr⟩ i hi bq (qp hq hb (qd hq))
 clear hL1;have B2:=qh ba;have RA:=qh ra;have BB:=qh (HB.o.trans (ba.mono HB.o.size));have RE:=qh (qp R1.o ba (qd R1.o));have lb:=qd R1.o;have hbb:=HB.o.size;have zz:=ba.size;clear ba ra y0 y1 y2 y3 y4 y5 y6 y7 eqn;obtain⟨br,hbr⟩:∃br,br=W1.heap.size:=⟨_,rfl⟩
 rw[←hbr] at RA ⊢;have hbw:w.heap.size<=br:=by omega
 have hbe:br≠w.heap.size:=by omega
 have hbw1:W1.heap.size<=br:=by omega
 clear hbr r1;have hlen:=HL.o.len
 go_loopw [5] (fun p wr=>∃i:Nat,i<=L.length/\p=.int .i64 i/\(∀f ∈ L.take i,jr ⟨xk,xx,xh,xj,xo,xy,xv,xr⟩ f=true)/\Below w.heap.size w wr/\Below W1.heap.size W1 wr/\wr.heap[w.heap.size]?=some (.cells #[.int .i64 xk,.int .i64 xx,.int .i64 xh,.int .i64 xj,.int .i64 xo,.int .i64 xy,.int .i64 xv,.int .i64 xr] 69 (0,0))/\wr.heap[br]?=some (.cells (zh (jW ⟨xk,xx,xh,xj,xo,xy,xv,xr⟩) (L.take i)).toArray 69 (0,0))) (fun p _=>L.length - (intOf p).toNat)
 case atStart=>exact⟨0,by omega,by go_num,by simp,BB.o,B2.o,RE.o,RA.o⟩
 case round=>
  obtain⟨i,hi,rfl,hpre,hB,hB2,hre,hrr⟩:=hrel;have HPRE:=qh hpre;clear hpre;have lw:=qd hre;have lr:=qd hrr;have y:=qa hre;have y0:=y 0;have y1:=y 1;have y2:=y 2;have y3:=y 3;have y4:=y 4;have y5:=y 5;have y6:=y 6;have y7:=y 7;simp at y0 y1 y2 y3 y4 y5 y6 y7;have hnx:=qh (hnext wr (hB2) i (by omega));have HBw:=qh hB;have HB2:=qh hB2;have HRE:=qh hre;have HRR:=qh hrr;clear y hB hB2 hre hrr;go_wp2_with fail;refine(hnx.o).mono ?_;rintro e W3 ⟨he,b3⟩;subst he;have z3:=b3.size;have re3:=qp HRE.o b3 lw;have rr3:=qp HRR.o b3 lr;have B3:=qh (HBw.o.trans (b3.mono HBw.o.size));have B4:=qh (HB2.o.trans (b3.mono HB2.o.size));by_cases hlt:i < L.length
  ·have hLi:L[i]?=some L[i]:=List.getElem?_eq_getElem hlt
   have hm:L[i] ∈ L:=List.getElem_mem hlt;have hfa:=HL.o.all _ hm;have HPS:∀q:jr ⟨xk,xx,xh,xj,xo,xy,xv,xr⟩ L[i]=true,∀f ∈ L.take (i+1),jr ⟨xk,xx,xh,xj,xo,xy,xv,xr⟩ f=true:=fun q f hf=>by
    rw[List.take_succ_eq_append_getElem hlt] at hf;rcases List.mem_append.1 hf with hf|hf
    ·exact HPRE.o f hf
    ·rw [List.mem_singleton.1 hf];exact q
   have HPN:jr ⟨xk,xx,xh,xj,xo,xy,xv,xr⟩ L[i]=false->L.all (jr ⟨xk,xx,xh,xj,xo,xy,xv,xr⟩)=false:=fun q=>by
    rw[List.all_eq_false];exact⟨_,hm,by rw[q];decide⟩
   have hn:=JK ⟨xk,xx,xh,xj,xo,xy,xv,xr⟩ (uk hfa).2;have ho:=uk hfa;have hsn:zh (jW ⟨xk,xx,xh,xj,xo,xy,xv,xr⟩) (L.take (i+1))=(zh (jW ⟨xk,xx,xh,xj,xo,xy,xv,xr⟩) (L.take i)).set (xR L[i]) (.int .i64 0):=by rw[List.take_succ_eq_append_getElem hlt,Xx]
   have HSN:=qh hsn;have hrl:(zh (jW ⟨xk,xx,xh,xj,xo,xy,xv,xr⟩) (L.take i)).length=8:=by rw[YA];rfl
   have hfd:=fun b w=>Nr hfa b w;rw[hLi];have HPS:=qh HPS;have HPN:=qh HPN;generalize L[i]=f at *;obtain⟨n,hnn⟩:∃n,n=Qz ⟨xk,xx,xh,xj,xo,xy,xv,xr⟩ (xR f):=⟨_,rfl⟩
   rw[←hnn] at hn;obtain⟨ff,tb,lo,hi'⟩:=f;have cn:W3.cell? ⟨w.heap.size,xR ⟨ff,tb,lo,hi'⟩,none⟩=some (.int .i64 n):=(qa re3 _).trans (by simpa[Ev.cells] using hn);obtain⟨u,hu⟩:∃u,(zh (jW ⟨xk,xx,xh,xj,xo,xy,xv,xr⟩) (L.take i))[xR ⟨ff,tb,lo,hi'⟩]?=some u:=⟨_,List.getElem?_eq_getElem (by omega)⟩
   have cr:W3.cell? ⟨br,xR ⟨ff,tb,lo,hi'⟩,none⟩=some u:=(qa rr3 _).trans (by simpa using hu);have fr:W3.frozen? ⟨br,xR ⟨ff,tb,lo,hi'⟩,none⟩=false:=qB rr3 _;obtain⟨o,hoo⟩:∃o,o=xR ⟨ff,tb,lo,hi'⟩:=⟨_,rfl⟩
   rw[←hoo] at cn cr fr hfd HSN;simp only at hfd;have hib:jr ⟨xk,xx,xh,xj,xo,xy,xv,xr⟩ ⟨ff,tb,lo,hi'⟩=(decide (lo<=n)&&decide (n<=hi')):=by unfold jr;rw[←hnn]
   clear hnn;have RE3:=qh re3;have RR3:=qh rr3;have HFD:=qh hfd;have lw3:=qd re3;have lr3:=qd rr3;clear re3 rr3 hfd hu hLi hm hn hsn hoo ho hrl y0 y1 y2 y3 y4 y5 y6 y7 hnx b3;have hbr3:br < W3.heap.size:=lr3;have hcf:=fun args X=>Ny hfa args X;simp only at hcf;clear hfa;go_wp2_with fail;refine(HFD.o _ _).mono ?_;rintro e W4 ⟨he,hw4⟩;subst he;subst hw4;have HE3:=qh (qx B3.o HGE.o HE.o);have hg3:8 < W3.heap.size:=by have:=HGE.o;have:=B3.o.size;omega
   by_cases hin:lo<=n/\n<=hi'
   case neg=>
    have HF:=qh (HPN.o (by rw[hib];simp;omega));by_cases hlo:n < lo
    ·have q1:decide (n < lo)=true:=by simpa using hlo
     have he3:=HE3.o;go_wp2;refine bodyPost_ret (v:=yG ⟨xk,xx,xh,xj,xo,xy,xv,xr⟩ vE L) (by simp[results,Tryz.results81,go_sem,yG,HF.o]) rfl ⟨rfl,?_⟩;exact B3.o.alloc B3.o.size _
    ·have q1:decide (n < lo)=false:=by simpa using hlo
     have q2':decide (hi' < n)=true:=by simp;omega
     have q3':decide (n > hi')=true:=by simp;omega
     have he3:=HE3.o;go_wp2;refine bodyPost_ret (v:=yG ⟨xk,xx,xh,xj,xo,xy,xv,xr⟩ vE L) (by simp[results,Tryz.results81,go_sem,yG,HF.o]) rfl ⟨rfl,?_⟩;exact B3.o.alloc B3.o.size _
   have q1:decide (n < lo)=false:=by simp;omega
   have q2':decide (hi' < n)=false:=by simp;omega
   have q3':decide (n > hi')=false:=by simp;omega
   have HYS:=qh (HPS.o (by rw[hib];simp;omega));go_wp2_with fail;refine(HFD.o _ _).mono ?_;rintro e W4 ⟨he,hw4⟩;subst he;subst hw4;go_wp2_with fail;go_roundw
   case rel=>
    have s3:=B3.o.setCell (p:=⟨br,o,none⟩) hbw (.int .i64 0);have s4:=B4.o.setCell (p:=⟨br,o,none⟩) hbw1 (.int .i64 0);exact⟨i+1,by omega,by go_num,HYS.o,s3.alloc s3.size _,s4.alloc s4.size _,qD (qJ RE3.o hbe),by rw[HSN.o,←VJ];exact qD (qq RR3.o _ _)⟩
   case measure=>simp[intOf];omega
  ·have hno:L[i]?=none:=List.getElem?_eq_none (by omega)
   obtain rfl:i=L.length:=by omega
   rw[hno];have hall:=Ud HPRE.o rfl;rw[List.take_length] at rr3;have y:=qa rr3;have ho8:∀f ∈ L,xR f < 8:=fun f hf=>(uk (HL.o.all f hf)).2;have hle:=fun j (hj:j < 8)=>YH ⟨xk,xx,xh,xj,xo,xy,xv,xr⟩ ho8 hj;have hlz:=QU (x:=⟨xk,xx,xh,xj,xo,xy,xv,xr⟩) (L:=L);generalize vH ⟨xk,xx,xh,xj,xo,xy,xv,xr⟩ L=m at *;have x0:W3.cell? ⟨br,0,none⟩=some (.int .i64 (m 0)):=(y 0).trans (by simpa using hle 0 (by decide));have x1:W3.cell? ⟨br,1,none⟩=some (.int .i64 (m 1)):=(y 1).trans (by simpa using hle 1 (by decide));have x2:W3.cell? ⟨br,2,none⟩=some (.int .i64 (m 2)):=(y 2).trans (by simpa using hle 2 (by decide));have x3:W3.cell? ⟨br,3,none⟩=some (.int .i64 (m 3)):=(y 3).trans (by simpa using hle 3 (by decide));have x4:W3.cell? ⟨br,4,none⟩=some (.int .i64 (m 4)):=(y 4).trans (by simpa using hle 4 (by decide));have x5:W3.cell? ⟨br,5,none⟩=some (.int .i64 (m 5)):=(y 5).trans (by simpa using hle 5 (by decide));have x6:W3.cell? ⟨br,6,none⟩=some (.int .i64 (m 6)):=(y 6).trans (by simpa using hle 6 (by decide));have x7:W3.cell? ⟨br,7,none⟩=some (.int .i64 (m 7)):=(y 7).trans (by simpa using hle 7 (by decide));generalize hm0:m 0=m0 at x0;generalize hm1:m 1=m1 at x1;generalize hm2:m 2=m2 at x2;generalize hm3:m 3=m3 at x3;generalize hm4:m 4=m4 at x4;generalize hm5:m 5=m5 at x5;generalize hm6:m 6=m6 at x6;generalize hm7:m 7=m7 at x7;have HE3:=qh (qx B3.o HGE.o HE.o);have hg3:8 < W3.heap.size:=by have:=HGE.o;have:=B3.o.size;omega
   have lr3:=qd rr3;clear y hle ho8 re3 rr3 y0 y1 y2 y3 y4 y5 y6 y7 hnx b3;have hv:yG ⟨xk,xx,xh,xj,xo,xy,xv,xr⟩ vE L=if m0=0/\m1=0/\m2=0/\m3=0/\m4=0/\m5=0/\m6=0/\m7=0 then .nilIface else vE:=by
    unfold yG;rw[hall,Bool.true_and];by_cases q:XI ⟨xk,xx,xh,xj,xo,xy,xv,xr⟩ L=true
    ·have q8:=hlz.1 q
     rw[if_pos q,if_pos];rw[←hm0,←hm1,←hm2,←hm3,←hm4,←hm5,←hm6,←hm7];exact⟨q8 0 (by decide),q8 1 (by decide),q8 2 (by decide),q8 3 (by decide),q8 4 (by decide),q8 5 (by decide),q8 6 (by decide),q8 7 (by decide)⟩
    ·rw [if_neg q,if_neg]
     rintro⟨h0,h1,h2,h3,h4,h5,h6,h7⟩;refine q (hlz.2 fun j hj=>?_)
     match j,hj with
     |0,_=>rw[hm0,h0]
     |1,_=>rw[hm1,h1]
     |2,_=>rw[hm2,h2]
     |3,_=>rw[hm3,h3]
     |4,_=>rw[hm4,h4]
     |5,_=>rw[hm5,h5]
     |6,_=>rw[hm6,h6]
     |7,_=>rw[hm7,h7]
   clear hlz hm0 hm1 hm2 hm3 hm4 hm5 hm6 hm7;by_cases hz:m0=0/\m1=0/\m2=0/\m3=0/\m4=0/\m5=0/\m6=0/\m7=0
   ·rw [if_pos hz] at hv
    have HVV:=qh hv;clear hv;obtain⟨rfl,rfl,rfl,rfl,rfl,rfl,rfl,rfl⟩:=hz;go_wp2_with fail;refine bodyPost_ret (v:=.nilIface) (by simp[results,Tryz.results81,go_sem]) rfl ⟨by rw[HVV.o],?_⟩;exact B3.o.alloc B3.o.size _
   ·rw [if_neg hz] at hv
    have HVV:=qh hv;clear hv;have he3:=HE3.o;go_wp2_with fail
    all_goals
     refine bodyPost_ret (v:=vE) (by simp[results,Tryz.results81,go_sem]) rfl ⟨by rw[HVV.o],?_⟩;exact B3.o.alloc B3.o.size _
theorem qcx (xk xx xh xj xo xy xv xr:Int) (hop:1<=xr/\xr<=3) (hdr:dI xr) (hk:xk=3) (L:List Fd) (hL:qeZ L) (vE:Value) (w:World) (hW:xu w) (hgE:8 < w.heap.size) (hE:w.cell? ⟨8,0,none⟩=some vE) (hL1:L=Zx xr):
  Calls Tryz.prog 81 #[Xc ⟨xk,xx,xh,xj,xo,xy,xv,xr⟩] w (qdo w ⟨xk,xx,xh,xj,xo,xy,xv,xr⟩ vE L):=by
 have HE:=qh hE;have HGE:=qh hgE;clear hE hgE;have b0:Below w.heap.size w (w.alloc (.cells #[.int .i64 xk,.int .i64 xx,.int .i64 xh,.int .i64 xj,.int .i64 xo,.int .i64 xy,.int .i64 xv,.int .i64 xr] 69)):=(Below.refl _ w).alloc (Nat.le_refl _) _;have r0:=qy w (.cells #[.int .i64 xk,.int .i64 xx,.int .i64 xh,.int .i64 xj,.int .i64 xo,.int .i64 xy,.int .i64 xv,.int .i64 xr] 69);have hf:=uq (w.alloc (.cells #[.int .i64 xk,.int .i64 xx,.int .i64 xh,.int .i64 xj,.int .i64 xo,.int .i64 xy,.int .i64 xv,.int .i64 xr] 69)).drew;have HW:=qh (hW.below b0);have HL:=qh hL;clear hW hL;have q2:(xk==2)=false:=by simp;omega
 have q3:(xk==3)=true:=by simp;omega
 have HK:=qh hk;clear hk;go_enter Tryz.func81,Tryz.ntmps81;go_wp2_with fail;generalize w.alloc (.cells #[.int .i64 xk,.int .i64 xx,.int .i64 xh,.int .i64 xj,.int .i64 xo,.int .i64 xy,.int .i64 xv,.int .i64 xr] 69)=W at *;have y0:=qa r0 0;have l0:=qd r0;simp at y0;refine qI (W.heap.size) [3,0,1,2,0] (.fin [1,2,0,3,4]) (by kernel_rfl) ?_;simp only[xi,qP,qA,sD,sE,sF,sG]
 repeat first|(refine qz fun K hK=>?_;go_simp;refine hK _ _ ?_;clear hK K)|(apply qC;(intro w2 hw2;have hk1:=hw2.cell;have hk3:=hw2.1;clear hw2;go_simp;with_reducible rfl);simp only[Act.put,sA,sB,sC])
 refine qG (fun K hK=>?_);go_simp;refine hf.mono ?_;rintro e W1 ⟨bm,rfl,hF,b1⟩;refine hK _ _ (RN.KeepsN.of_below b1) ?_;clear hK K hf;have b1:Below W.heap.size W W1:=(Below.refl _ W).drew.trans b1;have z1:=b1.size;obtain⟨M,bq,hM,hc,hc2,hc3,hq,hbm⟩:=hF;have hmk:M xk=some (.func (.func 188) #[] #[.pointer (some ⟨bq,0,none⟩)]):=by rw[HK.o];exact hc3
 have lk:=(hM.look Tryz.underlying3 Tryz.underlying256 (Yu W1) xk hmk).1;simp only[Option.getD_some] at lk;have r1:=qp r0 b1 l0;have eqn:Sem.run Tryz.prog (binOp BinOp.eql 255 (.func (.func 188) #[] #[.pointer (some ⟨bq,0,none⟩)]) Value.nilFunc) W1=.ok (.bool false) W1:=by kernel_rfl
 have HB:=qh (b0.trans (b1.mono b0.size));have b1x:=qh b1;have R1:=qh r1;have y:=qa r1;have y0:=y 0;have y1:=y 1;have y2:=y 2;have y3:=y 3;have y4:=y 4;have y5:=y 5;have y6:=y 6;have y7:=y 7;simp at y0 y1 y2 y3 y4 y5 y6 y7;clear y hM hc hc2 hc3 r0 b0 b1 hmk;refine qM (fun K hK=>?_);go_simp;refine hK _ _ ?_;clear hK K lk
 repeat first|(refine qz fun K hK=>?_;go_simp;refine hK _ _ ?_;clear hK K)|refine qu ?_
 go_wp2_with fail;obtain⟨s,hs,hsq⟩:∃s:ByteArray,Calls Tryz.prog 130 #[.int .i64 4,.int .i64 xr] W1 (fun e w'=>e=.returned (.string s)/\Below W1.heap.size W1 w')/\s.toList.isEmpty=false:=⟨_,Kx (HW.o.below (b1x.o)) xr hdr,by rw[Xr];simp;omega⟩
 refine hs.mono ?_;rintro e W5 ⟨he,b5⟩;subst he;have HB:=qh (HB.o.trans (b5.mono HB.o.size));have r1:=qp R1.o b5 (qd R1.o);have R1:=qh r1;have y:=qa r1;have y0:=y 0;have y1:=y 1;have y2:=y 2;have y3:=y 3;have y4:=y 4;have y5:=y 5;have y6:=y 6;have y7:=y 7;simp at y0 y1 y2 y3 y4 y5 y6 y7;clear y hs;go_wp2_with fail;have ba:Below W5.heap.size W5 (W5.alloc (.cells #[.int .i64 0,.int .i64 xx,.int .i64 xh,.int .i64 xj,.int .i64 xo,.int .i64 xy,.int .i64 xv,.int .i64 xr] 69)):=(Below.refl _ W5).alloc (Nat.le_refl _) _;have ra:=qy W5 (.cells (jW ⟨xk,xx,xh,xj,xo,xy,xv,xr⟩).toArray 69);rw[show (jW ⟨xk,xx,xh,xj,xo,xy,xv,xr⟩).toArray=#[.int .i64 0,.int .i64 xx,.int .i64 xh,.int .i64 xj,.int .i64 xo,.int .i64 xy,.int .i64 xv,.int .i64 xr] from rfl] at ra;generalize W5.alloc (.cells #[.int .i64 0,.int .i64 xx,.int .i64 xh,.int .i64 xj,.int .i64 xo,.int .i64 xy,.int .i64 xv,.int .i64 xr] 69)=W2 at *;rw[show (#[.int .i64 0,.int .i64 xx,.int .i64 xh,.int .i64 xj,.int .i64 xo,.int .i64 xy,.int .i64 xv,.int .i64 xr]:Array Value)=(jW ⟨xk,xx,xh,xj,xo,xy,xv,xr⟩).toArray from rfl] at ra;have hq5:=qp hq b5 (qd hq);have hnext:∀(wr:World),Below W5.heap.size W5 wr->∀i:Nat,i<=100->Calls Tryz.prog 188 #[Xc ⟨xk,xx,xh,xj,xo,xy,xv,xr⟩,.int .i64 i,.pointer (some ⟨bq,0,none⟩)] wr (zL L i wr):=by
  intro wr hb i hi;rw[hL1];exact qfV ⟨xk,xx,xh,xj,xo,xy,xv,xr⟩ i hi bq (qp hq5 hb (qd hq5))
 clear hL1;have B2:=qh ba;have RA:=qh ra;have BB:=qh (HB.o.trans (ba.mono HB.o.size));have RE:=qh (qp R1.o ba (qd R1.o));have lb:=qd R1.o;have hbb:=HB.o.size;have zz:=ba.size;clear ba ra y0 y1 y2 y3 y4 y5 y6 y7 eqn;obtain⟨br,hbr⟩:∃br,br=W5.heap.size:=⟨_,rfl⟩
 rw[←hbr] at RA ⊢;have hbw:w.heap.size<=br:=by omega
 have hbe:br≠w.heap.size:=by omega
 have hbw1:W5.heap.size<=br:=by omega
 clear hbr r1;have hlen:=HL.o.len
 go_loopw [5] (fun p wr=>∃i:Nat,i<=L.length/\p=.int .i64 i/\(∀f ∈ L.take i,jr ⟨xk,xx,xh,xj,xo,xy,xv,xr⟩ f=true)/\Below w.heap.size w wr/\Below W5.heap.size W5 wr/\wr.heap[w.heap.size]?=some (.cells #[.int .i64 xk,.int .i64 xx,.int .i64 xh,.int .i64 xj,.int .i64 xo,.int .i64 xy,.int .i64 xv,.int .i64 xr] 69 (0,0))/\wr.heap[br]?=some (.cells (zh (jW ⟨xk,xx,xh,xj,xo,xy,xv,xr⟩) (L.take i)).toArray 69 (0,0))) (fun p _=>L.length - (intOf p).toNat)
 case atStart=>exact⟨0,by omega,by go_num,by simp,BB.o,B2.o,RE.o,RA.o⟩
 case round=>
  obtain⟨i,hi,rfl,hpre,hB,hB2,hre,hrr⟩:=hrel;have HPRE:=qh hpre;clear hpre;have lw:=qd hre;have lr:=qd hrr;have y:=qa hre;have y0:=y 0;have y1:=y 1;have y2:=y 2;have y3:=y 3;have y4:=y 4;have y5:=y 5;have y6:=y 6;have y7:=y 7;simp at y0 y1 y2 y3 y4 y5 y6 y7;have hnx:=qh (hnext wr (hB2) i (by omega));have HBw:=qh hB;have HB2:=qh hB2;have HRE:=qh hre;have HRR:=qh hrr;clear y hB hB2 hre hrr;go_wp2_with fail;refine(hnx.o).mono ?_;rintro e W3 ⟨he,b3⟩;subst he;have z3:=b3.size;have re3:=qp HRE.o b3 lw;have rr3:=qp HRR.o b3 lr;have B3:=qh (HBw.o.trans (b3.mono HBw.o.size));have B4:=qh (HB2.o.trans (b3.mono HB2.o.size));by_cases hlt:i < L.length
  ·have hLi:L[i]?=some L[i]:=List.getElem?_eq_getElem hlt
   have hm:L[i] ∈ L:=List.getElem_mem hlt;have hfa:=HL.o.all _ hm;have HPS:∀q:jr ⟨xk,xx,xh,xj,xo,xy,xv,xr⟩ L[i]=true,∀f ∈ L.take (i+1),jr ⟨xk,xx,xh,xj,xo,xy,xv,xr⟩ f=true:=fun q f hf=>by
    rw[List.take_succ_eq_append_getElem hlt] at hf;rcases List.mem_append.1 hf with hf|hf
    ·exact HPRE.o f hf
    ·rw [List.mem_singleton.1 hf];exact q
   have HPN:jr ⟨xk,xx,xh,xj,xo,xy,xv,xr⟩ L[i]=false->L.all (jr ⟨xk,xx,xh,xj,xo,xy,xv,xr⟩)=false:=fun q=>by
    rw[List.all_eq_false];exact⟨_,hm,by rw[q];decide⟩
   have hn:=JK ⟨xk,xx,xh,xj,xo,xy,xv,xr⟩ (uk hfa).2;have ho:=uk hfa;have hsn:zh (jW ⟨xk,xx,xh,xj,xo,xy,xv,xr⟩) (L.take (i+1))=(zh (jW ⟨xk,xx,xh,xj,xo,xy,xv,xr⟩) (L.take i)).set (xR L[i]) (.int .i64 0):=by rw[List.take_succ_eq_append_getElem hlt,Xx]
   have HSN:=qh hsn;have hrl:(zh (jW ⟨xk,xx,xh,xj,xo,xy,xv,xr⟩) (L.take i)).length=8:=by rw[YA];rfl
   have hfd:=fun b w=>Nr hfa b w;rw[hLi];have HPS:=qh HPS;have HPN:=qh HPN;generalize L[i]=f at *;obtain⟨n,hnn⟩:∃n,n=Qz ⟨xk,xx,xh,xj,xo,xy,xv,xr⟩ (xR f):=⟨_,rfl⟩
   rw[←hnn] at hn;obtain⟨ff,tb,lo,hi'⟩:=f;have cn:W3.cell? ⟨w.heap.size,xR ⟨ff,tb,lo,hi'⟩,none⟩=some (.int .i64 n):=(qa re3 _).trans (by simpa[Ev.cells] using hn);obtain⟨u,hu⟩:∃u,(zh (jW ⟨xk,xx,xh,xj,xo,xy,xv,xr⟩) (L.take i))[xR ⟨ff,tb,lo,hi'⟩]?=some u:=⟨_,List.getElem?_eq_getElem (by omega)⟩
   have cr:W3.cell? ⟨br,xR ⟨ff,tb,lo,hi'⟩,none⟩=some u:=(qa rr3 _).trans (by simpa using hu);have fr:W3.frozen? ⟨br,xR ⟨ff,tb,lo,hi'⟩,none⟩=false:=qB rr3 _;obtain⟨o,hoo⟩:∃o,o=xR ⟨ff,tb,lo,hi'⟩:=⟨_,rfl⟩
   rw[←hoo] at cn cr fr hfd HSN;simp only at hfd;have hib:jr ⟨xk,xx,xh,xj,xo,xy,xv,xr⟩ ⟨ff,tb,lo,hi'⟩=(decide (lo<=n)&&decide (n<=hi')):=by unfold jr;rw[←hnn]
   clear hnn;have RE3:=qh re3;have RR3:=qh rr3;have HFD:=qh hfd;have lw3:=qd re3;have lr3:=qd rr3;clear re3 rr3 hfd hu hLi hm hn hsn hoo ho hrl y0 y1 y2 y3 y4 y5 y6 y7 hnx b3;have hbr3:br < W3.heap.size:=lr3;have hcf:=fun args X=>Ny hfa args X;simp only at hcf;clear hfa;go_wp2_with fail;refine(HFD.o _ _).mono ?_;rintro e W4 ⟨he,hw4⟩;subst he;subst hw4;have HE3:=qh (qx B3.o HGE.o HE.o);have hg3:8 < W3.heap.size:=by have:=HGE.o;have:=B3.o.size;omega
   by_cases hin:lo<=n/\n<=hi'
   case neg=>
    have HF:=qh (HPN.o (by rw[hib];simp;omega));by_cases hlo:n < lo
    ·have q1:decide (n < lo)=true:=by simpa using hlo
     have he3:=HE3.o;go_wp2;refine bodyPost_ret (v:=yG ⟨xk,xx,xh,xj,xo,xy,xv,xr⟩ vE L) (by simp[results,Tryz.results81,go_sem,yG,HF.o]) rfl ⟨rfl,?_⟩;exact B3.o.alloc B3.o.size _
    ·have q1:decide (n < lo)=false:=by simpa using hlo
     have q2':decide (hi' < n)=true:=by simp;omega
     have q3':decide (n > hi')=true:=by simp;omega
     have he3:=HE3.o;go_wp2;refine bodyPost_ret (v:=yG ⟨xk,xx,xh,xj,xo,xy,xv,xr⟩ vE L) (by simp[results,Tryz.results81,go_sem,yG,HF.o]) rfl ⟨rfl,?_⟩;exact B3.o.alloc B3.o.size _
   have q1:decide (n < lo)=false:=by simp;omega
   have q2':decide (hi' < n)=false:=by simp;omega
   have q3':decide (n > hi')=false:=by simp;omega
   have HYS:=qh (HPS.o (by rw[hib];simp;omega));go_wp2_with fail;refine(HFD.o _ _).mono ?_;rintro e W4 ⟨he,hw4⟩;subst he;subst hw4;go_wp2_with fail;go_roundw
   case rel=>
    have s3:=B3.o.setCell (p:=⟨br,o,none⟩) hbw (.int .i64 0);have s4:=B4.o.setCell (p:=⟨br,o,none⟩) hbw1 (.int .i64 0);exact⟨i+1,by omega,by go_num,HYS.o,s3.alloc s3.size _,s4.alloc s4.size _,qD (qJ RE3.o hbe),by rw[HSN.o,←VJ];exact qD (qq RR3.o _ _)⟩
   case measure=>simp[intOf];omega
  ·have hno:L[i]?=none:=List.getElem?_eq_none (by omega)
   obtain rfl:i=L.length:=by omega
   rw[hno];have hall:=Ud HPRE.o rfl;rw[List.take_length] at rr3;have y:=qa rr3;have ho8:∀f ∈ L,xR f < 8:=fun f hf=>(uk (HL.o.all f hf)).2;have hle:=fun j (hj:j < 8)=>YH ⟨xk,xx,xh,xj,xo,xy,xv,xr⟩ ho8 hj;have hlz:=QU (x:=⟨xk,xx,xh,xj,xo,xy,xv,xr⟩) (L:=L);generalize vH ⟨xk,xx,xh,xj,xo,xy,xv,xr⟩ L=m at *;have x0:W3.cell? ⟨br,0,none⟩=some (.int .i64 (m 0)):=(y 0).trans (by simpa using hle 0 (by decide));have x1:W3.cell? ⟨br,1,none⟩=some (.int .i64 (m 1)):=(y 1).trans (by simpa using hle 1 (by decide));have x2:W3.cell? ⟨br,2,none⟩=some (.int .i64 (m 2)):=(y 2).trans (by simpa using hle 2 (by decide));have x3:W3.cell? ⟨br,3,none⟩=some (.int .i64 (m 3)):=(y 3).trans (by simpa using hle 3 (by decide));have x4:W3.cell? ⟨br,4,none⟩=some (.int .i64 (m 4)):=(y 4).trans (by simpa using hle 4 (by decide));have x5:W3.cell? ⟨br,5,none⟩=some (.int .i64 (m 5)):=(y 5).trans (by simpa using hle 5 (by decide));have x6:W3.cell? ⟨br,6,none⟩=some (.int .i64 (m 6)):=(y 6).trans (by simpa using hle 6 (by decide));have x7:W3.cell? ⟨br,7,none⟩=some (.int .i64 (m 7)):=(y 7).trans (by simpa using hle 7 (by decide));generalize hm0:m 0=m0 at x0;generalize hm1:m 1=m1 at x1;generalize hm2:m 2=m2 at x2;generalize hm3:m 3=m3 at x3;generalize hm4:m 4=m4 at x4;generalize hm5:m 5=m5 at x5;generalize hm6:m 6=m6 at x6;generalize hm7:m 7=m7 at x7;have HE3:=qh (qx B3.o HGE.o HE.o);have hg3:8 < W3.heap.size:=by have:=HGE.o;have:=B3.o.size;omega
   have lr3:=qd rr3;clear y hle ho8 re3 rr3 y0 y1 y2 y3 y4 y5 y6 y7 hnx b3;have hv:yG ⟨xk,xx,xh,xj,xo,xy,xv,xr⟩ vE L=if m0=0/\m1=0/\m2=0/\m3=0/\m4=0/\m5=0/\m6=0/\m7=0 then .nilIface else vE:=by
    unfold yG;rw[hall,Bool.true_and];by_cases q:XI ⟨xk,xx,xh,xj,xo,xy,xv,xr⟩ L=true
    ·have q8:=hlz.1 q
     rw[if_pos q,if_pos];rw[←hm0,←hm1,←hm2,←hm3,←hm4,←hm5,←hm6,←hm7];exact⟨q8 0 (by decide),q8 1 (by decide),q8 2 (by decide),q8 3 (by decide),q8 4 (by decide),q8 5 (by decide),q8 6 (by decide),q8 7 (by decide)⟩
    ·rw [if_neg q,if_neg]
     rintro⟨h0,h1,h2,h3,h4,h5,h6,h7⟩;refine q (hlz.2 fun j hj=>?_)
     match j,hj with
     |0,_=>rw[hm0,h0]
     |1,_=>rw[hm1,h1]
     |2,_=>rw[hm2,h2]
     |3,_=>rw[hm3,h3]
     |4,_=>rw[hm4,h4]
     |5,_=>rw[hm5,h5]
     |6,_=>rw[hm6,h6]
     |7,_=>rw[hm7,h7]
   clear hlz hm0 hm1 hm2 hm3 hm4 hm5 hm6 hm7;by_cases hz:m0=0/\m1=0/\m2=0/\m3=0/\m4=0/\m5=0/\m6=0/\m7=0
   ·rw [if_pos hz] at hv
    have HVV:=qh hv;clear hv;obtain⟨rfl,rfl,rfl,rfl,rfl,rfl,rfl,rfl⟩:=hz;go_wp2_with fail;refine bodyPost_ret (v:=.nilIface) (by simp[results,Tryz.results81,go_sem]) rfl ⟨by rw[HVV.o],?_⟩;exact B3.o.alloc B3.o.size _
   ·rw [if_neg hz] at hv
    have HVV:=qh hv;clear hv;have he3:=HE3.o;go_wp2_with fail
    all_goals
     refine bodyPost_ret (v:=vE) (by simp[results,Tryz.results81,go_sem]) rfl ⟨by rw[HVV.o],?_⟩;exact B3.o.alloc B3.o.size _
end
section
attribute [local irreducible] xE
theorem qes (xk xx xh xj xo xy xv xr:Int) (hk:xk < 1\/7 < xk) (vC:Value) (w:World) (hW:xu w) (hgC:15 < w.heap.size) (hC:w.cell? ⟨15,0,none⟩=some vC):
  Calls Tryz.prog 81 #[Xc ⟨xk,xx,xh,xj,xo,xy,xv,xr⟩] w (fun e w'=>e=.returned vC/\Below w.heap.size w w'):=by
 have HE:=qh hC;have HGE:=qh hgC;clear hC hgC;have b0:Below w.heap.size w (w.alloc (.cells #[.int .i64 xk,.int .i64 xx,.int .i64 xh,.int .i64 xj,.int .i64 xo,.int .i64 xy,.int .i64 xv,.int .i64 xr] 69)):=(Below.refl _ w).alloc (Nat.le_refl _) _;have r0:=qy w (.cells #[.int .i64 xk,.int .i64 xx,.int .i64 xh,.int .i64 xj,.int .i64 xo,.int .i64 xy,.int .i64 xv,.int .i64 xr] 69);have hf:=uq (w.alloc (.cells #[.int .i64 xk,.int .i64 xx,.int .i64 xh,.int .i64 xj,.int .i64 xo,.int .i64 xy,.int .i64 xv,.int .i64 xr] 69)).drew;have HW:=qh (hW.below b0);clear hW;have q2:(xk==2)=false:=by simp;omega
 have q3:(xk==3)=false:=by simp;omega
 go_enter Tryz.func81,Tryz.ntmps81;go_wp2_with fail;generalize w.alloc (.cells #[.int .i64 xk,.int .i64 xx,.int .i64 xh,.int .i64 xj,.int .i64 xo,.int .i64 xy,.int .i64 xv,.int .i64 xr] 69)=W at *;have y0:=qa r0 0;have l0:=qd r0;simp at y0;refine qI (W.heap.size) [3,0,1,2,0] (.fin [1,2,0,3,4]) (by kernel_rfl) ?_;simp only[xi,qP,qA,sD,sE,sF,sG]
 repeat first|(refine qz fun K hK=>?_;go_simp;refine hK _ _ ?_;clear hK K)|(apply qC;(intro w2 hw2;have hk1:=hw2.cell;have hk3:=hw2.1;clear hw2;go_simp;with_reducible rfl);simp only[Act.put,sA,sB,sC])
 refine qG (fun K hK=>?_);go_simp;refine hf.mono ?_;rintro e W1 ⟨bm,rfl,hF,b1⟩;refine hK _ _ (RN.KeepsN.of_below b1) ?_;clear hK K hf;have b1:Below W.heap.size W W1:=(Below.refl _ W).drew.trans b1;have z1:=b1.size;obtain⟨M,bq,hM,hc,hc2,hc3,hq,hbm⟩:=hF;have hmk:=hbm.2 xk hk;have lk:=(hM.look Tryz.underlying3 Tryz.underlying256 (Yu W1) xk hmk).1;simp only[Option.getD_none] at lk;have r1:=qp r0 b1 l0;have eqn:Sem.run Tryz.prog (binOp BinOp.eql 255 Value.nilFunc Value.nilFunc) W1=.ok (.bool true) W1:=by kernel_rfl
 have HB:=qh (b0.trans (b1.mono b0.size));have b1x:=qh b1;have R1:=qh r1;have y:=qa r1;have y0:=y 0;have y1:=y 1;have y2:=y 2;have y3:=y 3;have y4:=y 4;have y5:=y 5;have y6:=y 6;have y7:=y 7;simp at y0 y1 y2 y3 y4 y5 y6 y7;clear y hM hc hc2 hc3 r0 b0 b1 hmk;refine qM (fun K hK=>?_);go_simp;refine hK _ _ ?_;clear hK K lk
 repeat first|(refine qz fun K hK=>?_;go_simp;refine hK _ _ ?_;clear hK K)|refine qu ?_
 have he3:=qx HB.o HGE.o HE.o;have hg3:15 < W1.heap.size:=by have:=HGE.o;have:=HB.o.size;omega
 go_wp2;refine bodyPost_ret (v:=vC) (by simp[results,Tryz.results81,go_sem]) rfl ⟨rfl,?_⟩;exact HB.o
theorem qer (xk xx xh xj xo xy xv xr:Int) (hop:jT xo=0) (hk:xk=2) (vC:Value) (w:World) (hW:xu w) (hgC:15 < w.heap.size) (hC:w.cell? ⟨15,0,none⟩=some vC):
  Calls Tryz.prog 81 #[Xc ⟨xk,xx,xh,xj,xo,xy,xv,xr⟩] w (fun e w'=>e=.returned vC/\Below w.heap.size w w'):=by
 have HE:=qh hC;have HGE:=qh hgC;clear hC hgC;have b0:Below w.heap.size w (w.alloc (.cells #[.int .i64 xk,.int .i64 xx,.int .i64 xh,.int .i64 xj,.int .i64 xo,.int .i64 xy,.int .i64 xv,.int .i64 xr] 69)):=(Below.refl _ w).alloc (Nat.le_refl _) _;have r0:=qy w (.cells #[.int .i64 xk,.int .i64 xx,.int .i64 xh,.int .i64 xj,.int .i64 xo,.int .i64 xy,.int .i64 xv,.int .i64 xr] 69);have hf:=uq (w.alloc (.cells #[.int .i64 xk,.int .i64 xx,.int .i64 xh,.int .i64 xj,.int .i64 xo,.int .i64 xy,.int .i64 xv,.int .i64 xr] 69)).drew;have HW:=qh (hW.below b0);clear hW;have q2:(xk==2)=true:=by simp;omega
 have q3:(xk==3)=false:=by simp;omega
 have HK:=qh hk;clear hk;go_enter Tryz.func81,Tryz.ntmps81;go_wp2_with fail;generalize w.alloc (.cells #[.int .i64 xk,.int .i64 xx,.int .i64 xh,.int .i64 xj,.int .i64 xo,.int .i64 xy,.int .i64 xv,.int .i64 xr] 69)=W at *;have y0:=qa r0 0;have l0:=qd r0;simp at y0;refine qI (W.heap.size) [3,0,1,2,0] (.fin [1,2,0,3,4]) (by kernel_rfl) ?_;simp only[xi,qP,qA,sD,sE,sF,sG]
 repeat first|(refine qz fun K hK=>?_;go_simp;refine hK _ _ ?_;clear hK K)|(apply qC;(intro w2 hw2;have hk1:=hw2.cell;have hk3:=hw2.1;clear hw2;go_simp;with_reducible rfl);simp only[Act.put,sA,sB,sC])
 refine qG (fun K hK=>?_);go_simp;refine hf.mono ?_;rintro e W1 ⟨bm,rfl,hF,b1⟩;refine hK _ _ (RN.KeepsN.of_below b1) ?_;clear hK K hf;have b1:Below W.heap.size W W1:=(Below.refl _ W).drew.trans b1;have z1:=b1.size;obtain⟨M,bq,hM,hc,hc2,hc3,hq,hbm⟩:=hF;have hmk:M xk=some (.func (.func 183) #[] #[.pointer (some ⟨bq,0,none⟩)]):=by rw[HK.o];exact hc2
 have lk:=(hM.look Tryz.underlying3 Tryz.underlying256 (Yu W1) xk hmk).1;simp only[Option.getD_some] at lk;have r1:=qp r0 b1 l0;have eqn:Sem.run Tryz.prog (binOp BinOp.eql 255 (.func (.func 183) #[] #[.pointer (some ⟨bq,0,none⟩)]) Value.nilFunc) W1=.ok (.bool false) W1:=by kernel_rfl
 have HB:=qh (b0.trans (b1.mono b0.size));have b1x:=qh b1;have R1:=qh r1;have y:=qa r1;have y0:=y 0;have y1:=y 1;have y2:=y 2;have y3:=y 3;have y4:=y 4;have y5:=y 5;have y6:=y 6;have y7:=y 7;simp at y0 y1 y2 y3 y4 y5 y6 y7;clear y hM hc hc2 hc3 r0 b0 b1 hmk;refine qM (fun K hK=>?_);go_simp;refine hK _ _ ?_;clear hK K lk
 repeat first|(refine qz fun K hK=>?_;go_simp;refine hK _ _ ?_;clear hK K)|refine qu ?_
 go_wp2_with fail;refine(qay xo _).mono ?_;rintro e W5 ⟨he,hw5⟩;subst he;rw[hw5];clear hw5 W5;have qop:(jT xo==0)=true:=by simpa using hop
 have he3:=qx HB.o HGE.o HE.o;have hg3:15 < W1.heap.size:=by have:=HGE.o;have:=HB.o.size;omega
 go_wp2;refine bodyPost_ret (v:=vC) (by simp[results,Tryz.results81,go_sem]) rfl ⟨rfl,?_⟩;exact HB.o
theorem qeq (xk xx xh xj xo xy xv xr:Int) (hop:¬(1<=xr/\xr<=3)) (hdr:dI xr) (hk:xk=3) (vC:Value) (w:World) (hW:xu w) (hgC:15 < w.heap.size) (hC:w.cell? ⟨15,0,none⟩=some vC):
  Calls Tryz.prog 81 #[Xc ⟨xk,xx,xh,xj,xo,xy,xv,xr⟩] w (fun e w'=>e=.returned vC/\Below w.heap.size w w'):=by
 have HE:=qh hC;have HGE:=qh hgC;clear hC hgC;have b0:Below w.heap.size w (w.alloc (.cells #[.int .i64 xk,.int .i64 xx,.int .i64 xh,.int .i64 xj,.int .i64 xo,.int .i64 xy,.int .i64 xv,.int .i64 xr] 69)):=(Below.refl _ w).alloc (Nat.le_refl _) _;have r0:=qy w (.cells #[.int .i64 xk,.int .i64 xx,.int .i64 xh,.int .i64 xj,.int .i64 xo,.int .i64 xy,.int .i64 xv,.int .i64 xr] 69);have hf:=uq (w.alloc (.cells #[.int .i64 xk,.int .i64 xx,.int .i64 xh,.int .i64 xj,.int .i64 xo,.int .i64 xy,.int .i64 xv,.int .i64 xr] 69)).drew;have HW:=qh (hW.below b0);clear hW;have q2:(xk==2)=false:=by simp;omega
 have q3:(xk==3)=true:=by simp;omega
 have HK:=qh hk;clear hk;go_enter Tryz.func81,Tryz.ntmps81;go_wp2_with fail;generalize w.alloc (.cells #[.int .i64 xk,.int .i64 xx,.int .i64 xh,.int .i64 xj,.int .i64 xo,.int .i64 xy,.int .i64 xv,.int .i64 xr] 69)=W at *;have y0:=qa r0 0;have l0:=qd r0;simp at y0;refine qI (W.heap.size) [3,0,1,2,0] (.fin [1,2,0,3,4]) (by kernel_rfl) ?_;simp only[xi,qP,qA,sD,sE,sF,sG]
 repeat first|(refine qz fun K hK=>?_;go_simp;refine hK _ _ ?_;clear hK K)|(apply qC;(intro w2 hw2;have hk1:=hw2.cell;have hk3:=hw2.1;clear hw2;go_simp;with_reducible rfl);simp only[Act.put,sA,sB,sC])
 refine qG (fun K hK=>?_);go_simp;refine hf.mono ?_;rintro e W1 ⟨bm,rfl,hF,b1⟩;refine hK _ _ (RN.KeepsN.of_below b1) ?_;clear hK K hf;have b1:Below W.heap.size W W1:=(Below.refl _ W).drew.trans b1;have z1:=b1.size;obtain⟨M,bq,hM,hc,hc2,hc3,hq,hbm⟩:=hF;have hmk:M xk=some (.func (.func 188) #[] #[.pointer (some ⟨bq,0,none⟩)]):=by rw[HK.o];exact hc3
 have lk:=(hM.look Tryz.underlying3 Tryz.underlying256 (Yu W1) xk hmk).1;simp only[Option.getD_some] at lk;have r1:=qp r0 b1 l0;have eqn:Sem.run Tryz.prog (binOp BinOp.eql 255 (.func (.func 188) #[] #[.pointer (some ⟨bq,0,none⟩)]) Value.nilFunc) W1=.ok (.bool false) W1:=by kernel_rfl
 have HB:=qh (b0.trans (b1.mono b0.size));have b1x:=qh b1;have R1:=qh r1;have y:=qa r1;have y0:=y 0;have y1:=y 1;have y2:=y 2;have y3:=y 3;have y4:=y 4;have y5:=y 5;have y6:=y 6;have y7:=y 7;simp at y0 y1 y2 y3 y4 y5 y6 y7;clear y hM hc hc2 hc3 r0 b0 b1 hmk;refine qM (fun K hK=>?_);go_simp;refine hK _ _ ?_;clear hK K lk
 repeat first|(refine qz fun K hK=>?_;go_simp;refine hK _ _ ?_;clear hK K)|refine qu ?_
 go_wp2_with fail;obtain⟨s,hs,hsq⟩:∃s:ByteArray,Calls Tryz.prog 130 #[.int .i64 4,.int .i64 xr] W1 (fun e w'=>e=.returned (.string s)/\Below W1.heap.size W1 w')/\s.toList.isEmpty=true:=⟨_,Kx (HW.o.below (b1x.o)) xr hdr,by rw[Xr];simp;omega⟩
 refine hs.mono ?_;rintro e W5 ⟨he,b5⟩;subst he;have HB:=qh (HB.o.trans (b5.mono HB.o.size));have r1:=qp R1.o b5 (qd R1.o);have R1:=qh r1;have y:=qa r1;have y0:=y 0;have y1:=y 1;have y2:=y 2;have y3:=y 3;have y4:=y 4;have y5:=y 5;have y6:=y 6;have y7:=y 7;simp at y0 y1 y2 y3 y4 y5 y6 y7;clear y hs;have he3:=qx HB.o HGE.o HE.o;have hg3:15 < W5.heap.size:=by have:=HGE.o;have:=HB.o.size;omega
 go_wp2;refine bodyPost_ret (v:=vC) (by simp[results,Tryz.results81,go_sem]) rfl ⟨rfl,?_⟩;exact HB.o
def uM (x:Ev):Option (List Fd):=
 if x.kind=2 then(if jT x.op=0 then none else some (jx x.op))
 else if x.kind=3 then(if 1<=x.ret/\x.ret<=3 then some (Zx x.ret) else none)
 else if x.kind=1\/4<=x.kind/\x.kind < 8 then some (Xo x.kind) else none
def xP (x:Ev):Bool:=match uM x with
 |none=>false
 |some L=>L.all (jr x)&&XI x L
theorem qbW {x:Ev} {L:List Fd} (h:uM x=some L):qeZ L:=by
 unfold uM at h
 split at h
 ·split at h
  ·cases h
  ·cases h
   unfold jx;refine⟨fun f hf=>?_,?_⟩
   ·cases Qw x.op <;> cases jc x.op <;> simp at hf <;> rcases hf with h|h|h|h|h <;> simp[vL, *]
   ·cases Qw x.op <;> cases jc x.op <;> simp
 ·split at h
  ·split at h
   ·cases h
    unfold Zx;refine⟨fun f hf=>?_,?_⟩
    ·split at hf <;> simp at hf <;> rcases hf with h|h|h <;> simp[vL, *]
    ·split <;> simp
   ·cases h
  ·split at h
   ·cases h
    unfold Xo;refine⟨fun f hf=>?_,?_⟩
    ·split at hf <;> simp at hf <;> rcases hf with h|h <;> simp[vL, *]
    ·split <;> simp
   ·cases h
theorem ji (x:Ev) (hdr:dI x.ret) (w:World) (hW:xu w) (vC vE:Value)
  (hgC:15 < w.heap.size) (hC:w.cell? ⟨15,0,none⟩=some vC)
  (hgE:8 < w.heap.size) (hE:w.cell? ⟨8,0,none⟩=some vE):
  Calls Tryz.prog 81 #[Xc x] w fun e w'=>e=.returned (if xP x then .nilIface else if (uM x).isSome then vE else vC)/\Below w.heap.size w w':=by
 obtain⟨xk,xx,xh,xj,xo,xy,xv,xr⟩:=x;cases h:uM ⟨xk,xx,xh,xj,xo,xy,xv,xr⟩ with
 |none=>
  have hv:xP ⟨xk,xx,xh,xj,xo,xy,xv,xr⟩=false:=by unfold xP;rw[h]
  rw[hv];simp only[Bool.false_eq_true,if_false,Option.isSome_none];unfold uM at h;simp only at h
  split at h
  ·split at h
   ·exact qer xk xx xh xj xo xy xv xr ‹_› ‹_› vC w hW hgC hC
   ·cases h
  ·split at h
   ·split at h
    ·cases h
    ·exact qeq xk xx xh xj xo xy xv xr ‹_› hdr ‹_› vC w hW hgC hC
   ·split at h
    ·cases h
    ·exact qes xk xx xh xj xo xy xv xr (by omega) vC w hW hgC hC
 |some L=>
  have hL:=qbW h;have hv:(if xP ⟨xk,xx,xh,xj,xo,xy,xv,xr⟩ then Value.nilIface else if (some L).isSome then vE else vC)=yG ⟨xk,xx,xh,xj,xo,xy,xv,xr⟩ vE L:=by
   unfold xP yG;rw[h];rfl
  rw[hv];unfold uM at h;simp only at h
  split at h
  ·split at h
   ·cases h
   ·exact qcy xk xx xh xj xo xy xv xr ‹_› ‹_› L hL vE w hW hgE hE (Option.some.inj h).symm
  ·split at h
   ·split at h
    ·exact qcx xk xx xh xj xo xy xv xr ‹_› hdr ‹_› L hL vE w hW hgE hE (Option.some.inj h).symm
    ·cases h
   ·split at h
    ·exact qcz xk xx xh xj xo xy xv xr ‹_› L hL vE w hW hgE hE (Option.some.inj h).symm
    ·cases h
end
section
attribute [local irreducible] xE
def qcn (k:Int):Bool:=k==1||k==2
def Xt (o:Ob):Bool:=decide (1<=o.kind/\o.kind<=4)&&decide (-1000000000<=o.init)&&decide (o.init<=1000000000)&&(qcn o.kind||o.init==0)
theorem Uu (k n:Int) (hd:dI k) (w:World) (hW:xu w) (vO:Value) (hgO:3 < w.heap.size) (hO:w.cell? ⟨3,0,none⟩=some vO):
  Calls Tryz.prog 79 #[.agg #[.int .i64 k,.int .i64 n]] w fun e w'=>e=.returned (if Xt ⟨k,n⟩ then .nilIface else vO)/\Below w.heap.size w w':=by
 have b0:Below w.heap.size w (w.alloc (.cells #[.int .i64 k,.int .i64 n] 62)):=(Below.refl _ w).alloc (Nat.le_refl _) _;have hw1:=hW.below b0;obtain⟨s,hs,hsq⟩:∃s:ByteArray,Calls Tryz.prog 130 #[.int .i64 1,.int .i64 k] (w.alloc (.cells #[.int .i64 k,.int .i64 n] 62)) (fun e w'=>e=.returned (.string s)/\Below (w.alloc (.cells #[.int .i64 k,.int .i64 n] 62)).heap.size (w.alloc (.cells #[.int .i64 k,.int .i64 n] 62)) w')/\s.toList.isEmpty=!(decide (1<=k/\k<=4)):=⟨_,qct hw1 k hd,Us k⟩
 have r0:=qy w (.cells #[.int .i64 k,.int .i64 n] 62);have HS:=qh hs;have HSQ:=qh hsq;have HGO:=qh hgO;have HO:=qh hO;clear hs hw1 hsq hgO hO;go_enter Tryz.func79,Tryz.ntmps79;obtain⟨h1,hh1⟩:∃b,(k==1)=b:=⟨_,rfl⟩
 obtain⟨h2,hh2⟩:∃b,(k==2)=b:=⟨_,rfl⟩
 obtain⟨h3,hh3⟩:∃b,decide (n < -1000000000)=b:=⟨_,rfl⟩
 obtain⟨h4,hh4⟩:∃b,decide (n > 1000000000)=b:=⟨_,rfl⟩
 obtain⟨h5,hh5⟩:∃b,(n==0)=b:=⟨_,rfl⟩
 obtain⟨h6,hh6⟩:∃b,decide (1<=k/\k<=4)=b:=⟨_,rfl⟩
 have hh4':decide (1000000000 < n)=h4:=hh4;have hh5':(n !=0)=!h5:=by rw[←hh5];rfl
 have hv:Xt ⟨k,n⟩=(h6&&!h3&&!h4&&(h1||h2||h5)):=by
  unfold Xt qcn;simp only;have e3:decide (-1000000000<=n)=!h3:=by
   rw[←hh3];by_cases q:n < -1000000000
   ·simp [q]
   ·simp [q];omega
  have e4:decide (n<=1000000000)=!h4:=by
   rw[←hh4];by_cases q:n > 1000000000
   ·simp [q]
   ·simp [q];omega
  rw[hh1,hh2,hh5,hh6,e3,e4]
 have hsq:=HSQ.o;rw[hh6] at hsq;rw[hv];obtain⟨V,hV⟩:∃V,V=(if (h6&&!h3&&!h4&&(h1||h2||h5))=true then Value.nilIface else vO):=⟨_,rfl⟩
 rw[←hV];have HV:=qh hV;clear hv hV HSQ hh6;cases h1 <;> cases h2 <;>
 ·go_wp2_with fail
  generalize w.alloc (.cells #[.int .i64 k,.int .i64 n] 62)=W at *;refine(HS.o).mono ?_;rintro e W1 ⟨rfl,b1⟩;have r1:=qp r0 b1 (qd r0);have y0:=qa r1 0;have y1:=qa r1 1;simp at y0 y1;have l1:=qd r1;have B1:=qh (b0.trans (b1.mono b0.size));have he3:=qx B1.o HGO.o HO.o;have hg3:3 < W1.heap.size:=by have:=HGO.o;have:=B1.o.size;omega
  clear b1 r1 r0 b0 HS;cases h6 <;> cases h3 <;> cases h4 <;> cases h5 <;>
  ·have hV:=HV.o
   simp at hV;subst hV;clear HV;go_wp2
   all_goals
    refine bodyPost_ret (v:=_) ?_ rfl ⟨rfl,B1.o⟩;simp[results,Tryz.results79,go_sem]
end
section
attribute [local irreducible] xE
theorem Uv (n:Int) (h1:-1000000000<=n) (h2:n<=1000000000) (w:World) (hW:yR w):Calls Tryz.prog 79 #[.agg #[.int .i64 1,.int .i64 n]] w (qgr w):=by
 have b0:Below w.heap.size w (w.alloc (.cells #[.int .i64 1,.int .i64 n] 62)):=(Below.refl _ w).alloc (Nat.le_refl _) _;have hw1:=hW.below b0;have hs:Calls Tryz.prog 130 #[.int .i64 1,.int .i64 1] (w.alloc (.cells #[.int .i64 1,.int .i64 n] 62)) _:=vk (i:=0) (by omega) hw1.reg (by have:=hw1.big;omega);have r0:=qy w (.cells #[.int .i64 1,.int .i64 n] 62);have q1:decide (n < -1000000000)=false:=by simp;omega
 have q2:decide (n > 1000000000)=false:=by simp;omega
 have q3:decide (1000000000 < n)=false:=by simp;omega
 have HS:=qh hs;have hb:ByteArray.toList ⟨#[114,101,103,105,115,116,101,114]⟩=[114,101,103,105,115,116,101,114]:=by rw[yW]
 clear hs hw1;go_enter Tryz.func79,Tryz.ntmps79;go_wp2_with fail;generalize w.alloc (.cells #[.int .i64 1,.int .i64 n] 62)=W at *;refine(HS.o).mono ?_;rintro e W1 ⟨rfl,b1⟩;have r1:=qp r0 b1 (qd r0);have y0:=qa r1 0;have y1:=qa r1 1;simp at y0 y1;have l1:=qd r1;have B1:=qh (b0.trans (b1.mono b0.size));clear b1 r1 r0 b0 HS;go_wp2;go_ret;exact⟨rfl,B1.o⟩
end
section
attribute [local irreducible] xE
def Ra (os:List Ob):Prop:=os.length<=8/\∀o ∈ os,o.kind=1/\-1000000000<=o.init/\o.init<=1000000000
end
section
attribute [local irreducible] xE
def jz (w:World) (g:Nat):Prop:=g < w.heap.size/\∃t x,w.cell? ⟨g,0,none⟩=some (.iface t x)
theorem jz.below {w w':World} {g:Nat} (h:jz w g) (hb:Below w.heap.size w w'):jz w' g:=let ⟨h1,t,x,h2⟩:=h;⟨by have:=hb.size;omega,t,x,qx hb h1 h2⟩
structure Ul (w:World):Prop where
 code:jz w 15
 event:jz w 8
 object:jz w 3
 op:jz w 7
 many:jz w 4
theorem Ul.below {w w':World} (h:Ul w) (hb:Below w.heap.size w w'):Ul w':=⟨h.code.below hb,h.event.below hb,h.object.below hb,h.op.below hb,h.many.below hb⟩
def Un (os:List Ob) (x:Ev):Bool:=xP x&&(x.kind !=2||(match os[x.obj.toNat]? with
 |some o=>jT x.op==o.kind
 |none=>false))
def yz (os:List Ob) (es:List Ev):Bool:=decide (os.length<=8)&&decide (es.length<=400)&&os.all Xt&&es.all (Un os)
def Ug (b:Bool) (w:World) (e:Ending) (w':World):Prop:=(∃v,e=.returned v/\(b=true->v=.nilIface)/\(b=false->∃t x,v=.iface t x))/\Below w.heap.size w w'
theorem ZL (i:Int) (t:TypeId) (x:Value) (w:World):Calls Tryz.prog 80 #[.int .i64 i,.iface t x] w fun e w'=>(∃t x,e=.returned (.iface t x))/\Below w.heap.size w w':=by
 go_enter Tryz.func80,Tryz.ntmps80;go_wp2;go_ret;exact⟨⟨_,_,rfl⟩,(Below.refl _ w).alloc (Nat.le_refl _) _⟩
end
section
attribute [local irreducible] xE
theorem UI {x:Ev} (h:xP x=true) (hk:x.kind=2):0<=x.obj/\x.obj<=7:=by
 unfold xP uM at h;rw[if_pos hk] at h
 split at h
 ·cases h
 ·rename_i L hL
  split at hL
  ·cases hL
  ·cases hL
   simp only[Bool.and_eq_true,List.all_eq_true] at h;have:=h.1 xS (by unfold jx;simp);unfold jr at this;simp only[Bool.and_eq_true,decide_eq_true_eq] at this;exact this
theorem Ue {α:Type} {p:α->Bool} {l:List α} {i:Nat} {x:α} (h:∀y ∈ l.take i,p y=true) (hx:l[i]?=some x) (hp:p x=true):∀y ∈ l.take (i+1),p y=true:=fun y hy=>by
 rw[List.take_add_one,hx] at hy;rcases List.mem_append.1 hy with hy|hy
 ·exact h y hy
 ·simp at hy;rw[hy];exact hp
theorem ZN {α:Type} {p:α->Bool} {l:List α} {i:Nat} {x:α} (hx:l[i]?=some x) (hp:p x=false):l.all p=false:=by
 rw[List.all_eq_false];exact⟨x,List.mem_of_getElem? hx,by rw[hp];decide⟩
theorem KV {α:Type} {p:α->Bool} {l:List α} (h:∀y ∈ l.take l.length,p y=true):l.all p=true:=by
 rw[List.take_length] at h;rw[List.all_eq_true];exact h
theorem Ug.err {b:Bool} {w w':World} {t:TypeId} {x:Value} (hb:b=false) (h:Below w.heap.size w w'):Ug b w (.returned (.iface t x)) w':=⟨⟨_,rfl,fun h=>absurd (hb.symm.trans h) (by decide),fun _=>⟨_,_,rfl⟩⟩,h⟩
theorem Ug.nil {b:Bool} {w w':World} (hb:b=true) (h:Below w.heap.size w w'):Ug b w (.returned .nilIface) w':=⟨⟨_,rfl,fun _=>rfl,fun h=>absurd (hb.symm.trans h) (by decide)⟩,h⟩
theorem JH (ov vv:Value) (os:List Ob) (es:List Ev) (w:World) (ho:Sl w w.heap.size 2 ov os.length (os.flatMap Ob.cells)) (he:Sl w w.heap.size 8 vv es.length (es.flatMap Ev.cells)) (hod:∀o ∈ os,dI o.kind) (hed:∀e ∈ es,dI e.ret) (hW:xu w) (hG:Ul w):
  Calls Tryz.prog 46 #[.agg #[ov,vv]] w (Ug (yz os es) w):=by
 obtain⟨ao,co,rfl,mo⟩:=ho.ex;obtain⟨ae,ce,rfl,me⟩:=he.ex;have HO:=qh ho;have HE:=qh he;have HOD:=qh hod;have HED:=qh hed;have HW:=qh hW;have HG:=qh hG;have b0:Below w.heap.size w (w.alloc (.cells #[.slice ao os.length co,.slice ae es.length ce] 25)):=(Below.refl _ w).alloc (Nat.le_refl _) _;have r0:=qy w (.cells #[.slice ao os.length co,.slice ae es.length ce] 25);clear ho he hod hed hW hG;by_cases hr8:os.length<=8/\es.length<=400
 case neg=>
  have hf:yz os es=false:=by
   unfold yz;rcases Decidable.not_and_iff_or_not.1 hr8 with h|h <;> simp[h]
  obtain⟨hgm,t,x,hm⟩:=(HG.o.below b0).many;have hgm0:=HG.o.many.1;by_cases h8:os.length<=8
  ·have q1:decide (8 < os.length)=false:=by simp;omega
   have q2:decide (400 < es.length)=true:=by simp;omega
   go_enter Tryz.func46,Tryz.ntmps46;go_wp2_with fail;refine bodyPost_ret (v:=.iface t x) (by simp[results,Tryz.results46,go_sem]) rfl (.err (by first|exact hf|rfl) b0)
  ·have q1:decide (8 < os.length)=true:=by simp;omega
   go_enter Tryz.func46,Tryz.ntmps46;go_wp2_with fail;refine bodyPost_ret (v:=.iface t x) (by simp[results,Tryz.results46,go_sem]) rfl (.err (by first|exact hf|rfl) b0)
 obtain⟨hr8,hr4⟩:=hr8;have q1:decide (8 < os.length)=false:=by simp;omega
 have q2:decide (400 < es.length)=false:=by simp;omega
 go_enter Tryz.func46,Tryz.ntmps46;go_wp2_with fail;have hz0:w.heap.size < (w.alloc (.cells #[.slice ao os.length co,.slice ae es.length ce] 25)).heap.size:=by simp
 generalize w.alloc (.cells #[.slice ao os.length co,.slice ae es.length ce] 25)=W at *;have R0:=qh r0;have B0:=qh b0;clear r0 b0
 go_loopw [23] (fun p wr=>∃i:Nat,i<=os.length/\p=.int .i64 i/\(∀o ∈ os.take i,Xt o=true)/\Below W.heap.size W wr) (fun p _=>os.length - (intOf p).toNat)
 case atStart=>exact⟨0,by omega,by go_num,by simp,Below.refl _ _⟩
 case round=>
  obtain⟨i,hi,rfl,hpre,hB⟩:=hrel;have HPRE:=qh hpre;have hz:=hB.size;have HB:=qh hB;clear hB hpre;by_cases hlt:i < os.length
  ·obtain ⟨b,off,x,hat,hb,hx,hc⟩:=HO.o.atF Ob.len rfl hlt
   have c0:=qx ((B0.o.trans (HB.o.mono (by omega)))) hb (hc 0 (by decide));have c1:=qx ((B0.o.trans (HB.o.mono (by omega)))) hb (hc 1 (by decide));have hdx:=HOD.o x (List.mem_of_getElem? hx);obtain⟨xk,xn⟩:=x;simp only at hdx;simp at c0 c1;have hbw:b < wr.heap.size:=by omega
   subst hat;have HX:=qh hx;clear hx hc;have bz:Below wr.heap.size wr (wr.alloc (.cells #[.int .i64 xk,.int .i64 xn] 62)):=(Below.refl _ wr).alloc (Nat.le_refl _) _;obtain⟨hgo,te,xe,heo⟩:=(((HG.o.below B0.o).below (HB.o.trans (bz.mono hz)))).object;have hv:=qh (Uu xk xn hdx (wr.alloc (.cells #[.int .i64 xk,.int .i64 xn] 62)) ((HW.o.below B0.o).below (HB.o.trans (bz.mono hz))) _ hgo heo);have BZ:=qh bz;clear bz hgo heo;cases hval:Xt ⟨xk,xn⟩ with
   |true=>
    rw[hval] at hv;go_wp2_with fail;generalize wr.alloc (.cells #[.int .i64 xk,.int .i64 xn] 62)=W1 at *;refine(hv.o).mono ?_;rintro e W2 ⟨he,b2⟩;subst he;have B2:=qh ((HB.o.trans (BZ.o.mono hz)).trans (b2.mono (by have:=BZ.o.size;omega)));clear b2 hv;go_wp2_with fail;go_roundw
    case rel=>exact⟨i+1,by omega,by go_num,Ue HPRE.o HX.o hval,B2.o⟩
    case measure=>simp[intOf];omega
   |false=>
    rw[hval] at hv;have hf:yz os es=false:=by unfold yz;rw[ZN HX.o hval];simp
    go_wp2_with fail;generalize wr.alloc (.cells #[.int .i64 xk,.int .i64 xn] 62)=W1 at *;refine(hv.o).mono ?_;rintro e W2 ⟨he,b2⟩;subst he;have B2:=qh ((HB.o.trans (BZ.o.mono hz)).trans (b2.mono (by have:=BZ.o.size;omega)));clear b2 hv;simp only[Bool.false_eq_true,if_false];go_wp2_with fail;refine(ZL i te xe W2).mono ?_;rintro e W5 ⟨⟨t5,x5,rfl⟩,b5⟩;go_wp2_with fail;refine bodyPost_ret (v:=.iface t5 x5) (by simp[results,Tryz.results46,go_sem]) rfl (.err hf ?_);exact B0.o.trans (((B2.o.trans (b5.mono B2.o.size))).mono B0.o.size)
  ·obtain rfl:i=os.length:=by omega
   have hallo:=KV HPRE.o;have r0:=qp R0.o HB.o hz0;have y0:=qa r0 0;have y1:=qa r0 1;simp at y0 y1;have l0:=qd r0;clear r0;go_wp2_with fail;have B1:=qh (B0.o.trans (HB.o.mono (by omega)));have hz1:W.heap.size<=wr.heap.size:=hz;obtain⟨W2,rfl⟩:∃W2,W2=wr:=⟨_,rfl⟩
   have R1:=qh (qp R0.o HB.o hz0);clear y0 y1 l0 R0 HB hz hi B0 HPRE
   go_loopw [39] (fun p wr=>∃i:Nat,i<=es.length/\p=.int .i64 i/\(∀e ∈ es.take i,Un os e=true)/\Below W2.heap.size W2 wr) (fun p _=>es.length - (intOf p).toNat)
   case atStart=>exact⟨0,by omega,by go_num,by simp,Below.refl _ _⟩
   case round=>
    obtain⟨i,hi,rfl,hpre,hB⟩:=hrel;have HPRE:=qh hpre;have hz:=hB.size;have HB:=qh hB;clear hB hpre;by_cases hlt:i < es.length
    ·obtain ⟨b,off,x,hat,hb,hx,hc⟩:=HE.o.atF Ev.len rfl hlt
     have BW:=qh (B1.o.trans (HB.o.mono (by omega)));have c0:=qx BW.o hb (hc 0 (by decide));have c1:=qx BW.o hb (hc 1 (by decide));have c2:=qx BW.o hb (hc 2 (by decide));have c3:=qx BW.o hb (hc 3 (by decide));have c4:=qx BW.o hb (hc 4 (by decide));have c5:=qx BW.o hb (hc 5 (by decide));have c6:=qx BW.o hb (hc 6 (by decide));have c7:=qx BW.o hb (hc 7 (by decide));have hdx:=HED.o x (List.mem_of_getElem? hx);have HX:=qh hx;obtain⟨xk,xx,xh,xj,xo,xy,xv,xr⟩:=x;simp only at hdx;simp at c0 c1 c2 c3 c4 c5 c6 c7;have hbw:b < wr.heap.size:=by omega
     subst hat;clear hx hc;have bz:Below wr.heap.size wr (wr.alloc (.cells #[.int .i64 xk,.int .i64 xx,.int .i64 xh,.int .i64 xj,.int .i64 xo,.int .i64 xy,.int .i64 xv,.int .i64 xr] 69)):=(Below.refl _ wr).alloc (Nat.le_refl _) _;have rz:=qy wr (.cells #[.int .i64 xk,.int .i64 xx,.int .i64 xh,.int .i64 xj,.int .i64 xo,.int .i64 xy,.int .i64 xv,.int .i64 xr] 69);have hgz:=(HG.o.below B1.o).below (HB.o.trans (bz.mono hz));obtain⟨hgc,tc,xc,hec⟩:=hgz.code;obtain⟨hge,te,xe,hee⟩:=hgz.event;have hv:=qh (ji ⟨xk,xx,xh,xj,xo,xy,xv,xr⟩ hdx (wr.alloc (.cells #[.int .i64 xk,.int .i64 xx,.int .i64 xh,.int .i64 xj,.int .i64 xo,.int .i64 xy,.int .i64 xv,.int .i64 xr] 69)) ((HW.o.below B1.o).below (HB.o.trans (bz.mono hz))) _ _ hgc hec hge hee);have BZ:=qh bz;have RZ:=qh rz;clear bz rz hgc hec hge hee hgz;cases hval:xP ⟨xk,xx,xh,xj,xo,xy,xv,xr⟩ with
     |false=>
      rw[hval] at hv;have hf:yz os es=false:=by unfold yz;rw[ZN (p:=Un os) HX.o (by unfold Un;rw[hval];rfl)];simp
      obtain⟨tv,xv',hvv⟩:∃t x,(if false=true then Value.nilIface else if (uM ⟨xk,xx,xh,xj,xo,xy,xv,xr⟩).isSome=true then .iface te xe else .iface tc xc)=.iface t x:=by
       cases (uM ⟨xk,xx,xh,xj,xo,xy,xv,xr⟩).isSome
       ·exact ⟨_,_,rfl⟩
       ·exact ⟨_,_,rfl⟩
      rw[hvv] at hv;go_wp2_with fail;generalize wr.alloc (.cells #[.int .i64 xk,.int .i64 xx,.int .i64 xh,.int .i64 xj,.int .i64 xo,.int .i64 xy,.int .i64 xv,.int .i64 xr] 69)=W3 at *;refine(hv.o).mono ?_;rintro e W4 ⟨he,b2⟩;subst he;have hz3:=BZ.o.size;have B2:=qh ((HB.o.trans (BZ.o.mono hz)).trans (b2.mono (by omega)));clear b2 hv;go_wp2_with fail;refine(ZL i tv xv' W4).mono ?_;rintro e W5 ⟨⟨t5,x5,rfl⟩,b5⟩;go_wp2_with fail;refine bodyPost_ret (v:=.iface t5 x5) (by simp[results,Tryz.results46,go_sem]) rfl (.err hf ?_);exact B1.o.trans (((B2.o.trans (b5.mono B2.o.size))).mono B1.o.size)
     |true=>
      rw[hval] at hv;go_wp2_with fail;generalize wr.alloc (.cells #[.int .i64 xk,.int .i64 xx,.int .i64 xh,.int .i64 xj,.int .i64 xo,.int .i64 xy,.int .i64 xv,.int .i64 xr] 69)=W3 at *;refine(hv.o).mono ?_;rintro e W4 ⟨he,b2⟩;subst he;have hz3:=BZ.o.size;have B2:=qh ((HB.o.trans (BZ.o.mono hz)).trans (b2.mono (by omega)));have BX:=qh (BW.o.trans ((BZ.o.trans (b2.mono hz3)).mono (by omega)));have r4:=qp RZ.o b2 (qd RZ.o);have l4:=qd r4;have y:=qa r4;have y0:=y 0;have y3:=y 3;have y4:=y 4;simp at y0 y3 y4;have rh:=qp R1.o B2.o (qd R1.o);have lh:=qd rh;have h0:=qa rh 0;simp at h0;clear y r4 b2 hv c0 c1 c2 c3 c4 c5 c6 c7 rh;by_cases hk:xk=2
      ·subst hk
       obtain⟨hj0,hj7⟩:=UI hval rfl;simp only at hj0 hj7;obtain⟨c,rfl⟩:∃c:Nat,xj=c:=⟨xj.toNat,by omega⟩
       obtain⟨hgo,tq,xq,heq⟩:=(HG.o.below B1.o).below B2.o |>.object;obtain⟨hgp,tp,xp,hep⟩:=(HG.o.below B1.o).below B2.o |>.op;by_cases hcl:c < os.length
       case neg=>
        have hf:yz os es=false:=by
         unfold yz;rw[ZN (p:=Un os) HX.o (by unfold Un;simp only[Int.toNat_natCast];rw[List.getElem?_eq_none (by omega)];simp)];simp
        have q5:decide (os.length<=c)=true:=by simp;omega
        go_wp2_with fail;refine(ZL i tq xq W4).mono ?_;rintro e W5 ⟨⟨t5,x5,rfl⟩,b5⟩;go_wp2_with fail;refine bodyPost_ret (v:=.iface t5 x5) (by simp[results,Tryz.results46,go_sem]) rfl (.err hf ?_);exact B1.o.trans (((B2.o.trans (b5.mono B2.o.size))).mono B1.o.size)
       obtain⟨b',off',o,hat',hb',hx',hc'⟩:=HO.o.atF Ob.len rfl hcl;have k0:=qx BX.o hb' (hc' 0 (by decide));obtain⟨ok,on⟩:=o;simp at k0;have hzB:=BX.o.size;have hbw':b' < W4.heap.size:=by omega
       have q5:decide (os.length<=c)=false:=by simp;omega
       subst hat';have HX':=qh hx';clear hx' hc';go_wp2_with fail;have Z4:=qh (Below.refl W4.heap.size W4);have HDR:=qh B2.o.drew;refine qI (W4.heap.size) [0,1,3,0,1,0,1,0,0,1,0] (.fin [0,1,3,4,5,6,7,8,9,2,10]) (by kernel_rfl) ?_;simp only[xi,qP,qA,sD,sE,sF,sG]
       repeat first|(refine qz fun K hK=>?_;go_simp;refine hK _ _ ?_;clear hK K)|(apply qC;(intro w2 hw2;have hk1:=hw2.cell;have hk3:=hw2.1;clear hw2;go_simp;with_reducible rfl);simp only[Act.put,sA,sB,sC])
       refine qG (fun K hK=>?_);go_simp;refine(qay xo _).mono ?_;rintro e W5 ⟨he,hw5⟩;subst he;refine hK _ _ (by rw[hw5];exact RN.KeepsN.of_below (Below.refl _ _)) ?_;clear hK K;rw[hw5];clear hw5 W5
       repeat first|(refine qz fun K hK=>?_;go_simp;refine hK _ _ ?_;clear hK K)|refine qu ?_
       cases hop:(jT xo==ok) with
       |true=>
        have q7:(jT xo !=ok)=false:=by show(!(jT xo==ok))=false;rw[hop];rfl
        go_wp2_with fail;go_roundw
        case rel=>exact⟨i+1,by omega,by go_num,Ue HPRE.o HX.o (by unfold Un;simp only[Int.toNat_natCast];rw[hval,HX'.o];simp[hop]),HDR.o⟩
        case measure=>simp[intOf];omega
       |false=>
        have q7:(jT xo !=ok)=true:=by show(!(jT xo==ok))=true;rw[hop];rfl
        have hf:yz os es=false:=by
         unfold yz;rw[ZN (p:=Un os) HX.o (by unfold Un;simp only[Int.toNat_natCast];rw[hval,HX'.o];simp[hop])];simp
        go_wp2_with fail;refine(ZL i tp xp _).mono ?_;rintro e W5 ⟨⟨t5,x5,rfl⟩,b5⟩;go_wp2_with fail;refine bodyPost_ret (v:=.iface t5 x5) (by simp[results,Tryz.results46,go_sem]) rfl (.err hf ?_);exact B1.o.trans (((HDR.o.trans (b5.mono HDR.o.size))).mono B1.o.size)
      ·have q5:(xk==2)=false:=by simpa using hk
       have q6:(xk !=2)=true:=by simpa using hk
       go_wp2_with fail;go_roundw
       case rel=>exact⟨i+1,by omega,by go_num,Ue HPRE.o HX.o (by unfold Un;rw[hval];simp[hk]),B2.o⟩
       case measure=>simp[intOf];omega
    ·obtain rfl:i=es.length:=by omega
     have halle:=KV HPRE.o;go_wp2;go_ret;refine .nil (by unfold yz;rw[hallo,halle];simp[hr8,hr4]) ?_;exact B1.o.trans (HB.o.mono B1.o.size)
end
