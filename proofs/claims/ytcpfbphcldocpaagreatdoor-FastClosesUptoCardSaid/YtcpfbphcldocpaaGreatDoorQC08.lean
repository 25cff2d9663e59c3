/- Parts of the proof; the first: Events of all kinds of objects: which may be, of those that have a list of fields. Conditions: those of each theorem, as typed. -/
import Derived.Test.YtcpfbphcldocpaaGreatDoorQC05
import Derived.Test.YtcpfbphcldocpaaGreatDoorQC06
import Derived.Test.YtcpfbphcldocpaaGreatDoorQC07
set_option linter.unusedVariables false
set_option linter.unusedSimpArgs false
set_option linter.unusedSectionVars false
set_option maxRecDepth 100000
set_option maxHeartbeats 4000000
namespace Go.Proofs.YtcpfbphcldocpaaGreatDoor
open Go.Maps Go.RowKit
section
attribute [local irreducible] xL
def vp:List Fd:=[qB,xm,xW,yu,XC,jV,qO]
def xT (f:Fd):Nat:=if f.f=218 then 5 else Wg f
theorem Ro {f:Fd} (h:f ∈ Qz):xT f=Wg f:=by
 simp only[Qz,List.mem_cons,List.not_mem_nil,or_false] at h;rcases h with rfl|rfl|rfl|rfl|rfl|rfl <;> rfl
theorem QV {f:Fd}:f ∈ vp↔f=XC\/f ∈ Qz:=by
 simp only[vp,Qz,List.mem_cons,List.not_mem_nil,or_false];constructor
 ·rintro (h|h|h|h|h|h|h) <;> simp[h]
 ·rintro (h|h|h|h|h|h|h) <;> simp[h]
theorem KN {f:Fd} (h:f ∈ vp) (b:Nat) (w:World):Calls Tryz.prog f.f #[.pointer (some ⟨b,0,none⟩)] w fun e w'=>e=.returned (.pointer (some ⟨b,xT f,none⟩))/\w'=w:=by
 rcases QV.1 h with rfl|h
 ·exact e_key1 b w
 ·rw [Ro h];exact fd_of h b w
theorem KU {f:Fd} (h:f ∈ vp) (args:Array Value) (X:World):Sem.run Tryz.prog (callFunc f.f args) X=.ok (.enter f.f args) X:=by
 rcases QV.1 h with rfl|h
 ·kernel_rfl
 ·exact cf_of h args X
theorem jU {f:Fd} (h:f ∈ vp):1<=xT f/\xT f < 8:=by
 rcases QV.1 h with rfl|h
 ·decide
 ·rw [Ro h];exact off_lt h
def zc (cs:List Value) (l:List Fd):List Value:=l.foldl (fun cs f=>cs.set (xT f) (.int .i64 0)) cs
theorem QJ (cs:List Value) (l:List Fd) (f:Fd):zc cs (l++[f])=(zc cs l).set (xT f) (.int .i64 0):=by simp[zc,List.foldl_append]
theorem XO (cs:List Value):∀(l:List Fd),(zc cs l).length=cs.length:=fun l=>by
 induction l generalizing cs with
 |nil=>rfl
 |cons f l ih=>show(zc (cs.set _ _) l).length=_;rw[ih,List.length_set]
def vU (x:Ev):Nat->Int
 |0=>x.kind
 |1=>x.tx
 |2=>x.thread
 |3=>x.obj
 |4=>x.op
 |5=>x.key
 |6=>x.val
 |_=>x.ret
theorem ZG (x:Ev) {j:Nat} (h:j < 8):x.cells[j]?=some (.int .i64 (vU x j)):=by
 match j,h with
 |0,_=>rfl
 |1,_=>rfl
 |2,_=>rfl
 |3,_=>rfl
 |4,_=>rfl
 |5,_=>rfl
 |6,_=>rfl
 |7,_=>rfl
def vh (x:Ev) (l:List Fd) (j:Nat):Int:=if j=0\/j ∈ l.map xT then 0 else vU x j
theorem JT (x:Ev):∀(l:List Fd) (cs:List Value),cs.length=8->(∀f ∈ l,xT f < 8)->∀(g:Nat->Int),(∀j,j < 8->cs[j]?=some (.int .i64 (g j)))->∀j,j < 8->(zc cs l)[j]?=some (.int .i64 (if j ∈ l.map xT then 0 else g j))
 |[],cs,hc,ho,g,h,j,hj=>by simpa[zc] using h j hj
 |f::l,cs,hc,ho,g,h,j,hj=>by
  have:=JT x l (cs.set (xT f) (.int .i64 0)) (by rw[List.length_set];exact hc) (fun q hq=>ho q (List.mem_cons_of_mem _ hq)) (fun i=>if i=xT f then 0 else g i) (fun i hi=>by
   by_cases e:i=xT f
   ·subst e;rw[List.getElem?_set_self (by omega)];simp
   ·rw [List.getElem?_set_ne (fun q=>e q.symm),h i hi];simp[e]) j hj
  refine this.trans ?_;by_cases e:j=xT f
  ·simp [e]
  ·simp [e]
theorem XW (x:Ev) {l:List Fd} (ho:∀f ∈ l,xT f < 8) {j:Nat} (hj:j < 8):(zc (jH x) l)[j]?=some (.int .i64 (vh x l j)):=by
 have:=JT x l (jH x) rfl ho (fun j=>if j=0 then 0 else vU x j) (fun i hi=>by
  match i,hi with
  |0,_=>rfl
  |1,_=>rfl
  |2,_=>rfl
  |3,_=>rfl
  |4,_=>rfl
  |5,_=>rfl
  |6,_=>rfl
  |7,_=>rfl) j hj
 refine this.trans ?_;unfold vh;by_cases e:j=0
 ·simp [e]
 ·simp [e]
def jt (x:Ev) (f:Fd):Bool:=decide (f.lo<=vU x (xT f))&&decide (vU x (xT f)<=f.hi)
def QX (x:Ev) (L:List Fd):Bool:=(List.range 8).all fun j=>vh x L j==0
structure FdsG (L:List Fd):Prop where
 all:∀f ∈ L,f ∈ vp
 len:L.length<=10
def yD (x:Ev) (vE:Value) (L:List Fd):Value:=if L.all (jt x)&&QX x L then .nilIface else vE
def ValRG (w:World) (x:Ev) (vE:Value) (L:List Fd) (e:Ending) (w':World):Prop:=e=.returned (yD x vE L)/\Below w.heap.size w w'
theorem uE {x:Ev} {L:List Fd}:QX x L=true↔∀j,j < 8->vh x L j=0:=by unfold QX;simp
theorem Jc {p:Fd->Bool} {L:List Fd} {i:Nat} (h:∀f ∈ L.take i,p f=true) (hi:i=L.length):L.all p=true:=by
 rw[List.all_eq_true];intro f hf;rw[hi,List.take_length] at h;exact h f hf
theorem g_Valid1 (xk xx xh xj xo xy xv xr:Int) (hk:xk=1\/4<=xk/\xk < 8) (L:List Fd) (hL:FdsG L) (vE:Value) (w:World) (hW:xg w) (hgE:8 < w.heap.size) (hE:w.cell? ⟨8,0,none⟩=some vE) (hL1:L=XB xk):
  Calls Tryz.prog 81 #[Ql ⟨xk,xx,xh,xj,xo,xy,xv,xr⟩] w (ValRG w ⟨xk,xx,xh,xj,xo,xy,xv,xr⟩ vE L):=by
 have HE:=qd hE;have HGE:=qd hgE;clear hE hgE;have b0:Below w.heap.size w (w.alloc (.cells #[.int .i64 xk,.int .i64 xx,.int .i64 xh,.int .i64 xj,.int .i64 xo,.int .i64 xy,.int .i64 xv,.int .i64 xr] 69)):=(Below.refl _ w).alloc (Nat.le_refl _) _;have r0:=qs w (.cells #[.int .i64 xk,.int .i64 xx,.int .i64 xh,.int .i64 xj,.int .i64 xo,.int .i64 xy,.int .i64 xv,.int .i64 xr] 69);have hf:=jY (w.alloc (.cells #[.int .i64 xk,.int .i64 xx,.int .i64 xh,.int .i64 xj,.int .i64 xo,.int .i64 xy,.int .i64 xv,.int .i64 xr] 69)).drew;have HW:=qd (hW.below b0);have HL:=qd hL;clear hW hL;have q2:(xk==2)=false:=by simp;omega
 have q3:(xk==3)=false:=by simp;omega
 go_enter Tryz.func81,Tryz.ntmps81;go_wp2_with fail;generalize w.alloc (.cells #[.int .i64 xk,.int .i64 xx,.int .i64 xh,.int .i64 xj,.int .i64 xo,.int .i64 xy,.int .i64 xv,.int .i64 xr] 69)=W at *;have y0:=qa r0 0;have l0:=qe r0;simp at y0;refine qD (W.heap.size) [3,0,1,2,0] (.fin [1,2,0,3,4]) (by kernel_rfl) ?_;simp only[xC,qJ,qu,sD,sE,sF,sG]
 repeat first|(refine qq fun K hK=>?_;go_simp;refine hK _ _ ?_;clear hK K)|(apply qx;(intro w2 hw2;have hk1:=hw2.cell;have hk3:=hw2.1;clear hw2;go_simp;with_reducible rfl);simp only[Act.put,sA,sB,sC])
 refine qC (fun K hK=>?_);go_simp;refine hf.mono ?_;rintro e W1 ⟨bm,rfl,hF,b1⟩;refine hK _ _ (RN.KeepsN.of_below b1) ?_;clear hK K hf;have b1:Below W.heap.size W W1:=(Below.refl _ W).drew.trans b1;have z1:=b1.size;obtain⟨M,bq,hM,hc,hc2,hc3,hq,hbm⟩:=hF;obtain⟨v,hmk,bl,sv,rfl,hbl,hsv⟩:=hc xk hk;have lk:=(hM.look Tryz.underlying3 Tryz.underlying256 (XK W1) xk hmk).1;simp only[Option.getD_some] at lk;have r1:=qh r0 b1 l0;have eqn:Sem.run Tryz.prog (binOp BinOp.eql 255 (.func (.func 180) #[] #[.pointer (some ⟨bl,0,none⟩)]) Value.nilFunc) W1=.ok (.bool false) W1:=by kernel_rfl
 have HB:=qd (b0.trans (b1.mono b0.size));have b1x:=qd b1;have R1:=qd r1;have y:=qa r1;have y0:=y 0;have y1:=y 1;have y2:=y 2;have y3:=y 3;have y4:=y 4;have y5:=y 5;have y6:=y 6;have y7:=y 7;simp at y0 y1 y2 y3 y4 y5 y6 y7;clear y hM hc hc2 hc3 r0 b0 b1 hmk;refine qF (fun K hK=>?_);go_simp;refine hK _ _ ?_;clear hK K lk
 repeat first|(refine qq fun K hK=>?_;go_simp;refine hK _ _ ?_;clear hK K)|refine qm ?_
 go_wp2_with fail;have ba:Below W1.heap.size W1 (W1.alloc (.cells #[.int .i64 0,.int .i64 xx,.int .i64 xh,.int .i64 xj,.int .i64 xo,.int .i64 xy,.int .i64 xv,.int .i64 xr] 69)):=(Below.refl _ W1).alloc (Nat.le_refl _) _;have ra:=qs W1 (.cells (jH ⟨xk,xx,xh,xj,xo,xy,xv,xr⟩).toArray 69);rw[show (jH ⟨xk,xx,xh,xj,xo,xy,xv,xr⟩).toArray=#[.int .i64 0,.int .i64 xx,.int .i64 xh,.int .i64 xj,.int .i64 xo,.int .i64 xy,.int .i64 xv,.int .i64 xr] from rfl] at ra;generalize W1.alloc (.cells #[.int .i64 0,.int .i64 xx,.int .i64 xh,.int .i64 xj,.int .i64 xo,.int .i64 xy,.int .i64 xv,.int .i64 xr] 69)=W2 at *;rw[show (#[.int .i64 0,.int .i64 xx,.int .i64 xh,.int .i64 xj,.int .i64 xo,.int .i64 xy,.int .i64 xv,.int .i64 xr]:Array Value)=(jH ⟨xk,xx,xh,xj,xo,xy,xv,xr⟩).toArray from rfl] at ra;have hnext:∀(wr:World),Below W1.heap.size W1 wr->∀i:Nat,i<=100->Calls Tryz.prog 180 #[Ql ⟨xk,xx,xh,xj,xo,xy,xv,xr⟩,.int .i64 i,.pointer (some ⟨bl,0,none⟩)] wr (zE L i wr):=by
  intro wr hb i hi;have b2:=hb;rw[hL1];exact vY _ i hi bl sv _ (qh hbl b2 (qe hbl)) (qj.sl (qj.below hsv b2))
 clear hbl hsv hL1;have B2:=qd ba;have RA:=qd ra;have BB:=qd (HB.o.trans (ba.mono HB.o.size));have RE:=qd (qh R1.o ba (qe R1.o));have lb:=qe R1.o;have hbb:=HB.o.size;have zz:=ba.size;clear ba ra y0 y1 y2 y3 y4 y5 y6 y7 eqn;obtain⟨br,hbr⟩:∃br,br=W1.heap.size:=⟨_,rfl⟩
 rw[←hbr] at RA ⊢;have hbw:w.heap.size<=br:=by omega
 have hbe:br≠w.heap.size:=by omega
 have hbw1:W1.heap.size<=br:=by omega
 clear hbr r1;have hlen:=HL.o.len
 go_loopw [5] (fun p wr=>∃i:Nat,i<=L.length/\p=.int .i64 i/\(∀f ∈ L.take i,jt ⟨xk,xx,xh,xj,xo,xy,xv,xr⟩ f=true)/\Below w.heap.size w wr/\Below W1.heap.size W1 wr/\wr.heap[w.heap.size]?=some (.cells #[.int .i64 xk,.int .i64 xx,.int .i64 xh,.int .i64 xj,.int .i64 xo,.int .i64 xy,.int .i64 xv,.int .i64 xr] 69 (0,0))/\wr.heap[br]?=some (.cells (zc (jH ⟨xk,xx,xh,xj,xo,xy,xv,xr⟩) (L.take i)).toArray 69 (0,0))) (fun p _=>L.length - (intOf p).toNat)
 case atStart=>exact⟨0,by omega,by go_num,by simp,BB.o,B2.o,RE.o,RA.o⟩
 case round=>
  obtain⟨i,hi,rfl,hpre,hB,hB2,hre,hrr⟩:=hrel;have HPRE:=qd hpre;clear hpre;have lw:=qe hre;have lr:=qe hrr;have y:=qa hre;have y0:=y 0;have y1:=y 1;have y2:=y 2;have y3:=y 3;have y4:=y 4;have y5:=y 5;have y6:=y 6;have y7:=y 7;simp at y0 y1 y2 y3 y4 y5 y6 y7;have hnx:=qd (hnext wr (hB2) i (by omega));have HBw:=qd hB;have HB2:=qd hB2;have HRE:=qd hre;have HRR:=qd hrr;clear y hB hB2 hre hrr;go_wp2_with fail;refine(hnx.o).mono ?_;rintro e W3 ⟨he,b3⟩;subst he;have z3:=b3.size;have re3:=qh HRE.o b3 lw;have rr3:=qh HRR.o b3 lr;have B3:=qd (HBw.o.trans (b3.mono HBw.o.size));have B4:=qd (HB2.o.trans (b3.mono HB2.o.size));by_cases hlt:i < L.length
  ·have hLi:L[i]?=some L[i]:=List.getElem?_eq_getElem hlt
   have hm:L[i] ∈ L:=List.getElem_mem hlt;have hfa:=HL.o.all _ hm;have HPS:∀q:jt ⟨xk,xx,xh,xj,xo,xy,xv,xr⟩ L[i]=true,∀f ∈ L.take (i+1),jt ⟨xk,xx,xh,xj,xo,xy,xv,xr⟩ f=true:=fun q f hf=>by
    rw[List.take_succ_eq_append_getElem hlt] at hf;rcases List.mem_append.1 hf with hf|hf
    ·exact HPRE.o f hf
    ·rw [List.mem_singleton.1 hf];exact q
   have HPN:jt ⟨xk,xx,xh,xj,xo,xy,xv,xr⟩ L[i]=false->L.all (jt ⟨xk,xx,xh,xj,xo,xy,xv,xr⟩)=false:=fun q=>by
    rw[List.all_eq_false];exact⟨_,hm,by rw[q];decide⟩
   have hn:=ZG ⟨xk,xx,xh,xj,xo,xy,xv,xr⟩ (jU hfa).2;have ho:=jU hfa;have hsn:zc (jH ⟨xk,xx,xh,xj,xo,xy,xv,xr⟩) (L.take (i+1))=(zc (jH ⟨xk,xx,xh,xj,xo,xy,xv,xr⟩) (L.take i)).set (xT L[i]) (.int .i64 0):=by rw[List.take_succ_eq_append_getElem hlt,QJ]
   have HSN:=qd hsn;have hrl:(zc (jH ⟨xk,xx,xh,xj,xo,xy,xv,xr⟩) (L.take i)).length=8:=by rw[XO];rfl
   have hfd:=fun b w=>KN hfa b w;rw[hLi];have HPS:=qd HPS;have HPN:=qd HPN;generalize L[i]=f at *;obtain⟨n,hnn⟩:∃n,n=vU ⟨xk,xx,xh,xj,xo,xy,xv,xr⟩ (xT f):=⟨_,rfl⟩
   rw[←hnn] at hn;obtain⟨ff,tb,lo,hi'⟩:=f;have cn:W3.cell? ⟨w.heap.size,xT ⟨ff,tb,lo,hi'⟩,none⟩=some (.int .i64 n):=(qa re3 _).trans (by simpa[Ev.cells] using hn);obtain⟨u,hu⟩:∃u,(zc (jH ⟨xk,xx,xh,xj,xo,xy,xv,xr⟩) (L.take i))[xT ⟨ff,tb,lo,hi'⟩]?=some u:=⟨_,List.getElem?_eq_getElem (by omega)⟩
   have cr:W3.cell? ⟨br,xT ⟨ff,tb,lo,hi'⟩,none⟩=some u:=(qa rr3 _).trans (by simpa using hu);have fr:W3.frozen? ⟨br,xT ⟨ff,tb,lo,hi'⟩,none⟩=false:=qt rr3 _;obtain⟨o,hoo⟩:∃o,o=xT ⟨ff,tb,lo,hi'⟩:=⟨_,rfl⟩
   rw[←hoo] at cn cr fr hfd HSN;simp only at hfd;have hib:jt ⟨xk,xx,xh,xj,xo,xy,xv,xr⟩ ⟨ff,tb,lo,hi'⟩=(decide (lo<=n)&&decide (n<=hi')):=by unfold jt;rw[←hnn]
   clear hnn;have RE3:=qd re3;have RR3:=qd rr3;have HFD:=qd hfd;have lw3:=qe re3;have lr3:=qe rr3;clear re3 rr3 hfd hu hLi hm hn hsn hoo ho hrl y0 y1 y2 y3 y4 y5 y6 y7 hnx b3;have hbr3:br < W3.heap.size:=lr3;have hcf:=fun args X=>KU hfa args X;simp only at hcf;clear hfa;go_wp2_with fail;refine(HFD.o _ _).mono ?_;rintro e W4 ⟨he,hw4⟩;subst he;subst hw4;have HE3:=qd (qp B3.o HGE.o HE.o);have hg3:8 < W3.heap.size:=by have:=HGE.o;have:=B3.o.size;omega
   by_cases hin:lo<=n/\n<=hi'
   case neg=>
    have HF:=qd (HPN.o (by rw[hib];simp;omega));by_cases hlo:n < lo
    ·have q1:decide (n < lo)=true:=by simpa using hlo
     have he3:=HE3.o;go_wp2;refine bodyPost_ret (v:=yD ⟨xk,xx,xh,xj,xo,xy,xv,xr⟩ vE L) (by simp[results,Tryz.results81,go_sem,yD,HF.o]) rfl ⟨rfl,?_⟩;exact B3.o.alloc B3.o.size _
    ·have q1:decide (n < lo)=false:=by simpa using hlo
     have q2':decide (hi' < n)=true:=by simp;omega
     have q3':decide (n > hi')=true:=by simp;omega
     have he3:=HE3.o;go_wp2;refine bodyPost_ret (v:=yD ⟨xk,xx,xh,xj,xo,xy,xv,xr⟩ vE L) (by simp[results,Tryz.results81,go_sem,yD,HF.o]) rfl ⟨rfl,?_⟩;exact B3.o.alloc B3.o.size _
   have q1:decide (n < lo)=false:=by simp;omega
   have q2':decide (hi' < n)=false:=by simp;omega
   have q3':decide (n > hi')=false:=by simp;omega
   have HYS:=qd (HPS.o (by rw[hib];simp;omega));go_wp2_with fail;refine(HFD.o _ _).mono ?_;rintro e W4 ⟨he,hw4⟩;subst he;subst hw4;go_wp2_with fail;go_roundw
   case rel=>
    have s3:=B3.o.setCell (p:=⟨br,o,none⟩) hbw (.int .i64 0);have s4:=B4.o.setCell (p:=⟨br,o,none⟩) hbw1 (.int .i64 0);exact⟨i+1,by omega,by go_num,HYS.o,s3.alloc s3.size _,s4.alloc s4.size _,qy (qI RE3.o hbe),by rw[HSN.o,←UK];exact qy (qn RR3.o _ _)⟩
   case measure=>simp[intOf];omega
  ·have hno:L[i]?=none:=List.getElem?_eq_none (by omega)
   obtain rfl:i=L.length:=by omega
   rw[hno];have hall:=Jc HPRE.o rfl;rw[List.take_length] at rr3;have y:=qa rr3;have ho8:∀f ∈ L,xT f < 8:=fun f hf=>(jU (HL.o.all f hf)).2;have hle:=fun j (hj:j < 8)=>XW ⟨xk,xx,xh,xj,xo,xy,xv,xr⟩ ho8 hj;have hlz:=uE (x:=⟨xk,xx,xh,xj,xo,xy,xv,xr⟩) (L:=L);generalize vh ⟨xk,xx,xh,xj,xo,xy,xv,xr⟩ L=m at *;have x0:W3.cell? ⟨br,0,none⟩=some (.int .i64 (m 0)):=(y 0).trans (by simpa using hle 0 (by decide));have x1:W3.cell? ⟨br,1,none⟩=some (.int .i64 (m 1)):=(y 1).trans (by simpa using hle 1 (by decide));have x2:W3.cell? ⟨br,2,none⟩=some (.int .i64 (m 2)):=(y 2).trans (by simpa using hle 2 (by decide));have x3:W3.cell? ⟨br,3,none⟩=some (.int .i64 (m 3)):=(y 3).trans (by simpa using hle 3 (by decide));have x4:W3.cell? ⟨br,4,none⟩=some (.int .i64 (m 4)):=(y 4).trans (by simpa using hle 4 (by decide));have x5:W3.cell? ⟨br,5,none⟩=some (.int .i64 (m 5)):=(y 5).trans (by simpa using hle 5 (by decide));have x6:W3.cell? ⟨br,6,none⟩=some (.int .i64 (m 6)):=(y 6).trans (by simpa using hle 6 (by decide));have x7:W3.cell? ⟨br,7,none⟩=some (.int .i64 (m 7)):=(y 7).trans (by simpa using hle 7 (by decide));generalize hm0:m 0=m0 at x0;generalize hm1:m 1=m1 at x1;generalize hm2:m 2=m2 at x2;generalize hm3:m 3=m3 at x3;generalize hm4:m 4=m4 at x4;generalize hm5:m 5=m5 at x5;generalize hm6:m 6=m6 at x6;generalize hm7:m 7=m7 at x7;have HE3:=qd (qp B3.o HGE.o HE.o);have hg3:8 < W3.heap.size:=by have:=HGE.o;have:=B3.o.size;omega
   have lr3:=qe rr3;clear y hle ho8 re3 rr3 y0 y1 y2 y3 y4 y5 y6 y7 hnx b3;have hv:yD ⟨xk,xx,xh,xj,xo,xy,xv,xr⟩ vE L=if m0=0/\m1=0/\m2=0/\m3=0/\m4=0/\m5=0/\m6=0/\m7=0 then .nilIface else vE:=by
    unfold yD;rw[hall,Bool.true_and];by_cases q:QX ⟨xk,xx,xh,xj,xo,xy,xv,xr⟩ L=true
    ·have q8:=hlz.1 q
     rw[if_pos q,if_pos];rw[←hm0,←hm1,←hm2,←hm3,←hm4,←hm5,←hm6,←hm7];exact⟨q8 0 (by decide),q8 1 (by decide),q8 2 (by decide),q8 3 (by decide),q8 4 (by decide),q8 5 (by decide),q8 6 (by decide),q8 7 (by decide)⟩
    ·rw [if_neg q,if_neg]
     rintro⟨h0,h1,h2,h3,h4,h5,h6,h7⟩;refine q (hlz.2 fun j hj=>?_)
     match j,hj with
     |0,_=>rw[hm0,h0]
     |1,_=>rw[hm1,h1]
     |2,_=>rw[hm2,h2]
     |3,_=>rw[hm3,h3]
     |4,_=>rw[hm4,h4]
     |5,_=>rw[hm5,h5]
     |6,_=>rw[hm6,h6]
     |7,_=>rw[hm7,h7]
   clear hlz hm0 hm1 hm2 hm3 hm4 hm5 hm6 hm7;by_cases hz:m0=0/\m1=0/\m2=0/\m3=0/\m4=0/\m5=0/\m6=0/\m7=0
   ·rw [if_pos hz] at hv
    have HVV:=qd hv;clear hv;obtain⟨rfl,rfl,rfl,rfl,rfl,rfl,rfl,rfl⟩:=hz;go_wp2_with fail;refine bodyPost_ret (v:=.nilIface) (by simp[results,Tryz.results81,go_sem]) rfl ⟨by rw[HVV.o],?_⟩;exact B3.o.alloc B3.o.size _
   ·rw [if_neg hz] at hv
    have HVV:=qd hv;clear hv;have he3:=HE3.o;go_wp2_with fail
    all_goals
     refine bodyPost_ret (v:=vE) (by simp[results,Tryz.results81,go_sem]) rfl ⟨by rw[HVV.o],?_⟩;exact B3.o.alloc B3.o.size _
theorem g_Valid2 (xk xx xh xj xo xy xv xr:Int) (hop:jL xo≠0) (hk:xk=2) (L:List Fd) (hL:FdsG L) (vE:Value) (w:World) (hW:xg w) (hgE:8 < w.heap.size) (hE:w.cell? ⟨8,0,none⟩=some vE) (hL1:L=jd xo):
  Calls Tryz.prog 81 #[Ql ⟨xk,xx,xh,xj,xo,xy,xv,xr⟩] w (ValRG w ⟨xk,xx,xh,xj,xo,xy,xv,xr⟩ vE L):=by
 have HE:=qd hE;have HGE:=qd hgE;clear hE hgE;have b0:Below w.heap.size w (w.alloc (.cells #[.int .i64 xk,.int .i64 xx,.int .i64 xh,.int .i64 xj,.int .i64 xo,.int .i64 xy,.int .i64 xv,.int .i64 xr] 69)):=(Below.refl _ w).alloc (Nat.le_refl _) _;have r0:=qs w (.cells #[.int .i64 xk,.int .i64 xx,.int .i64 xh,.int .i64 xj,.int .i64 xo,.int .i64 xy,.int .i64 xv,.int .i64 xr] 69);have hf:=jY (w.alloc (.cells #[.int .i64 xk,.int .i64 xx,.int .i64 xh,.int .i64 xj,.int .i64 xo,.int .i64 xy,.int .i64 xv,.int .i64 xr] 69)).drew;have HW:=qd (hW.below b0);have HL:=qd hL;clear hW hL;have q2:(xk==2)=true:=by simp;omega
 have q3:(xk==3)=false:=by simp;omega
 have HK:=qd hk;clear hk;go_enter Tryz.func81,Tryz.ntmps81;go_wp2_with fail;generalize w.alloc (.cells #[.int .i64 xk,.int .i64 xx,.int .i64 xh,.int .i64 xj,.int .i64 xo,.int .i64 xy,.int .i64 xv,.int .i64 xr] 69)=W at *;have y0:=qa r0 0;have l0:=qe r0;simp at y0;refine qD (W.heap.size) [3,0,1,2,0] (.fin [1,2,0,3,4]) (by kernel_rfl) ?_;simp only[xC,qJ,qu,sD,sE,sF,sG]
 repeat first|(refine qq fun K hK=>?_;go_simp;refine hK _ _ ?_;clear hK K)|(apply qx;(intro w2 hw2;have hk1:=hw2.cell;have hk3:=hw2.1;clear hw2;go_simp;with_reducible rfl);simp only[Act.put,sA,sB,sC])
 refine qC (fun K hK=>?_);go_simp;refine hf.mono ?_;rintro e W1 ⟨bm,rfl,hF,b1⟩;refine hK _ _ (RN.KeepsN.of_below b1) ?_;clear hK K hf;have b1:Below W.heap.size W W1:=(Below.refl _ W).drew.trans b1;have z1:=b1.size;obtain⟨M,bq,hM,hc,hc2,hc3,hq,hbm⟩:=hF;have hmk:M xk=some (.func (.func 183) #[] #[.pointer (some ⟨bq,0,none⟩)]):=by rw[HK.o];exact hc2
 have lk:=(hM.look Tryz.underlying3 Tryz.underlying256 (XK W1) xk hmk).1;simp only[Option.getD_some] at lk;have r1:=qh r0 b1 l0;have eqn:Sem.run Tryz.prog (binOp BinOp.eql 255 (.func (.func 183) #[] #[.pointer (some ⟨bq,0,none⟩)]) Value.nilFunc) W1=.ok (.bool false) W1:=by kernel_rfl
 have HB:=qd (b0.trans (b1.mono b0.size));have b1x:=qd b1;have R1:=qd r1;have y:=qa r1;have y0:=y 0;have y1:=y 1;have y2:=y 2;have y3:=y 3;have y4:=y 4;have y5:=y 5;have y6:=y 6;have y7:=y 7;simp at y0 y1 y2 y3 y4 y5 y6 y7;clear y hM hc hc2 hc3 r0 b0 b1 hmk;refine qF (fun K hK=>?_);go_simp;refine hK _ _ ?_;clear hK K lk
 repeat first|(refine qq fun K hK=>?_;go_simp;refine hK _ _ ?_;clear hK K)|refine qm ?_
 go_wp2_with fail;refine(NR xo _).mono ?_;rintro e W5 ⟨he,hw5⟩;subst he;rw[hw5];clear hw5 W5;have qop:(jL xo==0)=false:=by simpa using hop
 go_wp2_with fail;have ba:Below W1.heap.size W1 (W1.alloc (.cells #[.int .i64 0,.int .i64 xx,.int .i64 xh,.int .i64 xj,.int .i64 xo,.int .i64 xy,.int .i64 xv,.int .i64 xr] 69)):=(Below.refl _ W1).alloc (Nat.le_refl _) _;have ra:=qs W1 (.cells (jH ⟨xk,xx,xh,xj,xo,xy,xv,xr⟩).toArray 69);rw[show (jH ⟨xk,xx,xh,xj,xo,xy,xv,xr⟩).toArray=#[.int .i64 0,.int .i64 xx,.int .i64 xh,.int .i64 xj,.int .i64 xo,.int .i64 xy,.int .i64 xv,.int .i64 xr] from rfl] at ra;generalize W1.alloc (.cells #[.int .i64 0,.int .i64 xx,.int .i64 xh,.int .i64 xj,.int .i64 xo,.int .i64 xy,.int .i64 xv,.int .i64 xr] 69)=W2 at *;rw[show (#[.int .i64 0,.int .i64 xx,.int .i64 xh,.int .i64 xj,.int .i64 xo,.int .i64 xy,.int .i64 xv,.int .i64 xr]:Array Value)=(jH ⟨xk,xx,xh,xj,xo,xy,xv,xr⟩).toArray from rfl] at ra;have hnext:∀(wr:World),Below W1.heap.size W1 wr->∀i:Nat,i<=100->Calls Tryz.prog 183 #[Ql ⟨xk,xx,xh,xj,xo,xy,xv,xr⟩,.int .i64 i,.pointer (some ⟨bq,0,none⟩)] wr (zE L i wr):=by
  intro wr hb i hi;rw[hL1];exact g_call ⟨xk,xx,xh,xj,xo,xy,xv,xr⟩ i hi bq (qh hq hb (qe hq))
 clear hL1;have B2:=qd ba;have RA:=qd ra;have BB:=qd (HB.o.trans (ba.mono HB.o.size));have RE:=qd (qh R1.o ba (qe R1.o));have lb:=qe R1.o;have hbb:=HB.o.size;have zz:=ba.size;clear ba ra y0 y1 y2 y3 y4 y5 y6 y7 eqn;obtain⟨br,hbr⟩:∃br,br=W1.heap.size:=⟨_,rfl⟩
 rw[←hbr] at RA ⊢;have hbw:w.heap.size<=br:=by omega
 have hbe:br≠w.heap.size:=by omega
 have hbw1:W1.heap.size<=br:=by omega
 clear hbr r1;have hlen:=HL.o.len
 go_loopw [5] (fun p wr=>∃i:Nat,i<=L.length/\p=.int .i64 i/\(∀f ∈ L.take i,jt ⟨xk,xx,xh,xj,xo,xy,xv,xr⟩ f=true)/\Below w.heap.size w wr/\Below W1.heap.size W1 wr/\wr.heap[w.heap.size]?=some (.cells #[.int .i64 xk,.int .i64 xx,.int .i64 xh,.int .i64 xj,.int .i64 xo,.int .i64 xy,.int .i64 xv,.int .i64 xr] 69 (0,0))/\wr.heap[br]?=some (.cells (zc (jH ⟨xk,xx,xh,xj,xo,xy,xv,xr⟩) (L.take i)).toArray 69 (0,0))) (fun p _=>L.length - (intOf p).toNat)
 case atStart=>exact⟨0,by omega,by go_num,by simp,BB.o,B2.o,RE.o,RA.o⟩
 case round=>
  obtain⟨i,hi,rfl,hpre,hB,hB2,hre,hrr⟩:=hrel;have HPRE:=qd hpre;clear hpre;have lw:=qe hre;have lr:=qe hrr;have y:=qa hre;have y0:=y 0;have y1:=y 1;have y2:=y 2;have y3:=y 3;have y4:=y 4;have y5:=y 5;have y6:=y 6;have y7:=y 7;simp at y0 y1 y2 y3 y4 y5 y6 y7;have hnx:=qd (hnext wr (hB2) i (by omega));have HBw:=qd hB;have HB2:=qd hB2;have HRE:=qd hre;have HRR:=qd hrr;clear y hB hB2 hre hrr;go_wp2_with fail;refine(hnx.o).mono ?_;rintro e W3 ⟨he,b3⟩;subst he;have z3:=b3.size;have re3:=qh HRE.o b3 lw;have rr3:=qh HRR.o b3 lr;have B3:=qd (HBw.o.trans (b3.mono HBw.o.size));have B4:=qd (HB2.o.trans (b3.mono HB2.o.size));by_cases hlt:i < L.length
  ·have hLi:L[i]?=some L[i]:=List.getElem?_eq_getElem hlt
   have hm:L[i] ∈ L:=List.getElem_mem hlt;have hfa:=HL.o.all _ hm;have HPS:∀q:jt ⟨xk,xx,xh,xj,xo,xy,xv,xr⟩ L[i]=true,∀f ∈ L.take (i+1),jt ⟨xk,xx,xh,xj,xo,xy,xv,xr⟩ f=true:=fun q f hf=>by
    rw[List.take_succ_eq_append_getElem hlt] at hf;rcases List.mem_append.1 hf with hf|hf
    ·exact HPRE.o f hf
    ·rw [List.mem_singleton.1 hf];exact q
   have HPN:jt ⟨xk,xx,xh,xj,xo,xy,xv,xr⟩ L[i]=false->L.all (jt ⟨xk,xx,xh,xj,xo,xy,xv,xr⟩)=false:=fun q=>by
    rw[List.all_eq_false];exact⟨_,hm,by rw[q];decide⟩
   have hn:=ZG ⟨xk,xx,xh,xj,xo,xy,xv,xr⟩ (jU hfa).2;have ho:=jU hfa;have hsn:zc (jH ⟨xk,xx,xh,xj,xo,xy,xv,xr⟩) (L.take (i+1))=(zc (jH ⟨xk,xx,xh,xj,xo,xy,xv,xr⟩) (L.take i)).set (xT L[i]) (.int .i64 0):=by rw[List.take_succ_eq_append_getElem hlt,QJ]
   have HSN:=qd hsn;have hrl:(zc (jH ⟨xk,xx,xh,xj,xo,xy,xv,xr⟩) (L.take i)).length=8:=by rw[XO];rfl
   have hfd:=fun b w=>KN hfa b w;rw[hLi];have HPS:=qd HPS;have HPN:=qd HPN;generalize L[i]=f at *;obtain⟨n,hnn⟩:∃n,n=vU ⟨xk,xx,xh,xj,xo,xy,xv,xr⟩ (xT f):=⟨_,rfl⟩
   rw[←hnn] at hn;obtain⟨ff,tb,lo,hi'⟩:=f;have cn:W3.cell? ⟨w.heap.size,xT ⟨ff,tb,lo,hi'⟩,none⟩=some (.int .i64 n):=(qa re3 _).trans (by simpa[Ev.cells] using hn);obtain⟨u,hu⟩:∃u,(zc (jH ⟨xk,xx,xh,xj,xo,xy,xv,xr⟩) (L.take i))[xT ⟨ff,tb,lo,hi'⟩]?=some u:=⟨_,List.getElem?_eq_getElem (by omega)⟩
   have cr:W3.cell? ⟨br,xT ⟨ff,tb,lo,hi'⟩,none⟩=some u:=(qa rr3 _).trans (by simpa using hu);have fr:W3.frozen? ⟨br,xT ⟨ff,tb,lo,hi'⟩,none⟩=false:=qt rr3 _;obtain⟨o,hoo⟩:∃o,o=xT ⟨ff,tb,lo,hi'⟩:=⟨_,rfl⟩
   rw[←hoo] at cn cr fr hfd HSN;simp only at hfd;have hib:jt ⟨xk,xx,xh,xj,xo,xy,xv,xr⟩ ⟨ff,tb,lo,hi'⟩=(decide (lo<=n)&&decide (n<=hi')):=by unfold jt;rw[←hnn]
   clear hnn;have RE3:=qd re3;have RR3:=qd rr3;have HFD:=qd hfd;have lw3:=qe re3;have lr3:=qe rr3;clear re3 rr3 hfd hu hLi hm hn hsn hoo ho hrl y0 y1 y2 y3 y4 y5 y6 y7 hnx b3;have hbr3:br < W3.heap.size:=lr3;have hcf:=fun args X=>KU hfa args X;simp only at hcf;clear hfa;go_wp2_with fail;refine(HFD.o _ _).mono ?_;rintro e W4 ⟨he,hw4⟩;subst he;subst hw4;have HE3:=qd (qp B3.o HGE.o HE.o);have hg3:8 < W3.heap.size:=by have:=HGE.o;have:=B3.o.size;omega
   by_cases hin:lo<=n/\n<=hi'
   case neg=>
    have HF:=qd (HPN.o (by rw[hib];simp;omega));by_cases hlo:n < lo
    ·have q1:decide (n < lo)=true:=by simpa using hlo
     have he3:=HE3.o;go_wp2;refine bodyPost_ret (v:=yD ⟨xk,xx,xh,xj,xo,xy,xv,xr⟩ vE L) (by simp[results,Tryz.results81,go_sem,yD,HF.o]) rfl ⟨rfl,?_⟩;exact B3.o.alloc B3.o.size _
    ·have q1:decide (n < lo)=false:=by simpa using hlo
     have q2':decide (hi' < n)=true:=by simp;omega
     have q3':decide (n > hi')=true:=by simp;omega
     have he3:=HE3.o;go_wp2;refine bodyPost_ret (v:=yD ⟨xk,xx,xh,xj,xo,xy,xv,xr⟩ vE L) (by simp[results,Tryz.results81,go_sem,yD,HF.o]) rfl ⟨rfl,?_⟩;exact B3.o.alloc B3.o.size _
   have q1:decide (n < lo)=false:=by simp;omega
   have q2':decide (hi' < n)=false:=by simp;omega
   have q3':decide (n > hi')=false:=by simp;omega
   have HYS:=qd (HPS.o (by rw[hib];simp;omega));go_wp2_with fail;refine(HFD.o _ _).mono ?_;rintro e W4 ⟨he,hw4⟩;subst he;subst hw4;go_wp2_with fail;go_roundw
   case rel=>
    have s3:=B3.o.setCell (p:=⟨br,o,none⟩) hbw (.int .i64 0);have s4:=B4.o.setCell (p:=⟨br,o,none⟩) hbw1 (.int .i64 0);exact⟨i+1,by omega,by go_num,HYS.o,s3.alloc s3.size _,s4.alloc s4.size _,qy (qI RE3.o hbe),by rw[HSN.o,←UK];exact qy (qn RR3.o _ _)⟩
   case measure=>simp[intOf];omega
  ·have hno:L[i]?=none:=List.getElem?_eq_none (by omega)
   obtain rfl:i=L.length:=by omega
   rw[hno];have hall:=Jc HPRE.o rfl;rw[List.take_length] at rr3;have y:=qa rr3;have ho8:∀f ∈ L,xT f < 8:=fun f hf=>(jU (HL.o.all f hf)).2;have hle:=fun j (hj:j < 8)=>XW ⟨xk,xx,xh,xj,xo,xy,xv,xr⟩ ho8 hj;have hlz:=uE (x:=⟨xk,xx,xh,xj,xo,xy,xv,xr⟩) (L:=L);generalize vh ⟨xk,xx,xh,xj,xo,xy,xv,xr⟩ L=m at *;have x0:W3.cell? ⟨br,0,none⟩=some (.int .i64 (m 0)):=(y 0).trans (by simpa using hle 0 (by decide));have x1:W3.cell? ⟨br,1,none⟩=some (.int .i64 (m 1)):=(y 1).trans (by simpa using hle 1 (by decide));have x2:W3.cell? ⟨br,2,none⟩=some (.int .i64 (m 2)):=(y 2).trans (by simpa using hle 2 (by decide));have x3:W3.cell? ⟨br,3,none⟩=some (.int .i64 (m 3)):=(y 3).trans (by simpa using hle 3 (by decide));have x4:W3.cell? ⟨br,4,none⟩=some (.int .i64 (m 4)):=(y 4).trans (by simpa using hle 4 (by decide));have x5:W3.cell? ⟨br,5,none⟩=some (.int .i64 (m 5)):=(y 5).trans (by simpa using hle 5 (by decide));have x6:W3.cell? ⟨br,6,none⟩=some (.int .i64 (m 6)):=(y 6).trans (by simpa using hle 6 (by decide));have x7:W3.cell? ⟨br,7,none⟩=some (.int .i64 (m 7)):=(y 7).trans (by simpa using hle 7 (by decide));generalize hm0:m 0=m0 at x0;generalize hm1:m 1=m1 at x1;generalize hm2:m 2=m2 at x2;generalize hm3:m 3=m3 at x3;generalize hm4:m 4=m4 at x4;generalize hm5:m 5=m5 at x5;generalize hm6:m 6=m6 at x6;generalize hm7:m 7=m7 at x7;have HE3:=qd (qp B3.o HGE.o HE.o);have hg3:8 < W3.heap.size:=by have:=HGE.o;have:=B3.o.size;omega
   have lr3:=qe rr3;clear y hle ho8 re3 rr3 y0 y1 y2 y3 y4 y5 y6 y7 hnx b3;have hv:yD ⟨xk,xx,xh,xj,xo,xy,xv,xr⟩ vE L=if m0=0/\m1=0/\m2=0/\m3=0/\m4=0/\m5=0/\m6=0/\m7=0 then .nilIface else vE:=by
    unfold yD;rw[hall,Bool.true_and];by_cases q:QX ⟨xk,xx,xh,xj,xo,xy,xv,xr⟩ L=true
    ·have q8:=hlz.1 q
     rw[if_pos q,if_pos];rw[←hm0,←hm1,←hm2,←hm3,←hm4,←hm5,←hm6,←hm7];exact⟨q8 0 (by decide),q8 1 (by decide),q8 2 (by decide),q8 3 (by decide),q8 4 (by decide),q8 5 (by decide),q8 6 (by decide),q8 7 (by decide)⟩
    ·rw [if_neg q,if_neg]
     rintro⟨h0,h1,h2,h3,h4,h5,h6,h7⟩;refine q (hlz.2 fun j hj=>?_)
     match j,hj with
     |0,_=>rw[hm0,h0]
     |1,_=>rw[hm1,h1]
     |2,_=>rw[hm2,h2]
     |3,_=>rw[hm3,h3]
     |4,_=>rw[hm4,h4]
     |5,_=>rw[hm5,h5]
     |6,_=>rw[hm6,h6]
     |7,_=>rw[hm7,h7]
   clear hlz hm0 hm1 hm2 hm3 hm4 hm5 hm6 hm7;by_cases hz:m0=0/\m1=0/\m2=0/\m3=0/\m4=0/\m5=0/\m6=0/\m7=0
   ·rw [if_pos hz] at hv
    have HVV:=qd hv;clear hv;obtain⟨rfl,rfl,rfl,rfl,rfl,rfl,rfl,rfl⟩:=hz;go_wp2_with fail;refine bodyPost_ret (v:=.nilIface) (by simp[results,Tryz.results81,go_sem]) rfl ⟨by rw[HVV.o],?_⟩;exact B3.o.alloc B3.o.size _
   ·rw [if_neg hz] at hv
    have HVV:=qd hv;clear hv;have he3:=HE3.o;go_wp2_with fail
    all_goals
     refine bodyPost_ret (v:=vE) (by simp[results,Tryz.results81,go_sem]) rfl ⟨by rw[HVV.o],?_⟩;exact B3.o.alloc B3.o.size _
theorem g_Valid3 (xk xx xh xj xo xy xv xr:Int) (hop:1<=xr/\xr<=3) (hdr:dI xr) (hk:xk=3) (L:List Fd) (hL:FdsG L) (vE:Value) (w:World) (hW:xg w) (hgE:8 < w.heap.size) (hE:w.cell? ⟨8,0,none⟩=some vE) (hL1:L=YC xr):
  Calls Tryz.prog 81 #[Ql ⟨xk,xx,xh,xj,xo,xy,xv,xr⟩] w (ValRG w ⟨xk,xx,xh,xj,xo,xy,xv,xr⟩ vE L):=by
 have HE:=qd hE;have HGE:=qd hgE;clear hE hgE;have b0:Below w.heap.size w (w.alloc (.cells #[.int .i64 xk,.int .i64 xx,.int .i64 xh,.int .i64 xj,.int .i64 xo,.int .i64 xy,.int .i64 xv,.int .i64 xr] 69)):=(Below.refl _ w).alloc (Nat.le_refl _) _;have r0:=qs w (.cells #[.int .i64 xk,.int .i64 xx,.int .i64 xh,.int .i64 xj,.int .i64 xo,.int .i64 xy,.int .i64 xv,.int .i64 xr] 69);have hf:=jY (w.alloc (.cells #[.int .i64 xk,.int .i64 xx,.int .i64 xh,.int .i64 xj,.int .i64 xo,.int .i64 xy,.int .i64 xv,.int .i64 xr] 69)).drew;have HW:=qd (hW.below b0);have HL:=qd hL;clear hW hL;have q2:(xk==2)=false:=by simp;omega
 have q3:(xk==3)=true:=by simp;omega
 have HK:=qd hk;clear hk;go_enter Tryz.func81,Tryz.ntmps81;go_wp2_with fail;generalize w.alloc (.cells #[.int .i64 xk,.int .i64 xx,.int .i64 xh,.int .i64 xj,.int .i64 xo,.int .i64 xy,.int .i64 xv,.int .i64 xr] 69)=W at *;have y0:=qa r0 0;have l0:=qe r0;simp at y0;refine qD (W.heap.size) [3,0,1,2,0] (.fin [1,2,0,3,4]) (by kernel_rfl) ?_;simp only[xC,qJ,qu,sD,sE,sF,sG]
 repeat first|(refine qq fun K hK=>?_;go_simp;refine hK _ _ ?_;clear hK K)|(apply qx;(intro w2 hw2;have hk1:=hw2.cell;have hk3:=hw2.1;clear hw2;go_simp;with_reducible rfl);simp only[Act.put,sA,sB,sC])
 refine qC (fun K hK=>?_);go_simp;refine hf.mono ?_;rintro e W1 ⟨bm,rfl,hF,b1⟩;refine hK _ _ (RN.KeepsN.of_below b1) ?_;clear hK K hf;have b1:Below W.heap.size W W1:=(Below.refl _ W).drew.trans b1;have z1:=b1.size;obtain⟨M,bq,hM,hc,hc2,hc3,hq,hbm⟩:=hF;have hmk:M xk=some (.func (.func 188) #[] #[.pointer (some ⟨bq,0,none⟩)]):=by rw[HK.o];exact hc3
 have lk:=(hM.look Tryz.underlying3 Tryz.underlying256 (XK W1) xk hmk).1;simp only[Option.getD_some] at lk;have r1:=qh r0 b1 l0;have eqn:Sem.run Tryz.prog (binOp BinOp.eql 255 (.func (.func 188) #[] #[.pointer (some ⟨bq,0,none⟩)]) Value.nilFunc) W1=.ok (.bool false) W1:=by kernel_rfl
 have HB:=qd (b0.trans (b1.mono b0.size));have b1x:=qd b1;have R1:=qd r1;have y:=qa r1;have y0:=y 0;have y1:=y 1;have y2:=y 2;have y3:=y 3;have y4:=y 4;have y5:=y 5;have y6:=y 6;have y7:=y 7;simp at y0 y1 y2 y3 y4 y5 y6 y7;clear y hM hc hc2 hc3 r0 b0 b1 hmk;refine qF (fun K hK=>?_);go_simp;refine hK _ _ ?_;clear hK K lk
 repeat first|(refine qq fun K hK=>?_;go_simp;refine hK _ _ ?_;clear hK K)|refine qm ?_
 go_wp2_with fail;obtain⟨s,hs,hsq⟩:∃s:ByteArray,Calls Tryz.prog 130 #[.int .i64 4,.int .i64 xr] W1 (fun e w'=>e=.returned (.string s)/\Below W1.heap.size W1 w')/\s.toList.isEmpty=false:=⟨_,Wx (HW.o.below (b1x.o)) xr hdr,by rw[QD];simp;omega⟩
 refine hs.mono ?_;rintro e W5 ⟨he,b5⟩;subst he;have HB:=qd (HB.o.trans (b5.mono HB.o.size));have r1:=qh R1.o b5 (qe R1.o);have R1:=qd r1;have y:=qa r1;have y0:=y 0;have y1:=y 1;have y2:=y 2;have y3:=y 3;have y4:=y 4;have y5:=y 5;have y6:=y 6;have y7:=y 7;simp at y0 y1 y2 y3 y4 y5 y6 y7;clear y hs;go_wp2_with fail;have ba:Below W5.heap.size W5 (W5.alloc (.cells #[.int .i64 0,.int .i64 xx,.int .i64 xh,.int .i64 xj,.int .i64 xo,.int .i64 xy,.int .i64 xv,.int .i64 xr] 69)):=(Below.refl _ W5).alloc (Nat.le_refl _) _;have ra:=qs W5 (.cells (jH ⟨xk,xx,xh,xj,xo,xy,xv,xr⟩).toArray 69);rw[show (jH ⟨xk,xx,xh,xj,xo,xy,xv,xr⟩).toArray=#[.int .i64 0,.int .i64 xx,.int .i64 xh,.int .i64 xj,.int .i64 xo,.int .i64 xy,.int .i64 xv,.int .i64 xr] from rfl] at ra;generalize W5.alloc (.cells #[.int .i64 0,.int .i64 xx,.int .i64 xh,.int .i64 xj,.int .i64 xo,.int .i64 xy,.int .i64 xv,.int .i64 xr] 69)=W2 at *;rw[show (#[.int .i64 0,.int .i64 xx,.int .i64 xh,.int .i64 xj,.int .i64 xo,.int .i64 xy,.int .i64 xv,.int .i64 xr]:Array Value)=(jH ⟨xk,xx,xh,xj,xo,xy,xv,xr⟩).toArray from rfl] at ra;have hq5:=qh hq b5 (qe hq);have hnext:∀(wr:World),Below W5.heap.size W5 wr->∀i:Nat,i<=100->Calls Tryz.prog 188 #[Ql ⟨xk,xx,xh,xj,xo,xy,xv,xr⟩,.int .i64 i,.pointer (some ⟨bq,0,none⟩)] wr (zE L i wr):=by
  intro wr hb i hi;rw[hL1];exact g_retn ⟨xk,xx,xh,xj,xo,xy,xv,xr⟩ i hi bq (qh hq5 hb (qe hq5))
 clear hL1;have B2:=qd ba;have RA:=qd ra;have BB:=qd (HB.o.trans (ba.mono HB.o.size));have RE:=qd (qh R1.o ba (qe R1.o));have lb:=qe R1.o;have hbb:=HB.o.size;have zz:=ba.size;clear ba ra y0 y1 y2 y3 y4 y5 y6 y7 eqn;obtain⟨br,hbr⟩:∃br,br=W5.heap.size:=⟨_,rfl⟩
 rw[←hbr] at RA ⊢;have hbw:w.heap.size<=br:=by omega
 have hbe:br≠w.heap.size:=by omega
 have hbw1:W5.heap.size<=br:=by omega
 clear hbr r1;have hlen:=HL.o.len
 go_loopw [5] (fun p wr=>∃i:Nat,i<=L.length/\p=.int .i64 i/\(∀f ∈ L.take i,jt ⟨xk,xx,xh,xj,xo,xy,xv,xr⟩ f=true)/\Below w.heap.size w wr/\Below W5.heap.size W5 wr/\wr.heap[w.heap.size]?=some (.cells #[.int .i64 xk,.int .i64 xx,.int .i64 xh,.int .i64 xj,.int .i64 xo,.int .i64 xy,.int .i64 xv,.int .i64 xr] 69 (0,0))/\wr.heap[br]?=some (.cells (zc (jH ⟨xk,xx,xh,xj,xo,xy,xv,xr⟩) (L.take i)).toArray 69 (0,0))) (fun p _=>L.length - (intOf p).toNat)
 case atStart=>exact⟨0,by omega,by go_num,by simp,BB.o,B2.o,RE.o,RA.o⟩
 case round=>
  obtain⟨i,hi,rfl,hpre,hB,hB2,hre,hrr⟩:=hrel;have HPRE:=qd hpre;clear hpre;have lw:=qe hre;have lr:=qe hrr;have y:=qa hre;have y0:=y 0;have y1:=y 1;have y2:=y 2;have y3:=y 3;have y4:=y 4;have y5:=y 5;have y6:=y 6;have y7:=y 7;simp at y0 y1 y2 y3 y4 y5 y6 y7;have hnx:=qd (hnext wr (hB2) i (by omega));have HBw:=qd hB;have HB2:=qd hB2;have HRE:=qd hre;have HRR:=qd hrr;clear y hB hB2 hre hrr;go_wp2_with fail;refine(hnx.o).mono ?_;rintro e W3 ⟨he,b3⟩;subst he;have z3:=b3.size;have re3:=qh HRE.o b3 lw;have rr3:=qh HRR.o b3 lr;have B3:=qd (HBw.o.trans (b3.mono HBw.o.size));have B4:=qd (HB2.o.trans (b3.mono HB2.o.size));by_cases hlt:i < L.length
  ·have hLi:L[i]?=some L[i]:=List.getElem?_eq_getElem hlt
   have hm:L[i] ∈ L:=List.getElem_mem hlt;have hfa:=HL.o.all _ hm;have HPS:∀q:jt ⟨xk,xx,xh,xj,xo,xy,xv,xr⟩ L[i]=true,∀f ∈ L.take (i+1),jt ⟨xk,xx,xh,xj,xo,xy,xv,xr⟩ f=true:=fun q f hf=>by
    rw[List.take_succ_eq_append_getElem hlt] at hf;rcases List.mem_append.1 hf with hf|hf
    ·exact HPRE.o f hf
    ·rw [List.mem_singleton.1 hf];exact q
   have HPN:jt ⟨xk,xx,xh,xj,xo,xy,xv,xr⟩ L[i]=false->L.all (jt ⟨xk,xx,xh,xj,xo,xy,xv,xr⟩)=false:=fun q=>by
    rw[List.all_eq_false];exact⟨_,hm,by rw[q];decide⟩
   have hn:=ZG ⟨xk,xx,xh,xj,xo,xy,xv,xr⟩ (jU hfa).2;have ho:=jU hfa;have hsn:zc (jH ⟨xk,xx,xh,xj,xo,xy,xv,xr⟩) (L.take (i+1))=(zc (jH ⟨xk,xx,xh,xj,xo,xy,xv,xr⟩) (L.take i)).set (xT L[i]) (.int .i64 0):=by rw[List.take_succ_eq_append_getElem hlt,QJ]
   have HSN:=qd hsn;have hrl:(zc (jH ⟨xk,xx,xh,xj,xo,xy,xv,xr⟩) (L.take i)).length=8:=by rw[XO];rfl
   have hfd:=fun b w=>KN hfa b w;rw[hLi];have HPS:=qd HPS;have HPN:=qd HPN;generalize L[i]=f at *;obtain⟨n,hnn⟩:∃n,n=vU ⟨xk,xx,xh,xj,xo,xy,xv,xr⟩ (xT f):=⟨_,rfl⟩
   rw[←hnn] at hn;obtain⟨ff,tb,lo,hi'⟩:=f;have cn:W3.cell? ⟨w.heap.size,xT ⟨ff,tb,lo,hi'⟩,none⟩=some (.int .i64 n):=(qa re3 _).trans (by simpa[Ev.cells] using hn);obtain⟨u,hu⟩:∃u,(zc (jH ⟨xk,xx,xh,xj,xo,xy,xv,xr⟩) (L.take i))[xT ⟨ff,tb,lo,hi'⟩]?=some u:=⟨_,List.getElem?_eq_getElem (by omega)⟩
   have cr:W3.cell? ⟨br,xT ⟨ff,tb,lo,hi'⟩,none⟩=some u:=(qa rr3 _).trans (by simpa using hu);have fr:W3.frozen? ⟨br,xT ⟨ff,tb,lo,hi'⟩,none⟩=false:=qt rr3 _;obtain⟨o,hoo⟩:∃o,o=xT ⟨ff,tb,lo,hi'⟩:=⟨_,rfl⟩
   rw[←hoo] at cn cr fr hfd HSN;simp only at hfd;have hib:jt ⟨xk,xx,xh,xj,xo,xy,xv,xr⟩ ⟨ff,tb,lo,hi'⟩=(decide (lo<=n)&&decide (n<=hi')):=by unfold jt;rw[←hnn]
   clear hnn;have RE3:=qd re3;have RR3:=qd rr3;have HFD:=qd hfd;have lw3:=qe re3;have lr3:=qe rr3;clear re3 rr3 hfd hu hLi hm hn hsn hoo ho hrl y0 y1 y2 y3 y4 y5 y6 y7 hnx b3;have hbr3:br < W3.heap.size:=lr3;have hcf:=fun args X=>KU hfa args X;simp only at hcf;clear hfa;go_wp2_with fail;refine(HFD.o _ _).mono ?_;rintro e W4 ⟨he,hw4⟩;subst he;subst hw4;have HE3:=qd (qp B3.o HGE.o HE.o);have hg3:8 < W3.heap.size:=by have:=HGE.o;have:=B3.o.size;omega
   by_cases hin:lo<=n/\n<=hi'
   case neg=>
    have HF:=qd (HPN.o (by rw[hib];simp;omega));by_cases hlo:n < lo
    ·have q1:decide (n < lo)=true:=by simpa using hlo
     have he3:=HE3.o;go_wp2;refine bodyPost_ret (v:=yD ⟨xk,xx,xh,xj,xo,xy,xv,xr⟩ vE L) (by simp[results,Tryz.results81,go_sem,yD,HF.o]) rfl ⟨rfl,?_⟩;exact B3.o.alloc B3.o.size _
    ·have q1:decide (n < lo)=false:=by simpa using hlo
     have q2':decide (hi' < n)=true:=by simp;omega
     have q3':decide (n > hi')=true:=by simp;omega
     have he3:=HE3.o;go_wp2;refine bodyPost_ret (v:=yD ⟨xk,xx,xh,xj,xo,xy,xv,xr⟩ vE L) (by simp[results,Tryz.results81,go_sem,yD,HF.o]) rfl ⟨rfl,?_⟩;exact B3.o.alloc B3.o.size _
   have q1:decide (n < lo)=false:=by simp;omega
   have q2':decide (hi' < n)=false:=by simp;omega
   have q3':decide (n > hi')=false:=by simp;omega
   have HYS:=qd (HPS.o (by rw[hib];simp;omega));go_wp2_with fail;refine(HFD.o _ _).mono ?_;rintro e W4 ⟨he,hw4⟩;subst he;subst hw4;go_wp2_with fail;go_roundw
   case rel=>
    have s3:=B3.o.setCell (p:=⟨br,o,none⟩) hbw (.int .i64 0);have s4:=B4.o.setCell (p:=⟨br,o,none⟩) hbw1 (.int .i64 0);exact⟨i+1,by omega,by go_num,HYS.o,s3.alloc s3.size _,s4.alloc s4.size _,qy (qI RE3.o hbe),by rw[HSN.o,←UK];exact qy (qn RR3.o _ _)⟩
   case measure=>simp[intOf];omega
  ·have hno:L[i]?=none:=List.getElem?_eq_none (by omega)
   obtain rfl:i=L.length:=by omega
   rw[hno];have hall:=Jc HPRE.o rfl;rw[List.take_length] at rr3;have y:=qa rr3;have ho8:∀f ∈ L,xT f < 8:=fun f hf=>(jU (HL.o.all f hf)).2;have hle:=fun j (hj:j < 8)=>XW ⟨xk,xx,xh,xj,xo,xy,xv,xr⟩ ho8 hj;have hlz:=uE (x:=⟨xk,xx,xh,xj,xo,xy,xv,xr⟩) (L:=L);generalize vh ⟨xk,xx,xh,xj,xo,xy,xv,xr⟩ L=m at *;have x0:W3.cell? ⟨br,0,none⟩=some (.int .i64 (m 0)):=(y 0).trans (by simpa using hle 0 (by decide));have x1:W3.cell? ⟨br,1,none⟩=some (.int .i64 (m 1)):=(y 1).trans (by simpa using hle 1 (by decide));have x2:W3.cell? ⟨br,2,none⟩=some (.int .i64 (m 2)):=(y 2).trans (by simpa using hle 2 (by decide));have x3:W3.cell? ⟨br,3,none⟩=some (.int .i64 (m 3)):=(y 3).trans (by simpa using hle 3 (by decide));have x4:W3.cell? ⟨br,4,none⟩=some (.int .i64 (m 4)):=(y 4).trans (by simpa using hle 4 (by decide));have x5:W3.cell? ⟨br,5,none⟩=some (.int .i64 (m 5)):=(y 5).trans (by simpa using hle 5 (by decide));have x6:W3.cell? ⟨br,6,none⟩=some (.int .i64 (m 6)):=(y 6).trans (by simpa using hle 6 (by decide));have x7:W3.cell? ⟨br,7,none⟩=some (.int .i64 (m 7)):=(y 7).trans (by simpa using hle 7 (by decide));generalize hm0:m 0=m0 at x0;generalize hm1:m 1=m1 at x1;generalize hm2:m 2=m2 at x2;generalize hm3:m 3=m3 at x3;generalize hm4:m 4=m4 at x4;generalize hm5:m 5=m5 at x5;generalize hm6:m 6=m6 at x6;generalize hm7:m 7=m7 at x7;have HE3:=qd (qp B3.o HGE.o HE.o);have hg3:8 < W3.heap.size:=by have:=HGE.o;have:=B3.o.size;omega
   have lr3:=qe rr3;clear y hle ho8 re3 rr3 y0 y1 y2 y3 y4 y5 y6 y7 hnx b3;have hv:yD ⟨xk,xx,xh,xj,xo,xy,xv,xr⟩ vE L=if m0=0/\m1=0/\m2=0/\m3=0/\m4=0/\m5=0/\m6=0/\m7=0 then .nilIface else vE:=by
    unfold yD;rw[hall,Bool.true_and];by_cases q:QX ⟨xk,xx,xh,xj,xo,xy,xv,xr⟩ L=true
    ·have q8:=hlz.1 q
     rw[if_pos q,if_pos];rw[←hm0,←hm1,←hm2,←hm3,←hm4,←hm5,←hm6,←hm7];exact⟨q8 0 (by decide),q8 1 (by decide),q8 2 (by decide),q8 3 (by decide),q8 4 (by decide),q8 5 (by decide),q8 6 (by decide),q8 7 (by decide)⟩
    ·rw [if_neg q,if_neg]
     rintro⟨h0,h1,h2,h3,h4,h5,h6,h7⟩;refine q (hlz.2 fun j hj=>?_)
     match j,hj with
     |0,_=>rw[hm0,h0]
     |1,_=>rw[hm1,h1]
     |2,_=>rw[hm2,h2]
     |3,_=>rw[hm3,h3]
     |4,_=>rw[hm4,h4]
     |5,_=>rw[hm5,h5]
     |6,_=>rw[hm6,h6]
     |7,_=>rw[hm7,h7]
   clear hlz hm0 hm1 hm2 hm3 hm4 hm5 hm6 hm7;by_cases hz:m0=0/\m1=0/\m2=0/\m3=0/\m4=0/\m5=0/\m6=0/\m7=0
   ·rw [if_pos hz] at hv
    have HVV:=qd hv;clear hv;obtain⟨rfl,rfl,rfl,rfl,rfl,rfl,rfl,rfl⟩:=hz;go_wp2_with fail;refine bodyPost_ret (v:=.nilIface) (by simp[results,Tryz.results81,go_sem]) rfl ⟨by rw[HVV.o],?_⟩;exact B3.o.alloc B3.o.size _
   ·rw [if_neg hz] at hv
    have HVV:=qd hv;clear hv;have he3:=HE3.o;go_wp2_with fail
    all_goals
     refine bodyPost_ret (v:=vE) (by simp[results,Tryz.results81,go_sem]) rfl ⟨by rw[HVV.o],?_⟩;exact B3.o.alloc B3.o.size _
end
section
attribute [local irreducible] xL
theorem g_Code1 (xk xx xh xj xo xy xv xr:Int) (hk:xk < 1\/7 < xk) (vC:Value) (w:World) (hW:xg w) (hgC:15 < w.heap.size) (hC:w.cell? ⟨15,0,none⟩=some vC):
  Calls Tryz.prog 81 #[Ql ⟨xk,xx,xh,xj,xo,xy,xv,xr⟩] w (fun e w'=>e=.returned vC/\Below w.heap.size w w'):=by
 have HE:=qd hC;have HGE:=qd hgC;clear hC hgC;have b0:Below w.heap.size w (w.alloc (.cells #[.int .i64 xk,.int .i64 xx,.int .i64 xh,.int .i64 xj,.int .i64 xo,.int .i64 xy,.int .i64 xv,.int .i64 xr] 69)):=(Below.refl _ w).alloc (Nat.le_refl _) _;have r0:=qs w (.cells #[.int .i64 xk,.int .i64 xx,.int .i64 xh,.int .i64 xj,.int .i64 xo,.int .i64 xy,.int .i64 xv,.int .i64 xr] 69);have hf:=jY (w.alloc (.cells #[.int .i64 xk,.int .i64 xx,.int .i64 xh,.int .i64 xj,.int .i64 xo,.int .i64 xy,.int .i64 xv,.int .i64 xr] 69)).drew;have HW:=qd (hW.below b0);clear hW;have q2:(xk==2)=false:=by simp;omega
 have q3:(xk==3)=false:=by simp;omega
 go_enter Tryz.func81,Tryz.ntmps81;go_wp2_with fail;generalize w.alloc (.cells #[.int .i64 xk,.int .i64 xx,.int .i64 xh,.int .i64 xj,.int .i64 xo,.int .i64 xy,.int .i64 xv,.int .i64 xr] 69)=W at *;have y0:=qa r0 0;have l0:=qe r0;simp at y0;refine qD (W.heap.size) [3,0,1,2,0] (.fin [1,2,0,3,4]) (by kernel_rfl) ?_;simp only[xC,qJ,qu,sD,sE,sF,sG]
 repeat first|(refine qq fun K hK=>?_;go_simp;refine hK _ _ ?_;clear hK K)|(apply qx;(intro w2 hw2;have hk1:=hw2.cell;have hk3:=hw2.1;clear hw2;go_simp;with_reducible rfl);simp only[Act.put,sA,sB,sC])
 refine qC (fun K hK=>?_);go_simp;refine hf.mono ?_;rintro e W1 ⟨bm,rfl,hF,b1⟩;refine hK _ _ (RN.KeepsN.of_below b1) ?_;clear hK K hf;have b1:Below W.heap.size W W1:=(Below.refl _ W).drew.trans b1;have z1:=b1.size;obtain⟨M,bq,hM,hc,hc2,hc3,hq,hbm⟩:=hF;have hmk:=hbm.2 xk hk;have lk:=(hM.look Tryz.underlying3 Tryz.underlying256 (XK W1) xk hmk).1;simp only[Option.getD_none] at lk;have r1:=qh r0 b1 l0;have eqn:Sem.run Tryz.prog (binOp BinOp.eql 255 Value.nilFunc Value.nilFunc) W1=.ok (.bool true) W1:=by kernel_rfl
 have HB:=qd (b0.trans (b1.mono b0.size));have b1x:=qd b1;have R1:=qd r1;have y:=qa r1;have y0:=y 0;have y1:=y 1;have y2:=y 2;have y3:=y 3;have y4:=y 4;have y5:=y 5;have y6:=y 6;have y7:=y 7;simp at y0 y1 y2 y3 y4 y5 y6 y7;clear y hM hc hc2 hc3 r0 b0 b1 hmk;refine qF (fun K hK=>?_);go_simp;refine hK _ _ ?_;clear hK K lk
 repeat first|(refine qq fun K hK=>?_;go_simp;refine hK _ _ ?_;clear hK K)|refine qm ?_
 have he3:=qp HB.o HGE.o HE.o;have hg3:15 < W1.heap.size:=by have:=HGE.o;have:=HB.o.size;omega
 go_wp2;refine bodyPost_ret (v:=vC) (by simp[results,Tryz.results81,go_sem]) rfl ⟨rfl,?_⟩;exact HB.o
theorem g_Code2 (xk xx xh xj xo xy xv xr:Int) (hop:jL xo=0) (hk:xk=2) (vC:Value) (w:World) (hW:xg w) (hgC:15 < w.heap.size) (hC:w.cell? ⟨15,0,none⟩=some vC):
  Calls Tryz.prog 81 #[Ql ⟨xk,xx,xh,xj,xo,xy,xv,xr⟩] w (fun e w'=>e=.returned vC/\Below w.heap.size w w'):=by
 have HE:=qd hC;have HGE:=qd hgC;clear hC hgC;have b0:Below w.heap.size w (w.alloc (.cells #[.int .i64 xk,.int .i64 xx,.int .i64 xh,.int .i64 xj,.int .i64 xo,.int .i64 xy,.int .i64 xv,.int .i64 xr] 69)):=(Below.refl _ w).alloc (Nat.le_refl _) _;have r0:=qs w (.cells #[.int .i64 xk,.int .i64 xx,.int .i64 xh,.int .i64 xj,.int .i64 xo,.int .i64 xy,.int .i64 xv,.int .i64 xr] 69);have hf:=jY (w.alloc (.cells #[.int .i64 xk,.int .i64 xx,.int .i64 xh,.int .i64 xj,.int .i64 xo,.int .i64 xy,.int .i64 xv,.int .i64 xr] 69)).drew;have HW:=qd (hW.below b0);clear hW;have q2:(xk==2)=true:=by simp;omega
 have q3:(xk==3)=false:=by simp;omega
 have HK:=qd hk;clear hk;go_enter Tryz.func81,Tryz.ntmps81;go_wp2_with fail;generalize w.alloc (.cells #[.int .i64 xk,.int .i64 xx,.int .i64 xh,.int .i64 xj,.int .i64 xo,.int .i64 xy,.int .i64 xv,.int .i64 xr] 69)=W at *;have y0:=qa r0 0;have l0:=qe r0;simp at y0;refine qD (W.heap.size) [3,0,1,2,0] (.fin [1,2,0,3,4]) (by kernel_rfl) ?_;simp only[xC,qJ,qu,sD,sE,sF,sG]
 repeat first|(refine qq fun K hK=>?_;go_simp;refine hK _ _ ?_;clear hK K)|(apply qx;(intro w2 hw2;have hk1:=hw2.cell;have hk3:=hw2.1;clear hw2;go_simp;with_reducible rfl);simp only[Act.put,sA,sB,sC])
 refine qC (fun K hK=>?_);go_simp;refine hf.mono ?_;rintro e W1 ⟨bm,rfl,hF,b1⟩;refine hK _ _ (RN.KeepsN.of_below b1) ?_;clear hK K hf;have b1:Below W.heap.size W W1:=(Below.refl _ W).drew.trans b1;have z1:=b1.size;obtain⟨M,bq,hM,hc,hc2,hc3,hq,hbm⟩:=hF;have hmk:M xk=some (.func (.func 183) #[] #[.pointer (some ⟨bq,0,none⟩)]):=by rw[HK.o];exact hc2
 have lk:=(hM.look Tryz.underlying3 Tryz.underlying256 (XK W1) xk hmk).1;simp only[Option.getD_some] at lk;have r1:=qh r0 b1 l0;have eqn:Sem.run Tryz.prog (binOp BinOp.eql 255 (.func (.func 183) #[] #[.pointer (some ⟨bq,0,none⟩)]) Value.nilFunc) W1=.ok (.bool false) W1:=by kernel_rfl
 have HB:=qd (b0.trans (b1.mono b0.size));have b1x:=qd b1;have R1:=qd r1;have y:=qa r1;have y0:=y 0;have y1:=y 1;have y2:=y 2;have y3:=y 3;have y4:=y 4;have y5:=y 5;have y6:=y 6;have y7:=y 7;simp at y0 y1 y2 y3 y4 y5 y6 y7;clear y hM hc hc2 hc3 r0 b0 b1 hmk;refine qF (fun K hK=>?_);go_simp;refine hK _ _ ?_;clear hK K lk
 repeat first|(refine qq fun K hK=>?_;go_simp;refine hK _ _ ?_;clear hK K)|refine qm ?_
 go_wp2_with fail;refine(NR xo _).mono ?_;rintro e W5 ⟨he,hw5⟩;subst he;rw[hw5];clear hw5 W5;have qop:(jL xo==0)=true:=by simpa using hop
 have he3:=qp HB.o HGE.o HE.o;have hg3:15 < W1.heap.size:=by have:=HGE.o;have:=HB.o.size;omega
 go_wp2;refine bodyPost_ret (v:=vC) (by simp[results,Tryz.results81,go_sem]) rfl ⟨rfl,?_⟩;exact HB.o
theorem g_Code3 (xk xx xh xj xo xy xv xr:Int) (hop:¬(1<=xr/\xr<=3)) (hdr:dI xr) (hk:xk=3) (vC:Value) (w:World) (hW:xg w) (hgC:15 < w.heap.size) (hC:w.cell? ⟨15,0,none⟩=some vC):
  Calls Tryz.prog 81 #[Ql ⟨xk,xx,xh,xj,xo,xy,xv,xr⟩] w (fun e w'=>e=.returned vC/\Below w.heap.size w w'):=by
 have HE:=qd hC;have HGE:=qd hgC;clear hC hgC;have b0:Below w.heap.size w (w.alloc (.cells #[.int .i64 xk,.int .i64 xx,.int .i64 xh,.int .i64 xj,.int .i64 xo,.int .i64 xy,.int .i64 xv,.int .i64 xr] 69)):=(Below.refl _ w).alloc (Nat.le_refl _) _;have r0:=qs w (.cells #[.int .i64 xk,.int .i64 xx,.int .i64 xh,.int .i64 xj,.int .i64 xo,.int .i64 xy,.int .i64 xv,.int .i64 xr] 69);have hf:=jY (w.alloc (.cells #[.int .i64 xk,.int .i64 xx,.int .i64 xh,.int .i64 xj,.int .i64 xo,.int .i64 xy,.int .i64 xv,.int .i64 xr] 69)).drew;have HW:=qd (hW.below b0);clear hW;have q2:(xk==2)=false:=by simp;omega
 have q3:(xk==3)=true:=by simp;omega
 have HK:=qd hk;clear hk;go_enter Tryz.func81,Tryz.ntmps81;go_wp2_with fail;generalize w.alloc (.cells #[.int .i64 xk,.int .i64 xx,.int .i64 xh,.int .i64 xj,.int .i64 xo,.int .i64 xy,.int .i64 xv,.int .i64 xr] 69)=W at *;have y0:=qa r0 0;have l0:=qe r0;simp at y0;refine qD (W.heap.size) [3,0,1,2,0] (.fin [1,2,0,3,4]) (by kernel_rfl) ?_;simp only[xC,qJ,qu,sD,sE,sF,sG]
 repeat first|(refine qq fun K hK=>?_;go_simp;refine hK _ _ ?_;clear hK K)|(apply qx;(intro w2 hw2;have hk1:=hw2.cell;have hk3:=hw2.1;clear hw2;go_simp;with_reducible rfl);simp only[Act.put,sA,sB,sC])
 refine qC (fun K hK=>?_);go_simp;refine hf.mono ?_;rintro e W1 ⟨bm,rfl,hF,b1⟩;refine hK _ _ (RN.KeepsN.of_below b1) ?_;clear hK K hf;have b1:Below W.heap.size W W1:=(Below.refl _ W).drew.trans b1;have z1:=b1.size;obtain⟨M,bq,hM,hc,hc2,hc3,hq,hbm⟩:=hF;have hmk:M xk=some (.func (.func 188) #[] #[.pointer (some ⟨bq,0,none⟩)]):=by rw[HK.o];exact hc3
 have lk:=(hM.look Tryz.underlying3 Tryz.underlying256 (XK W1) xk hmk).1;simp only[Option.getD_some] at lk;have r1:=qh r0 b1 l0;have eqn:Sem.run Tryz.prog (binOp BinOp.eql 255 (.func (.func 188) #[] #[.pointer (some ⟨bq,0,none⟩)]) Value.nilFunc) W1=.ok (.bool false) W1:=by kernel_rfl
 have HB:=qd (b0.trans (b1.mono b0.size));have b1x:=qd b1;have R1:=qd r1;have y:=qa r1;have y0:=y 0;have y1:=y 1;have y2:=y 2;have y3:=y 3;have y4:=y 4;have y5:=y 5;have y6:=y 6;have y7:=y 7;simp at y0 y1 y2 y3 y4 y5 y6 y7;clear y hM hc hc2 hc3 r0 b0 b1 hmk;refine qF (fun K hK=>?_);go_simp;refine hK _ _ ?_;clear hK K lk
 repeat first|(refine qq fun K hK=>?_;go_simp;refine hK _ _ ?_;clear hK K)|refine qm ?_
 go_wp2_with fail;obtain⟨s,hs,hsq⟩:∃s:ByteArray,Calls Tryz.prog 130 #[.int .i64 4,.int .i64 xr] W1 (fun e w'=>e=.returned (.string s)/\Below W1.heap.size W1 w')/\s.toList.isEmpty=true:=⟨_,Wx (HW.o.below (b1x.o)) xr hdr,by rw[QD];simp;omega⟩
 refine hs.mono ?_;rintro e W5 ⟨he,b5⟩;subst he;have HB:=qd (HB.o.trans (b5.mono HB.o.size));have r1:=qh R1.o b5 (qe R1.o);have R1:=qd r1;have y:=qa r1;have y0:=y 0;have y1:=y 1;have y2:=y 2;have y3:=y 3;have y4:=y 4;have y5:=y 5;have y6:=y 6;have y7:=y 7;simp at y0 y1 y2 y3 y4 y5 y6 y7;clear y hs;have he3:=qp HB.o HGE.o HE.o;have hg3:15 < W5.heap.size:=by have:=HGE.o;have:=HB.o.size;omega
 go_wp2;refine bodyPost_ret (v:=vC) (by simp[results,Tryz.results81,go_sem]) rfl ⟨rfl,?_⟩;exact HB.o
def ub (x:Ev):Option (List Fd):=
 if x.kind=2 then(if jL x.op=0 then none else some (jd x.op))
 else if x.kind=3 then(if 1<=x.ret/\x.ret<=3 then some (YC x.ret) else none)
 else if x.kind=1\/4<=x.kind/\x.kind < 8 then some (XB x.kind) else none
def xM (x:Ev):Bool:=match ub x with
 |none=>false
 |some L=>L.all (jt x)&&QX x L
theorem listG_ok {x:Ev} {L:List Fd} (h:ub x=some L):FdsG L:=by
 unfold ub at h
 split at h
 ·split at h
  ·cases h
  ·cases h
   unfold jd;refine⟨fun f hf=>?_,?_⟩
   ·cases uy x.op <;> cases yV x.op <;> simp at hf <;> rcases hf with h|h|h|h|h <;> simp[vp, *]
   ·cases uy x.op <;> cases yV x.op <;> simp
 ·split at h
  ·split at h
   ·cases h
    unfold YC;refine⟨fun f hf=>?_,?_⟩
    ·split at hf <;> simp at hf <;> rcases hf with h|h|h <;> simp[vp, *]
    ·split <;> simp
   ·cases h
  ·split at h
   ·cases h
    unfold XB;refine⟨fun f hf=>?_,?_⟩
    ·split at hf <;> simp at hf <;> rcases hf with h|h <;> simp[vp, *]
    ·split <;> simp
   ·cases h
theorem zW (x:Ev) (hdr:dI x.ret) (w:World) (hW:xg w) (vC vE:Value)
  (hgC:15 < w.heap.size) (hC:w.cell? ⟨15,0,none⟩=some vC)
  (hgE:8 < w.heap.size) (hE:w.cell? ⟨8,0,none⟩=some vE):
  Calls Tryz.prog 81 #[Ql x] w fun e w'=>e=.returned (if xM x then .nilIface else if (ub x).isSome then vE else vC)/\Below w.heap.size w w':=by
 obtain⟨xk,xx,xh,xj,xo,xy,xv,xr⟩:=x;cases h:ub ⟨xk,xx,xh,xj,xo,xy,xv,xr⟩ with
 |none=>
  have hv:xM ⟨xk,xx,xh,xj,xo,xy,xv,xr⟩=false:=by unfold xM;rw[h]
  rw[hv];simp only[Bool.false_eq_true,if_false,Option.isSome_none];unfold ub at h;simp only at h
  split at h
  ·split at h
   ·exact g_Code2 xk xx xh xj xo xy xv xr ‹_› ‹_› vC w hW hgC hC
   ·cases h
  ·split at h
   ·split at h
    ·cases h
    ·exact g_Code3 xk xx xh xj xo xy xv xr ‹_› hdr ‹_› vC w hW hgC hC
   ·split at h
    ·cases h
    ·exact g_Code1 xk xx xh xj xo xy xv xr (by omega) vC w hW hgC hC
 |some L=>
  have hL:=listG_ok h;have hv:(if xM ⟨xk,xx,xh,xj,xo,xy,xv,xr⟩ then Value.nilIface else if (some L).isSome then vE else vC)=yD ⟨xk,xx,xh,xj,xo,xy,xv,xr⟩ vE L:=by
   unfold xM yD;rw[h];rfl
  rw[hv];unfold ub at h;simp only at h
  split at h
  ·split at h
   ·cases h
   ·exact g_Valid2 xk xx xh xj xo xy xv xr ‹_› ‹_› L hL vE w hW hgE hE (Option.some.inj h).symm
  ·split at h
   ·split at h
    ·exact g_Valid3 xk xx xh xj xo xy xv xr ‹_› hdr ‹_› L hL vE w hW hgE hE (Option.some.inj h).symm
    ·cases h
   ·split at h
    ·exact g_Valid1 xk xx xh xj xo xy xv xr ‹_› L hL vE w hW hgE hE (Option.some.inj h).symm
    ·cases h
end
section
attribute [local irreducible] xL
def heldB (k:Int):Bool:=k==1||k==2
def jo (o:Ob):Bool:=decide (1<=o.kind/\o.kind<=4)&&decide (-1000000000<=o.init)&&decide (o.init<=1000000000)&&(heldB o.kind||o.init==0)
theorem Qy (k n:Int) (hd:dI k) (w:World) (hW:xg w) (vO:Value) (hgO:3 < w.heap.size) (hO:w.cell? ⟨3,0,none⟩=some vO):
  Calls Tryz.prog 79 #[.agg #[.int .i64 k,.int .i64 n]] w fun e w'=>e=.returned (if jo ⟨k,n⟩ then .nilIface else vO)/\Below w.heap.size w w':=by
 have b0:Below w.heap.size w (w.alloc (.cells #[.int .i64 k,.int .i64 n] 62)):=(Below.refl _ w).alloc (Nat.le_refl _) _;have hw1:=hW.below b0;obtain⟨s,hs,hsq⟩:∃s:ByteArray,Calls Tryz.prog 130 #[.int .i64 1,.int .i64 k] (w.alloc (.cells #[.int .i64 k,.int .i64 n] 62)) (fun e w'=>e=.returned (.string s)/\Below (w.alloc (.cells #[.int .i64 k,.int .i64 n] 62)).heap.size (w.alloc (.cells #[.int .i64 k,.int .i64 n] 62)) w')/\s.toList.isEmpty=!(decide (1<=k/\k<=4)):=⟨_,g_object hw1 k hd,Ju k⟩
 have r0:=qs w (.cells #[.int .i64 k,.int .i64 n] 62);have HS:=qd hs;have HSQ:=qd hsq;have HGO:=qd hgO;have HO:=qd hO;clear hs hw1 hsq hgO hO;go_enter Tryz.func79,Tryz.ntmps79;obtain⟨h1,hh1⟩:∃b,(k==1)=b:=⟨_,rfl⟩
 obtain⟨h2,hh2⟩:∃b,(k==2)=b:=⟨_,rfl⟩
 obtain⟨h3,hh3⟩:∃b,decide (n < -1000000000)=b:=⟨_,rfl⟩
 obtain⟨h4,hh4⟩:∃b,decide (n > 1000000000)=b:=⟨_,rfl⟩
 obtain⟨h5,hh5⟩:∃b,(n==0)=b:=⟨_,rfl⟩
 obtain⟨h6,hh6⟩:∃b,decide (1<=k/\k<=4)=b:=⟨_,rfl⟩
 have hh4':decide (1000000000 < n)=h4:=hh4;have hh5':(n !=0)=!h5:=by rw[←hh5];rfl
 have hv:jo ⟨k,n⟩=(h6&&!h3&&!h4&&(h1||h2||h5)):=by
  unfold jo heldB;simp only;have e3:decide (-1000000000<=n)=!h3:=by
   rw[←hh3];by_cases q:n < -1000000000
   ·simp [q]
   ·simp [q];omega
  have e4:decide (n<=1000000000)=!h4:=by
   rw[←hh4];by_cases q:n > 1000000000
   ·simp [q]
   ·simp [q];omega
  rw[hh1,hh2,hh5,hh6,e3,e4]
 have hsq:=HSQ.o;rw[hh6] at hsq;rw[hv];obtain⟨V,hV⟩:∃V,V=(if (h6&&!h3&&!h4&&(h1||h2||h5))=true then Value.nilIface else vO):=⟨_,rfl⟩
 rw[←hV];have HV:=qd hV;clear hv hV HSQ hh6;cases h1 <;> cases h2 <;>
 ·go_wp2_with fail
  generalize w.alloc (.cells #[.int .i64 k,.int .i64 n] 62)=W at *;refine(HS.o).mono ?_;rintro e W1 ⟨rfl,b1⟩;have r1:=qh r0 b1 (qe r0);have y0:=qa r1 0;have y1:=qa r1 1;simp at y0 y1;have l1:=qe r1;have B1:=qd (b0.trans (b1.mono b0.size));have he3:=qp B1.o HGO.o HO.o;have hg3:3 < W1.heap.size:=by have:=HGO.o;have:=B1.o.size;omega
  clear b1 r1 r0 b0 HS;cases h6 <;> cases h3 <;> cases h4 <;> cases h5 <;>
  ·have hV:=HV.o
   simp at hV;subst hV;clear HV;go_wp2
   all_goals
    refine bodyPost_ret (v:=_) ?_ rfl ⟨rfl,B1.o⟩;simp[results,Tryz.results79,go_sem]
end
section
attribute [local irreducible] xL
def jh (w:World) (g:Nat):Prop:=g < w.heap.size/\∃t x,w.cell? ⟨g,0,none⟩=some (.iface t x)
theorem jh.below {w w':World} {g:Nat} (h:jh w g) (hb:Below w.heap.size w w'):jh w' g:=let ⟨h1,t,x,h2⟩:=h;⟨by have:=hb.size;omega,t,x,qp hb h1 h2⟩
structure Jl (w:World):Prop where
 code:jh w 15
 event:jh w 8
 object:jh w 3
 op:jh w 7
 many:jh w 4
theorem Jl.below {w w':World} (h:Jl w) (hb:Below w.heap.size w w'):Jl w':=⟨h.code.below hb,h.event.below hb,h.object.below hb,h.op.below hb,h.many.below hb⟩
def YF (os:List Ob) (x:Ev):Bool:=xM x&&(x.kind !=2||(match os[x.obj.toNat]? with
 |some o=>jL x.op==o.kind
 |none=>false))
def xJ (os:List Ob) (es:List Ev):Bool:=decide (os.length<=8)&&decide (es.length<=400)&&os.all jo&&es.all (YF os)
def Jg (b:Bool) (w:World) (e:Ending) (w':World):Prop:=(∃v,e=.returned v/\(b=true->v=.nilIface)/\(b=false->∃t x,v=.iface t x))/\Below w.heap.size w w'
theorem YO (i:Int) (t:TypeId) (x:Value) (w:World):Calls Tryz.prog 80 #[.int .i64 i,.iface t x] w fun e w'=>(∃t x,e=.returned (.iface t x))/\Below w.heap.size w w':=by
 go_enter Tryz.func80,Tryz.ntmps80;go_wp2;go_ret;exact⟨⟨_,_,rfl⟩,(Below.refl _ w).alloc (Nat.le_refl _) _⟩
end
