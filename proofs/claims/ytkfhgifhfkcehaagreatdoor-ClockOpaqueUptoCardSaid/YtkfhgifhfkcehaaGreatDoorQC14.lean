/- Parts of the proof; the first: Events: which may be. Conditions: those of each theorem, as typed. -/
import Derived.Test.YtkfhgifhfkcehaaGreatDoorQC13
import Derived.Test.YtkfhgifhfkcehaaGreatDoorQC11
import Derived.Test.YtkfhgifhfkcehaaGreatDoorQC12
import Derived.Test.YtkfhgifhfkcehaaGreatDoorQC10
import Derived.Deep.CutRange
import Derived.Shelf.Abstract
set_option linter.unusedVariables false
set_option linter.unusedSimpArgs false
set_option linter.unusedSectionVars false
set_option maxRecDepth 100000
set_option maxHeartbeats 4000000
namespace Go.Proofs.YtkfhgifhfkcehaaGreatDoor
open Go.Maps Go.RowKit Go.Shelf
section
attribute [local irreducible] xL
def fdAll:List Fd:=[qM,xz,yd,ya,fdVa,xq]
def xW (f:Fd):Nat:=if f.f=221 then 1 else if f.f=222 then 2 else if f.f=223 then 3 else if f.f=224 then 4 else if f.f=226 then 6 else 7
theorem fd_of {f:Fd} (h:f ∈ fdAll) (b:Nat) (w:World):Calls Tryz.prog f.f #[.pointer (some ⟨b,0,none⟩)] w fun e w'=>e=.returned (.pointer (some ⟨b,xW f,none⟩))/\w'=w:=by
 simp only[fdAll,List.mem_cons,List.not_mem_nil,or_false] at h;rcases h with rfl|rfl|rfl|rfl|rfl|rfl
 ·exact e_tx1 b w
 ·exact e_thread1 b w
 ·exact e_obj1 b w
 ·exact e_op1 b w
 ·exact e_val1 b w
 ·exact e_ret1 b w
theorem cf_of {f:Fd} (h:f ∈ fdAll) (args:Array Value) (X:World):Sem.run Tryz.prog (callFunc f.f args) X=.ok (.enter f.f args) X:=by
 simp only[fdAll,List.mem_cons,List.not_mem_nil,or_false] at h;rcases h with rfl|rfl|rfl|rfl|rfl|rfl <;> kernel_rfl
theorem off_lt {f:Fd} (h:f ∈ fdAll):1<=xW f/\xW f < 8:=by
 simp only[fdAll,List.mem_cons,List.not_mem_nil,or_false] at h;rcases h with rfl|rfl|rfl|rfl|rfl|rfl <;> decide
def yt (cs:List Value) (l:List Fd):List Value:=l.foldl (fun cs f=>cs.set (xW f) (.int .i64 0)) cs
theorem restF_snoc (cs:List Value) (l:List Fd) (f:Fd):yt cs (l++[f])=(yt cs l).set (xW f) (.int .i64 0):=by simp[yt,List.foldl_append]
theorem restF_len (cs:List Value):∀(l:List Fd),(yt cs l).length=cs.length:=fun l=>by
 induction l generalizing cs with
 |nil=>rfl
 |cons f l ih=>show(yt (cs.set _ _) l).length=_;rw[ih,List.length_set]
theorem set_row (cs:List Value) (j:Nat) (v:Value):cs.toArray.setIfInBounds j v=(cs.set j v).toArray:=by simp
def yQ (x:Ev):List Value:=[.int .i64 0,.int .i64 x.tx,.int .i64 x.thread,.int .i64 x.obj,.int .i64 x.op,.int .i64 x.key,.int .i64 x.val,.int .i64 x.ret]
structure FdsOk (x:Ev) (L:List Fd):Prop where
 all:∀f ∈ L,f ∈ fdAll
 val:∀f ∈ L,∃n:Int,x.cells[xW f]?=some (.int .i64 n)/\f.lo<=n/\n<=f.hi
 rest:yt (yQ x) L=List.replicate 8 (.int .i64 0)
 len:L.length<=10
def ValRet (w:World) (e:Ending) (w':World):Prop:=e=.returned .nilIface/\Below w.heap.size w w'
structure xa (w:World):Prop where
 big:19 < w.heap.size
 ok:w.cell? ⟨19,0,none⟩=some (.string ⟨#[111,107]⟩)
 val:w.cell? ⟨19,2,none⟩=some (.string ⟨#[118,97,108]⟩)
 reg:w.cell? ⟨16,0,none⟩=some (.string ⟨#[114,101,103,105,115,116,101,114]⟩)
theorem xa.below {w w':World} (h:xa w) (hb:Below w.heap.size w w'):xa w':=
 have h1:=h.big
 ⟨by have:=hb.size;omega,qu hb h1 h.ok,qu hb h1 h.val,qu hb (by omega) h.reg⟩
theorem ba_loop (s:ByteArray):∀(n i:Nat) (r:List UInt8),s.size - i=n->ByteArray.toList.loop s i r=r.reverse++s.data.toList.drop i
 |0,i,r,h=>by
  unfold ByteArray.toList.loop;have h1:s.size=s.data.size:=rfl;rw[if_neg (by omega),List.drop_eq_nil_of_le (by simp;omega)];simp
 |n+1,i,r,h=>by
  unfold ByteArray.toList.loop;have h1:s.size=s.data.size:=rfl;rw[if_pos (by omega),ba_loop s n (i+1) _ (by omega)];have hi:i < s.data.toList.length:=by simp;omega
  rw[List.drop_eq_getElem_cons hi];have:s.get! i=s.data.toList[i]:=by
   show s.data[i]! =_;rw[getElem!_pos s.data i (by simpa using hi)];simp
  simp[this]
theorem ba_toList (s:ByteArray):s.toList=s.data.toList:=by
 unfold ByteArray.toList;rw[ba_loop s _ 0 [] rfl];simp
theorem e_answerR {r:Int} (hr:r=1\/r=3) {w:World} (h:xa w):∃s:ByteArray,Calls Tryz.prog 119 #[.int .i64 4,.int .i64 r] w (fun e w'=>e=.returned (.string s)/\Below w.heap.size w w')/\s.toList.isEmpty=false:=by
 have h1:=h.big;rcases hr with rfl|rfl
 ·exact ⟨⟨#[111,107]⟩,e_answer (i:=0) (by omega) h.ok (by omega),by rw[ba_toList];rfl⟩
 ·exact ⟨⟨#[118,97,108]⟩,e_answer (i:=2) (by omega) h.val (by omega),by rw[ba_toList];rfl⟩
theorem zeroFn (w:World):(zeroValue 228).run Tryz.prog w=.ok .nilFunc w:=by kernel_rfl
theorem e_Valid1 (xk xx xh xj xo xy xv xr:Int) (hk:xk=1\/4<=xk/\xk < 8) (L:List Fd) (hL:FdsOk ⟨xk,xx,xh,xj,xo,xy,xv,xr⟩ L) (w:World) (hW:xa w) (hL1:L=fdsOf xk):
  Calls Tryz.prog 73 #[yv ⟨xk,xx,xh,xj,xo,xy,xv,xr⟩] w (ValRet w):=by
 have b0:Below w.heap.size w (w.alloc (.cells #[.int .i64 xk,.int .i64 xx,.int .i64 xh,.int .i64 xj,.int .i64 xo,.int .i64 xy,.int .i64 xv,.int .i64 xr] 53)):=(Below.refl _ w).alloc (Nat.le_refl _) _;have r0:=qy w (.cells #[.int .i64 xk,.int .i64 xx,.int .i64 xh,.int .i64 xj,.int .i64 xo,.int .i64 xy,.int .i64 xv,.int .i64 xr] 53);have hf:=e_fields (w.alloc (.cells #[.int .i64 xk,.int .i64 xx,.int .i64 xh,.int .i64 xj,.int .i64 xo,.int .i64 xy,.int .i64 xv,.int .i64 xr] 53)).drew;have HW:=qj (hW.below b0);have HL:=qj hL;clear hW hL;have q2:(xk==2)=false:=by simp;omega
 have q3:(xk==3)=false:=by simp;omega
 go_enter Tryz.func73,Tryz.ntmps73;go_wp2_with fail;generalize w.alloc (.cells #[.int .i64 xk,.int .i64 xx,.int .i64 xh,.int .i64 xj,.int .i64 xo,.int .i64 xy,.int .i64 xv,.int .i64 xr] 53)=W at *;have y0:=qg r0 0;have l0:=qh r0;simp at y0;refine qT (W.heap.size) [3,0,1,2,0] (.fin [1,2,0,3,4]) (by kernel_rfl) ?_;simp only[yp,qP,qD,sD,sE,sF,sG]
 repeat first|(refine qC fun K hK=>?_;go_simp;refine hK _ _ ?_;clear hK K)|(apply qJ;(intro w2 hw2;have hk1:=hw2.cell;have hk3:=hw2.1;clear hw2;go_simp;with_reducible rfl);simp only[Act.put,sA,sB,sC])
 refine qI (fun K hK=>?_);go_simp;refine hf.mono ?_;rintro e W1 ⟨bm,rfl,hF,b1⟩;refine hK _ _ (RN.KeepsN.of_below b1) ?_;clear hK K hf;have b1:Below W.heap.size W W1:=(Below.refl _ W).drew.trans b1;have z1:=b1.size;obtain⟨M,bq,hM,hc,hc2,hc3,hq,hbm⟩:=hF;obtain⟨v,hmk,bl,sv,rfl,hbl,hsv⟩:=hc xk hk;have lk:=(hM.look Tryz.underlying3 Tryz.underlying229 (zeroFn W1) xk hmk).1;simp only[Option.getD_some] at lk;have r1:=qp r0 b1 l0;have eqn:Sem.run Tryz.prog (binOp BinOp.eql 228 (.func (.func 162) #[] #[.pointer (some ⟨bl,0,none⟩)]) Value.nilFunc) W1=.ok (.bool false) W1:=by kernel_rfl
 have HB:=qj (b0.trans (b1.mono b0.size));have b1x:=qj b1;have R1:=qj r1;have y:=qg r1;have y0:=y 0;have y1:=y 1;have y2:=y 2;have y3:=y 3;have y4:=y 4;have y5:=y 5;have y6:=y 6;have y7:=y 7;simp at y0 y1 y2 y3 y4 y5 y6 y7;clear y hM hc hc2 hc3 r0 b0 b1 hmk;refine qN (fun K hK=>?_);go_simp;refine hK _ _ ?_;clear hK K lk
 repeat first|(refine qC fun K hK=>?_;go_simp;refine hK _ _ ?_;clear hK K)|refine qA ?_
 go_wp2_with fail;have ba:Below W1.heap.size W1 (W1.alloc (.cells #[.int .i64 0,.int .i64 xx,.int .i64 xh,.int .i64 xj,.int .i64 xo,.int .i64 xy,.int .i64 xv,.int .i64 xr] 53)):=(Below.refl _ W1).alloc (Nat.le_refl _) _;have ra:=qy W1 (.cells (yQ ⟨xk,xx,xh,xj,xo,xy,xv,xr⟩).toArray 53);rw[show (yQ ⟨xk,xx,xh,xj,xo,xy,xv,xr⟩).toArray=#[.int .i64 0,.int .i64 xx,.int .i64 xh,.int .i64 xj,.int .i64 xo,.int .i64 xy,.int .i64 xv,.int .i64 xr] from rfl] at ra;generalize W1.alloc (.cells #[.int .i64 0,.int .i64 xx,.int .i64 xh,.int .i64 xj,.int .i64 xo,.int .i64 xy,.int .i64 xv,.int .i64 xr] 53)=W2 at *;rw[show (#[.int .i64 0,.int .i64 xx,.int .i64 xh,.int .i64 xj,.int .i64 xo,.int .i64 xy,.int .i64 xv,.int .i64 xr]:Array Value)=(yQ ⟨xk,xx,xh,xj,xo,xy,xv,xr⟩).toArray from rfl] at ra;have hnext:∀(wr:World),Below W1.heap.size W1 wr->∀i:Nat,i<=100->Calls Tryz.prog 162 #[yv ⟨xk,xx,xh,xj,xo,xy,xv,xr⟩,.int .i64 i,.pointer (some ⟨bl,0,none⟩)] wr (FdRet L i wr):=by
  intro wr hb i hi;have b2:=hb;rw[hL1];exact e_next _ i hi bl sv _ (qp hbl b2 (qh hbl)) (qq.sl (qq.below hsv b2))
 clear hbl hsv hL1;have B2:=qj ba;have RA:=qj ra;have BB:=qj (HB.o.trans (ba.mono HB.o.size));have RE:=qj (qp R1.o ba (qh R1.o));have lb:=qh R1.o;have hbb:=HB.o.size;have zz:=ba.size;clear ba ra y0 y1 y2 y3 y4 y5 y6 y7 eqn;obtain⟨br,hbr⟩:∃br,br=W1.heap.size:=⟨_,rfl⟩
 rw[←hbr] at RA ⊢;have hbw:w.heap.size<=br:=by omega
 have hbe:br≠w.heap.size:=by omega
 have hbw1:W1.heap.size<=br:=by omega
 clear hbr r1;have hlen:=HL.o.len
 go_loopw [5] (fun p wr=>∃i:Nat,i<=L.length/\p=.int .i64 i/\Below w.heap.size w wr/\Below W1.heap.size W1 wr/\wr.heap[w.heap.size]?=some (.cells #[.int .i64 xk,.int .i64 xx,.int .i64 xh,.int .i64 xj,.int .i64 xo,.int .i64 xy,.int .i64 xv,.int .i64 xr] 53 (0,0))/\wr.heap[br]?=some (.cells (yt (yQ ⟨xk,xx,xh,xj,xo,xy,xv,xr⟩) (L.take i)).toArray 53 (0,0))) (fun p _=>L.length - (intOf p).toNat)
 case atStart=>exact⟨0,by omega,by go_num,BB.o,B2.o,RE.o,RA.o⟩
 case round=>
  obtain⟨i,hi,rfl,hB,hB2,hre,hrr⟩:=hrel;have lw:=qh hre;have lr:=qh hrr;have y:=qg hre;have y0:=y 0;have y1:=y 1;have y2:=y 2;have y3:=y 3;have y4:=y 4;have y5:=y 5;have y6:=y 6;have y7:=y 7;simp at y0 y1 y2 y3 y4 y5 y6 y7;have hnx:=qj (hnext wr (hB2) i (by omega));have HBw:=qj hB;have HB2:=qj hB2;have HRE:=qj hre;have HRR:=qj hrr;clear y hB hB2 hre hrr;go_wp2_with fail;refine(hnx.o).mono ?_;rintro e W3 ⟨he,b3⟩;subst he;have z3:=b3.size;have re3:=qp HRE.o b3 lw;have rr3:=qp HRR.o b3 lr;have B3:=qj (HBw.o.trans (b3.mono HBw.o.size));have B4:=qj (HB2.o.trans (b3.mono HB2.o.size));by_cases hlt:i < L.length
  ·have hLi:L[i]?=some L[i]:=List.getElem?_eq_getElem hlt
   have hm:L[i] ∈ L:=List.getElem_mem hlt;have hfa:=HL.o.all _ hm;obtain⟨n,hn,hlo,hhi⟩:=HL.o.val _ hm;have ho:=off_lt hfa;have hsn:yt (yQ ⟨xk,xx,xh,xj,xo,xy,xv,xr⟩) (L.take (i+1))=(yt (yQ ⟨xk,xx,xh,xj,xo,xy,xv,xr⟩) (L.take i)).set (xW L[i]) (.int .i64 0):=by rw[List.take_succ_eq_append_getElem hlt,restF_snoc]
   have HSN:=qj hsn;have hrl:(yt (yQ ⟨xk,xx,xh,xj,xo,xy,xv,xr⟩) (L.take i)).length=8:=by rw[restF_len];rfl
   have hfd:=fun b w=>fd_of hfa b w;rw[hLi];generalize L[i]=f at *;obtain⟨ff,tb,lo,hi'⟩:=f;have cn:W3.cell? ⟨w.heap.size,xW ⟨ff,tb,lo,hi'⟩,none⟩=some (.int .i64 n):=(qg re3 _).trans (by simpa[Ev.cells] using hn);obtain⟨u,hu⟩:∃u,(yt (yQ ⟨xk,xx,xh,xj,xo,xy,xv,xr⟩) (L.take i))[xW ⟨ff,tb,lo,hi'⟩]?=some u:=⟨_,List.getElem?_eq_getElem (by omega)⟩
   have cr:W3.cell? ⟨br,xW ⟨ff,tb,lo,hi'⟩,none⟩=some u:=(qg rr3 _).trans (by simpa using hu);have fr:W3.frozen? ⟨br,xW ⟨ff,tb,lo,hi'⟩,none⟩=false:=qx rr3 _;obtain⟨o,hoo⟩:∃o,o=xW ⟨ff,tb,lo,hi'⟩:=⟨_,rfl⟩
   rw[←hoo] at cn cr fr hfd HSN;simp only at hlo hhi hfd;have q1:decide (n < lo)=false:=by simp;omega
   have q2':decide (hi' < n)=false:=by simp;omega
   have q3':decide (n > hi')=false:=by simp;omega
   have RE3:=qj re3;have RR3:=qj rr3;have HFD:=qj hfd;have lw3:=qh re3;have lr3:=qh rr3;clear re3 rr3 hfd hu hLi hm hn hsn hoo ho hrl y0 y1 y2 y3 y4 y5 y6 y7 hnx b3 hlo hhi;have hbr3:br < W3.heap.size:=lr3;have hcf:=fun args X=>cf_of hfa args X;simp only at hcf;clear hfa;go_wp2_with fail;refine(HFD.o _ _).mono ?_;rintro e W4 ⟨he,hw4⟩;subst he;subst hw4;go_wp2_with fail;refine(HFD.o _ _).mono ?_;rintro e W4 ⟨he,hw4⟩;subst he;subst hw4;go_wp2_with fail;go_roundw
   case rel=>
    have s3:=B3.o.setCell (p:=⟨br,o,none⟩) hbw (.int .i64 0);have s4:=B4.o.setCell (p:=⟨br,o,none⟩) hbw1 (.int .i64 0);exact⟨i+1,by omega,by go_num,s3.alloc s3.size _,s4.alloc s4.size _,qF (qK RE3.o hbe),by rw[HSN.o,←set_row];exact qF (qB RR3.o _ _)⟩
   case measure=>simp[intOf];omega
  ·have hno:L[i]?=none:=List.getElem?_eq_none (by omega)
   obtain rfl:i=L.length:=by omega
   rw[hno];have hz:=HL.o.rest;rw[List.take_length] at rr3;rw[hz] at rr3;have y:=qg rr3;have x0:=y 0;have x1:=y 1;have x2:=y 2;have x3:=y 3;have x4:=y 4;have x5:=y 5;have x6:=y 6;have x7:=y 7;simp at x0 x1 x2 x3 x4 x5 x6 x7;have lr3:=qh rr3;clear y hz re3 rr3 y0 y1 y2 y3 y4 y5 y6 y7 hnx b3;go_wp2_with fail;refine bodyPost_ret (v:=.nilIface) (by simp[results,Tryz.results73,go_sem]) rfl ⟨rfl,?_⟩;exact B3.o.alloc B3.o.size _
theorem e_Valid2 (xk xx xh xj xo xy xv xr:Int) (hop:xo=1\/xo=2) (hk:xk=2) (L:List Fd) (hL:FdsOk ⟨xk,xx,xh,xj,xo,xy,xv,xr⟩ L) (w:World) (hW:xa w) (hL1:L=callFds xo):
  Calls Tryz.prog 73 #[yv ⟨xk,xx,xh,xj,xo,xy,xv,xr⟩] w (ValRet w):=by
 have b0:Below w.heap.size w (w.alloc (.cells #[.int .i64 xk,.int .i64 xx,.int .i64 xh,.int .i64 xj,.int .i64 xo,.int .i64 xy,.int .i64 xv,.int .i64 xr] 53)):=(Below.refl _ w).alloc (Nat.le_refl _) _;have r0:=qy w (.cells #[.int .i64 xk,.int .i64 xx,.int .i64 xh,.int .i64 xj,.int .i64 xo,.int .i64 xy,.int .i64 xv,.int .i64 xr] 53);have hf:=e_fields (w.alloc (.cells #[.int .i64 xk,.int .i64 xx,.int .i64 xh,.int .i64 xj,.int .i64 xo,.int .i64 xy,.int .i64 xv,.int .i64 xr] 53)).drew;have HW:=qj (hW.below b0);have HL:=qj hL;clear hW hL;have q2:(xk==2)=true:=by simp;omega
 have q3:(xk==3)=false:=by simp;omega
 have HK:=qj hk;clear hk;go_enter Tryz.func73,Tryz.ntmps73;go_wp2_with fail;generalize w.alloc (.cells #[.int .i64 xk,.int .i64 xx,.int .i64 xh,.int .i64 xj,.int .i64 xo,.int .i64 xy,.int .i64 xv,.int .i64 xr] 53)=W at *;have y0:=qg r0 0;have l0:=qh r0;simp at y0;refine qT (W.heap.size) [3,0,1,2,0] (.fin [1,2,0,3,4]) (by kernel_rfl) ?_;simp only[yp,qP,qD,sD,sE,sF,sG]
 repeat first|(refine qC fun K hK=>?_;go_simp;refine hK _ _ ?_;clear hK K)|(apply qJ;(intro w2 hw2;have hk1:=hw2.cell;have hk3:=hw2.1;clear hw2;go_simp;with_reducible rfl);simp only[Act.put,sA,sB,sC])
 refine qI (fun K hK=>?_);go_simp;refine hf.mono ?_;rintro e W1 ⟨bm,rfl,hF,b1⟩;refine hK _ _ (RN.KeepsN.of_below b1) ?_;clear hK K hf;have b1:Below W.heap.size W W1:=(Below.refl _ W).drew.trans b1;have z1:=b1.size;obtain⟨M,bq,hM,hc,hc2,hc3,hq,hbm⟩:=hF;have hmk:M xk=some (.func (.func 165) #[] #[.pointer (some ⟨bq,0,none⟩)]):=by rw[HK.o];exact hc2
 have lk:=(hM.look Tryz.underlying3 Tryz.underlying229 (zeroFn W1) xk hmk).1;simp only[Option.getD_some] at lk;have r1:=qp r0 b1 l0;have eqn:Sem.run Tryz.prog (binOp BinOp.eql 228 (.func (.func 165) #[] #[.pointer (some ⟨bq,0,none⟩)]) Value.nilFunc) W1=.ok (.bool false) W1:=by kernel_rfl
 have HB:=qj (b0.trans (b1.mono b0.size));have b1x:=qj b1;have R1:=qj r1;have y:=qg r1;have y0:=y 0;have y1:=y 1;have y2:=y 2;have y3:=y 3;have y4:=y 4;have y5:=y 5;have y6:=y 6;have y7:=y 7;simp at y0 y1 y2 y3 y4 y5 y6 y7;clear y hM hc hc2 hc3 r0 b0 b1 hmk;refine qN (fun K hK=>?_);go_simp;refine hK _ _ ?_;clear hK K lk
 repeat first|(refine qC fun K hK=>?_;go_simp;refine hK _ _ ?_;clear hK K)|refine qA ?_
 go_wp2_with fail;refine(e_Of xo hop _).mono ?_;rintro e W5 ⟨he,hw5⟩;subst he;rw[hw5];clear hw5 W5;go_wp2_with fail;have ba:Below W1.heap.size W1 (W1.alloc (.cells #[.int .i64 0,.int .i64 xx,.int .i64 xh,.int .i64 xj,.int .i64 xo,.int .i64 xy,.int .i64 xv,.int .i64 xr] 53)):=(Below.refl _ W1).alloc (Nat.le_refl _) _;have ra:=qy W1 (.cells (yQ ⟨xk,xx,xh,xj,xo,xy,xv,xr⟩).toArray 53);rw[show (yQ ⟨xk,xx,xh,xj,xo,xy,xv,xr⟩).toArray=#[.int .i64 0,.int .i64 xx,.int .i64 xh,.int .i64 xj,.int .i64 xo,.int .i64 xy,.int .i64 xv,.int .i64 xr] from rfl] at ra;generalize W1.alloc (.cells #[.int .i64 0,.int .i64 xx,.int .i64 xh,.int .i64 xj,.int .i64 xo,.int .i64 xy,.int .i64 xv,.int .i64 xr] 53)=W2 at *;rw[show (#[.int .i64 0,.int .i64 xx,.int .i64 xh,.int .i64 xj,.int .i64 xo,.int .i64 xy,.int .i64 xv,.int .i64 xr]:Array Value)=(yQ ⟨xk,xx,xh,xj,xo,xy,xv,xr⟩).toArray from rfl] at ra;have hnext:∀(wr:World),Below W1.heap.size W1 wr->∀i:Nat,i<=100->Calls Tryz.prog 165 #[yv ⟨xk,xx,xh,xj,xo,xy,xv,xr⟩,.int .i64 i,.pointer (some ⟨bq,0,none⟩)] wr (FdRet L i wr):=by
  intro wr hb i hi;rw[hL1];exact e_call ⟨xk,xx,xh,xj,xo,xy,xv,xr⟩ hop i hi bq (qp hq hb (qh hq))
 clear hL1;have B2:=qj ba;have RA:=qj ra;have BB:=qj (HB.o.trans (ba.mono HB.o.size));have RE:=qj (qp R1.o ba (qh R1.o));have lb:=qh R1.o;have hbb:=HB.o.size;have zz:=ba.size;clear ba ra y0 y1 y2 y3 y4 y5 y6 y7 eqn;obtain⟨br,hbr⟩:∃br,br=W1.heap.size:=⟨_,rfl⟩
 rw[←hbr] at RA ⊢;have hbw:w.heap.size<=br:=by omega
 have hbe:br≠w.heap.size:=by omega
 have hbw1:W1.heap.size<=br:=by omega
 clear hbr r1;have hlen:=HL.o.len
 go_loopw [5] (fun p wr=>∃i:Nat,i<=L.length/\p=.int .i64 i/\Below w.heap.size w wr/\Below W1.heap.size W1 wr/\wr.heap[w.heap.size]?=some (.cells #[.int .i64 xk,.int .i64 xx,.int .i64 xh,.int .i64 xj,.int .i64 xo,.int .i64 xy,.int .i64 xv,.int .i64 xr] 53 (0,0))/\wr.heap[br]?=some (.cells (yt (yQ ⟨xk,xx,xh,xj,xo,xy,xv,xr⟩) (L.take i)).toArray 53 (0,0))) (fun p _=>L.length - (intOf p).toNat)
 case atStart=>exact⟨0,by omega,by go_num,BB.o,B2.o,RE.o,RA.o⟩
 case round=>
  obtain⟨i,hi,rfl,hB,hB2,hre,hrr⟩:=hrel;have lw:=qh hre;have lr:=qh hrr;have y:=qg hre;have y0:=y 0;have y1:=y 1;have y2:=y 2;have y3:=y 3;have y4:=y 4;have y5:=y 5;have y6:=y 6;have y7:=y 7;simp at y0 y1 y2 y3 y4 y5 y6 y7;have hnx:=qj (hnext wr (hB2) i (by omega));have HBw:=qj hB;have HB2:=qj hB2;have HRE:=qj hre;have HRR:=qj hrr;clear y hB hB2 hre hrr;go_wp2_with fail;refine(hnx.o).mono ?_;rintro e W3 ⟨he,b3⟩;subst he;have z3:=b3.size;have re3:=qp HRE.o b3 lw;have rr3:=qp HRR.o b3 lr;have B3:=qj (HBw.o.trans (b3.mono HBw.o.size));have B4:=qj (HB2.o.trans (b3.mono HB2.o.size));by_cases hlt:i < L.length
  ·have hLi:L[i]?=some L[i]:=List.getElem?_eq_getElem hlt
   have hm:L[i] ∈ L:=List.getElem_mem hlt;have hfa:=HL.o.all _ hm;obtain⟨n,hn,hlo,hhi⟩:=HL.o.val _ hm;have ho:=off_lt hfa;have hsn:yt (yQ ⟨xk,xx,xh,xj,xo,xy,xv,xr⟩) (L.take (i+1))=(yt (yQ ⟨xk,xx,xh,xj,xo,xy,xv,xr⟩) (L.take i)).set (xW L[i]) (.int .i64 0):=by rw[List.take_succ_eq_append_getElem hlt,restF_snoc]
   have HSN:=qj hsn;have hrl:(yt (yQ ⟨xk,xx,xh,xj,xo,xy,xv,xr⟩) (L.take i)).length=8:=by rw[restF_len];rfl
   have hfd:=fun b w=>fd_of hfa b w;rw[hLi];generalize L[i]=f at *;obtain⟨ff,tb,lo,hi'⟩:=f;have cn:W3.cell? ⟨w.heap.size,xW ⟨ff,tb,lo,hi'⟩,none⟩=some (.int .i64 n):=(qg re3 _).trans (by simpa[Ev.cells] using hn);obtain⟨u,hu⟩:∃u,(yt (yQ ⟨xk,xx,xh,xj,xo,xy,xv,xr⟩) (L.take i))[xW ⟨ff,tb,lo,hi'⟩]?=some u:=⟨_,List.getElem?_eq_getElem (by omega)⟩
   have cr:W3.cell? ⟨br,xW ⟨ff,tb,lo,hi'⟩,none⟩=some u:=(qg rr3 _).trans (by simpa using hu);have fr:W3.frozen? ⟨br,xW ⟨ff,tb,lo,hi'⟩,none⟩=false:=qx rr3 _;obtain⟨o,hoo⟩:∃o,o=xW ⟨ff,tb,lo,hi'⟩:=⟨_,rfl⟩
   rw[←hoo] at cn cr fr hfd HSN;simp only at hlo hhi hfd;have q1:decide (n < lo)=false:=by simp;omega
   have q2':decide (hi' < n)=false:=by simp;omega
   have q3':decide (n > hi')=false:=by simp;omega
   have RE3:=qj re3;have RR3:=qj rr3;have HFD:=qj hfd;have lw3:=qh re3;have lr3:=qh rr3;clear re3 rr3 hfd hu hLi hm hn hsn hoo ho hrl y0 y1 y2 y3 y4 y5 y6 y7 hnx b3 hlo hhi;have hbr3:br < W3.heap.size:=lr3;have hcf:=fun args X=>cf_of hfa args X;simp only at hcf;clear hfa;go_wp2_with fail;refine(HFD.o _ _).mono ?_;rintro e W4 ⟨he,hw4⟩;subst he;subst hw4;go_wp2_with fail;refine(HFD.o _ _).mono ?_;rintro e W4 ⟨he,hw4⟩;subst he;subst hw4;go_wp2_with fail;go_roundw
   case rel=>
    have s3:=B3.o.setCell (p:=⟨br,o,none⟩) hbw (.int .i64 0);have s4:=B4.o.setCell (p:=⟨br,o,none⟩) hbw1 (.int .i64 0);exact⟨i+1,by omega,by go_num,s3.alloc s3.size _,s4.alloc s4.size _,qF (qK RE3.o hbe),by rw[HSN.o,←set_row];exact qF (qB RR3.o _ _)⟩
   case measure=>simp[intOf];omega
  ·have hno:L[i]?=none:=List.getElem?_eq_none (by omega)
   obtain rfl:i=L.length:=by omega
   rw[hno];have hz:=HL.o.rest;rw[List.take_length] at rr3;rw[hz] at rr3;have y:=qg rr3;have x0:=y 0;have x1:=y 1;have x2:=y 2;have x3:=y 3;have x4:=y 4;have x5:=y 5;have x6:=y 6;have x7:=y 7;simp at x0 x1 x2 x3 x4 x5 x6 x7;have lr3:=qh rr3;clear y hz re3 rr3 y0 y1 y2 y3 y4 y5 y6 y7 hnx b3;go_wp2_with fail;refine bodyPost_ret (v:=.nilIface) (by simp[results,Tryz.results73,go_sem]) rfl ⟨rfl,?_⟩;exact B3.o.alloc B3.o.size _
theorem e_Valid3 (xk xx xh xj xo xy xv xr:Int) (hop:xr=1\/xr=3) (hk:xk=3) (L:List Fd) (hL:FdsOk ⟨xk,xx,xh,xj,xo,xy,xv,xr⟩ L) (w:World) (hW:xa w) (hL1:L=retFds xr):
  Calls Tryz.prog 73 #[yv ⟨xk,xx,xh,xj,xo,xy,xv,xr⟩] w (ValRet w):=by
 have b0:Below w.heap.size w (w.alloc (.cells #[.int .i64 xk,.int .i64 xx,.int .i64 xh,.int .i64 xj,.int .i64 xo,.int .i64 xy,.int .i64 xv,.int .i64 xr] 53)):=(Below.refl _ w).alloc (Nat.le_refl _) _;have r0:=qy w (.cells #[.int .i64 xk,.int .i64 xx,.int .i64 xh,.int .i64 xj,.int .i64 xo,.int .i64 xy,.int .i64 xv,.int .i64 xr] 53);have hf:=e_fields (w.alloc (.cells #[.int .i64 xk,.int .i64 xx,.int .i64 xh,.int .i64 xj,.int .i64 xo,.int .i64 xy,.int .i64 xv,.int .i64 xr] 53)).drew;have HW:=qj (hW.below b0);have HL:=qj hL;clear hW hL;have q2:(xk==2)=false:=by simp;omega
 have q3:(xk==3)=true:=by simp;omega
 have HK:=qj hk;clear hk;go_enter Tryz.func73,Tryz.ntmps73;go_wp2_with fail;generalize w.alloc (.cells #[.int .i64 xk,.int .i64 xx,.int .i64 xh,.int .i64 xj,.int .i64 xo,.int .i64 xy,.int .i64 xv,.int .i64 xr] 53)=W at *;have y0:=qg r0 0;have l0:=qh r0;simp at y0;refine qT (W.heap.size) [3,0,1,2,0] (.fin [1,2,0,3,4]) (by kernel_rfl) ?_;simp only[yp,qP,qD,sD,sE,sF,sG]
 repeat first|(refine qC fun K hK=>?_;go_simp;refine hK _ _ ?_;clear hK K)|(apply qJ;(intro w2 hw2;have hk1:=hw2.cell;have hk3:=hw2.1;clear hw2;go_simp;with_reducible rfl);simp only[Act.put,sA,sB,sC])
 refine qI (fun K hK=>?_);go_simp;refine hf.mono ?_;rintro e W1 ⟨bm,rfl,hF,b1⟩;refine hK _ _ (RN.KeepsN.of_below b1) ?_;clear hK K hf;have b1:Below W.heap.size W W1:=(Below.refl _ W).drew.trans b1;have z1:=b1.size;obtain⟨M,bq,hM,hc,hc2,hc3,hq,hbm⟩:=hF;have hmk:M xk=some (.func (.func 170) #[] #[.pointer (some ⟨bq,0,none⟩)]):=by rw[HK.o];exact hc3
 have lk:=(hM.look Tryz.underlying3 Tryz.underlying229 (zeroFn W1) xk hmk).1;simp only[Option.getD_some] at lk;have r1:=qp r0 b1 l0;have eqn:Sem.run Tryz.prog (binOp BinOp.eql 228 (.func (.func 170) #[] #[.pointer (some ⟨bq,0,none⟩)]) Value.nilFunc) W1=.ok (.bool false) W1:=by kernel_rfl
 have HB:=qj (b0.trans (b1.mono b0.size));have b1x:=qj b1;have R1:=qj r1;have y:=qg r1;have y0:=y 0;have y1:=y 1;have y2:=y 2;have y3:=y 3;have y4:=y 4;have y5:=y 5;have y6:=y 6;have y7:=y 7;simp at y0 y1 y2 y3 y4 y5 y6 y7;clear y hM hc hc2 hc3 r0 b0 b1 hmk;refine qN (fun K hK=>?_);go_simp;refine hK _ _ ?_;clear hK K lk
 repeat first|(refine qC fun K hK=>?_;go_simp;refine hK _ _ ?_;clear hK K)|refine qA ?_
 go_wp2_with fail;obtain⟨s,hs,hsq⟩:=e_answerR hop (HW.o.below (b1x.o));refine hs.mono ?_;rintro e W5 ⟨he,b5⟩;subst he;have HB:=qj (HB.o.trans (b5.mono HB.o.size));have r1:=qp R1.o b5 (qh R1.o);have R1:=qj r1;have y:=qg r1;have y0:=y 0;have y1:=y 1;have y2:=y 2;have y3:=y 3;have y4:=y 4;have y5:=y 5;have y6:=y 6;have y7:=y 7;simp at y0 y1 y2 y3 y4 y5 y6 y7;clear y hs;go_wp2_with fail;have ba:Below W5.heap.size W5 (W5.alloc (.cells #[.int .i64 0,.int .i64 xx,.int .i64 xh,.int .i64 xj,.int .i64 xo,.int .i64 xy,.int .i64 xv,.int .i64 xr] 53)):=(Below.refl _ W5).alloc (Nat.le_refl _) _;have ra:=qy W5 (.cells (yQ ⟨xk,xx,xh,xj,xo,xy,xv,xr⟩).toArray 53);rw[show (yQ ⟨xk,xx,xh,xj,xo,xy,xv,xr⟩).toArray=#[.int .i64 0,.int .i64 xx,.int .i64 xh,.int .i64 xj,.int .i64 xo,.int .i64 xy,.int .i64 xv,.int .i64 xr] from rfl] at ra;generalize W5.alloc (.cells #[.int .i64 0,.int .i64 xx,.int .i64 xh,.int .i64 xj,.int .i64 xo,.int .i64 xy,.int .i64 xv,.int .i64 xr] 53)=W2 at *;rw[show (#[.int .i64 0,.int .i64 xx,.int .i64 xh,.int .i64 xj,.int .i64 xo,.int .i64 xy,.int .i64 xv,.int .i64 xr]:Array Value)=(yQ ⟨xk,xx,xh,xj,xo,xy,xv,xr⟩).toArray from rfl] at ra;have hq5:=qp hq b5 (qh hq);have hnext:∀(wr:World),Below W5.heap.size W5 wr->∀i:Nat,i<=100->Calls Tryz.prog 170 #[yv ⟨xk,xx,xh,xj,xo,xy,xv,xr⟩,.int .i64 i,.pointer (some ⟨bq,0,none⟩)] wr (FdRet L i wr):=by
  intro wr hb i hi;rw[hL1];exact e_retn ⟨xk,xx,xh,xj,xo,xy,xv,xr⟩ hop i hi bq (qp hq5 hb (qh hq5))
 clear hL1;have B2:=qj ba;have RA:=qj ra;have BB:=qj (HB.o.trans (ba.mono HB.o.size));have RE:=qj (qp R1.o ba (qh R1.o));have lb:=qh R1.o;have hbb:=HB.o.size;have zz:=ba.size;clear ba ra y0 y1 y2 y3 y4 y5 y6 y7 eqn;obtain⟨br,hbr⟩:∃br,br=W5.heap.size:=⟨_,rfl⟩
 rw[←hbr] at RA ⊢;have hbw:w.heap.size<=br:=by omega
 have hbe:br≠w.heap.size:=by omega
 have hbw1:W5.heap.size<=br:=by omega
 clear hbr r1;have hlen:=HL.o.len
 go_loopw [5] (fun p wr=>∃i:Nat,i<=L.length/\p=.int .i64 i/\Below w.heap.size w wr/\Below W5.heap.size W5 wr/\wr.heap[w.heap.size]?=some (.cells #[.int .i64 xk,.int .i64 xx,.int .i64 xh,.int .i64 xj,.int .i64 xo,.int .i64 xy,.int .i64 xv,.int .i64 xr] 53 (0,0))/\wr.heap[br]?=some (.cells (yt (yQ ⟨xk,xx,xh,xj,xo,xy,xv,xr⟩) (L.take i)).toArray 53 (0,0))) (fun p _=>L.length - (intOf p).toNat)
 case atStart=>exact⟨0,by omega,by go_num,BB.o,B2.o,RE.o,RA.o⟩
 case round=>
  obtain⟨i,hi,rfl,hB,hB2,hre,hrr⟩:=hrel;have lw:=qh hre;have lr:=qh hrr;have y:=qg hre;have y0:=y 0;have y1:=y 1;have y2:=y 2;have y3:=y 3;have y4:=y 4;have y5:=y 5;have y6:=y 6;have y7:=y 7;simp at y0 y1 y2 y3 y4 y5 y6 y7;have hnx:=qj (hnext wr (hB2) i (by omega));have HBw:=qj hB;have HB2:=qj hB2;have HRE:=qj hre;have HRR:=qj hrr;clear y hB hB2 hre hrr;go_wp2_with fail;refine(hnx.o).mono ?_;rintro e W3 ⟨he,b3⟩;subst he;have z3:=b3.size;have re3:=qp HRE.o b3 lw;have rr3:=qp HRR.o b3 lr;have B3:=qj (HBw.o.trans (b3.mono HBw.o.size));have B4:=qj (HB2.o.trans (b3.mono HB2.o.size));by_cases hlt:i < L.length
  ·have hLi:L[i]?=some L[i]:=List.getElem?_eq_getElem hlt
   have hm:L[i] ∈ L:=List.getElem_mem hlt;have hfa:=HL.o.all _ hm;obtain⟨n,hn,hlo,hhi⟩:=HL.o.val _ hm;have ho:=off_lt hfa;have hsn:yt (yQ ⟨xk,xx,xh,xj,xo,xy,xv,xr⟩) (L.take (i+1))=(yt (yQ ⟨xk,xx,xh,xj,xo,xy,xv,xr⟩) (L.take i)).set (xW L[i]) (.int .i64 0):=by rw[List.take_succ_eq_append_getElem hlt,restF_snoc]
   have HSN:=qj hsn;have hrl:(yt (yQ ⟨xk,xx,xh,xj,xo,xy,xv,xr⟩) (L.take i)).length=8:=by rw[restF_len];rfl
   have hfd:=fun b w=>fd_of hfa b w;rw[hLi];generalize L[i]=f at *;obtain⟨ff,tb,lo,hi'⟩:=f;have cn:W3.cell? ⟨w.heap.size,xW ⟨ff,tb,lo,hi'⟩,none⟩=some (.int .i64 n):=(qg re3 _).trans (by simpa[Ev.cells] using hn);obtain⟨u,hu⟩:∃u,(yt (yQ ⟨xk,xx,xh,xj,xo,xy,xv,xr⟩) (L.take i))[xW ⟨ff,tb,lo,hi'⟩]?=some u:=⟨_,List.getElem?_eq_getElem (by omega)⟩
   have cr:W3.cell? ⟨br,xW ⟨ff,tb,lo,hi'⟩,none⟩=some u:=(qg rr3 _).trans (by simpa using hu);have fr:W3.frozen? ⟨br,xW ⟨ff,tb,lo,hi'⟩,none⟩=false:=qx rr3 _;obtain⟨o,hoo⟩:∃o,o=xW ⟨ff,tb,lo,hi'⟩:=⟨_,rfl⟩
   rw[←hoo] at cn cr fr hfd HSN;simp only at hlo hhi hfd;have q1:decide (n < lo)=false:=by simp;omega
   have q2':decide (hi' < n)=false:=by simp;omega
   have q3':decide (n > hi')=false:=by simp;omega
   have RE3:=qj re3;have RR3:=qj rr3;have HFD:=qj hfd;have lw3:=qh re3;have lr3:=qh rr3;clear re3 rr3 hfd hu hLi hm hn hsn hoo ho hrl y0 y1 y2 y3 y4 y5 y6 y7 hnx b3 hlo hhi;have hbr3:br < W3.heap.size:=lr3;have hcf:=fun args X=>cf_of hfa args X;simp only at hcf;clear hfa;go_wp2_with fail;refine(HFD.o _ _).mono ?_;rintro e W4 ⟨he,hw4⟩;subst he;subst hw4;go_wp2_with fail;refine(HFD.o _ _).mono ?_;rintro e W4 ⟨he,hw4⟩;subst he;subst hw4;go_wp2_with fail;go_roundw
   case rel=>
    have s3:=B3.o.setCell (p:=⟨br,o,none⟩) hbw (.int .i64 0);have s4:=B4.o.setCell (p:=⟨br,o,none⟩) hbw1 (.int .i64 0);exact⟨i+1,by omega,by go_num,s3.alloc s3.size _,s4.alloc s4.size _,qF (qK RE3.o hbe),by rw[HSN.o,←set_row];exact qF (qB RR3.o _ _)⟩
   case measure=>simp[intOf];omega
  ·have hno:L[i]?=none:=List.getElem?_eq_none (by omega)
   obtain rfl:i=L.length:=by omega
   rw[hno];have hz:=HL.o.rest;rw[List.take_length] at rr3;rw[hz] at rr3;have y:=qg rr3;have x0:=y 0;have x1:=y 1;have x2:=y 2;have x3:=y 3;have x4:=y 4;have x5:=y 5;have x6:=y 6;have x7:=y 7;simp at x0 x1 x2 x3 x4 x5 x6 x7;have lr3:=qh rr3;clear y hz re3 rr3 y0 y1 y2 y3 y4 y5 y6 y7 hnx b3;go_wp2_with fail;refine bodyPost_ret (v:=.nilIface) (by simp[results,Tryz.results73,go_sem]) rfl ⟨rfl,?_⟩;exact B3.o.alloc B3.o.size _
end
section
attribute [local irreducible] xL
theorem e_Valid (x:Ev) (m:Nat) (h:EvOk m x) (w:World) (hW:xa w):Calls Tryz.prog 73 #[yv x] w (ValRet w):=by
 obtain⟨xk,xx,xh,xj,xo,xy,xv,xr⟩:=x;obtain⟨⟨t1,t2⟩,hf⟩:=h;simp only at t1 t2 hf;have offs:xW qM=1/\xW xz=2/\xW yd=3/\xW ya=4/\xW fdVa=6/\xW xq=7:=by decide
 obtain⟨o1,o2,o3,o4,o5,o6⟩:=offs;rcases hf with⟨i,h1,h2,h⟩|⟨c,h1,h2,h⟩|⟨c,v,h1,h2,h3,h4,h⟩|h|⟨v,h3,h4,h⟩|⟨k,hk,h⟩ <;> simp only[Ev.mk.injEq,true_and] at h
 ·obtain ⟨rfl,rfl,rfl,rfl,rfl,rfl,rfl⟩:=h
  refine e_Valid1 _ _ _ _ _ _ _ _ (.inl rfl) [qM,xz] ⟨by simp[fdAll],fun f hf=>?_,by simp[yt,yQ,o1,o2,List.replicate],by decide⟩ w hW rfl;simp only[List.mem_cons,List.not_mem_nil,or_false] at hf;rcases hf with rfl|rfl
  ·rw [o1];exact⟨xx,rfl,t1,t2⟩
  ·rw [o2];exact⟨xh,rfl,h1,h2⟩
 ·obtain ⟨rfl,rfl,rfl,rfl,rfl,rfl,rfl⟩:=h
  refine e_Valid2 _ _ _ _ _ _ _ _ (.inl rfl) rfl [qM,yd,ya] ⟨by simp[fdAll],fun f hf=>?_,by simp[yt,yQ,o1,o3,o4,List.replicate],by decide⟩ w hW rfl;simp only[List.mem_cons,List.not_mem_nil,or_false] at hf;rcases hf with rfl|rfl|rfl
  ·rw [o1];exact⟨xx,rfl,t1,t2⟩
  ·rw [o3];exact⟨c,rfl,by show(0:Int)<=c;omega,by show(c:Int)<=7;omega⟩
  ·rw [o4];exact⟨1,rfl,by decide,by decide⟩
 ·obtain ⟨rfl,rfl,rfl,rfl,rfl,rfl,rfl⟩:=h
  refine e_Valid2 _ _ _ _ _ _ _ _ (.inr rfl) rfl [qM,yd,ya,fdVa] ⟨by simp[fdAll],fun f hf=>?_,by simp[yt,yQ,o1,o3,o4,o5,List.replicate],by decide⟩ w hW rfl;simp only[List.mem_cons,List.not_mem_nil,or_false] at hf;rcases hf with rfl|rfl|rfl|rfl
  ·rw [o1];exact⟨xx,rfl,t1,t2⟩
  ·rw [o3];exact⟨c,rfl,by show(0:Int)<=c;omega,by show(c:Int)<=7;omega⟩
  ·rw [o4];exact⟨2,rfl,by decide,by decide⟩
  ·rw [o5];exact⟨xv,rfl,h3,h4⟩
 ·obtain ⟨rfl,rfl,rfl,rfl,rfl,rfl,rfl⟩:=h
  refine e_Valid3 _ _ _ _ _ _ _ _ (.inl rfl) rfl [qM,xq] ⟨by simp[fdAll],fun f hf=>?_,by simp[yt,yQ,o1,o6,List.replicate],by decide⟩ w hW rfl;simp only[List.mem_cons,List.not_mem_nil,or_false] at hf;rcases hf with rfl|rfl
  ·rw [o1];exact⟨xx,rfl,t1,t2⟩
  ·rw [o6];exact⟨1,rfl,by decide,by decide⟩
 ·obtain ⟨rfl,rfl,rfl,rfl,rfl,rfl,rfl⟩:=h
  refine e_Valid3 _ _ _ _ _ _ _ _ (.inr rfl) rfl [qM,xq,fdVa] ⟨by simp[fdAll],fun f hf=>?_,by simp[yt,yQ,o1,o5,o6,List.replicate],by decide⟩ w hW rfl;simp only[List.mem_cons,List.not_mem_nil,or_false] at hf;rcases hf with rfl|rfl|rfl
  ·rw [o1];exact⟨xx,rfl,t1,t2⟩
  ·rw [o6];exact⟨3,rfl,by decide,by decide⟩
  ·rw [o5];exact⟨xv,rfl,h3,h4⟩
 ·obtain ⟨rfl,rfl,rfl,rfl,rfl,rfl,rfl⟩:=h
  refine e_Valid1 _ _ _ _ _ _ _ _ (.inr (by omega)) [qM] ⟨by simp[fdAll],fun f hf=>?_,by simp[yt,yQ,o1,List.replicate],by decide⟩ w hW (by unfold fdsOf;rw[if_neg (by omega)]);simp only[List.mem_cons,List.not_mem_nil,or_false] at hf;subst hf;rw[o1];exact⟨xx,rfl,t1,t2⟩
theorem e_ValidObject (n:Int) (h1:-1000000000<=n) (h2:n<=1000000000) (w:World) (hW:xa w):Calls Tryz.prog 71 #[.agg #[.int .i64 1,.int .i64 n]] w (ValRet w):=by
 have b0:Below w.heap.size w (w.alloc (.cells #[.int .i64 1,.int .i64 n] 96)):=(Below.refl _ w).alloc (Nat.le_refl _) _;have hw1:=hW.below b0;have hs:Calls Tryz.prog 119 #[.int .i64 1,.int .i64 1] (w.alloc (.cells #[.int .i64 1,.int .i64 n] 96)) _:=e_object (i:=0) (by omega) hw1.reg (by have:=hw1.big;omega);have r0:=qy w (.cells #[.int .i64 1,.int .i64 n] 96);have q1:decide (n < -1000000000)=false:=by simp;omega
 have q2:decide (n > 1000000000)=false:=by simp;omega
 have q3:decide (1000000000 < n)=false:=by simp;omega
 have HS:=qj hs;have hb:ByteArray.toList ⟨#[114,101,103,105,115,116,101,114]⟩=[114,101,103,105,115,116,101,114]:=by rw[ba_toList]
 clear hs hw1;go_enter Tryz.func71,Tryz.ntmps71;go_wp2_with fail;generalize w.alloc (.cells #[.int .i64 1,.int .i64 n] 96)=W at *;refine(HS.o).mono ?_;rintro e W1 ⟨rfl,b1⟩;have r1:=qp r0 b1 (qh r0);have y0:=qg r1 0;have y1:=qg r1 1;simp at y0 y1;have l1:=qh r1;have B1:=qj (b0.trans (b1.mono b0.size));clear b1 r1 r0 b0 HS;go_wp2;go_ret;exact⟨rfl,B1.o⟩
end
section
attribute [local irreducible] xL
abbrev fnV (f:FuncId):Value:=.func (.func f) #[] #[]
theorem zi {X:World} {bm:Nat} {M:Int->Option Value} (h:xp X bm M) (k:Int) (v:Value):∃Y,Sem.run Tryz.prog (Instr.mapUpdate 162 (.map (some bm)) (.int .i64 k) v) X=.ok () Y/\xp Y bm (rup M k (some v))/\X.mapTurned Y bm:=
 h.store Tryz.underlying3 Tryz.underlying162 k v
def DeedsRet (w:World) (e:Ending) (w':World):Prop:=∃bm M,e=.returned (.map (some bm))/\xp w' bm M/\M 1=some (fnV 122)/\M 2=some (fnV 123)/\Below w.heap.size w w'/\w.heap.size<=bm
theorem sp_deeds (w:World):Calls Tryz.prog 82 #[] w (DeedsRet w):=by
 have hmk:∀X:World,Sem.run Tryz.prog (Instr.makeMap 162 none) X=.ok (.map (some X.heap.size)) (X.alloc (.map #[] 0)):=fun X=>by kernel_rfl
 have b0:Below w.heap.size w (w.alloc (.map #[] 0)):=(Below.refl _ w).alloc (Nat.le_refl _) _;have h0:xp (w.alloc (.map #[] 0)) w.heap.size (fun _=>none):=xp.made (qy w _);obtain⟨X1,r1,h1,t1⟩:=zi h0 1 (fnV 122);obtain⟨X2,r2,h2,t2⟩:=zi h1 4 (fnV 122);obtain⟨X3,r3,h3,t3⟩:=zi h2 2 (fnV 123);obtain⟨X4,r4,h4,t4⟩:=zi h3 3 (fnV 124);obtain⟨X5,r5,h5,t5⟩:=zi h4 5 (fnV 125);obtain⟨X6,r6,h6,t6⟩:=zi h5 6 (fnV 127);obtain⟨X7,r7,h7,t7⟩:=zi h6 7 (fnV 128);obtain⟨X8,r8,h8,t8⟩:=zi h7 8 (fnV 132);obtain⟨X9,r9,h9,t9⟩:=zi h8 9 (fnV 134);have tr:∀{X Y:World},X.mapTurned Y w.heap.size->Below w.heap.size w X->Below w.heap.size w Y:=fun ht hb=>hb.trans (Below.turned ht (Nat.le_refl _));have b9:=tr t9 (tr t8 (tr t7 (tr t6 (tr t5 (tr t4 (tr t3 (tr t2 (tr t1 b0))))))));have H9:=qj h9;have B9:=qj b9;clear h0 h1 h2 h3 h4 h5 h6 h7 h8 h9 b0 b9 t1 t2 t3 t4 t5 t6 t7 t8 t9 tr;go_enter Tryz.func82,Tryz.ntmps82;go_wp2_with fail;go_ret;refine⟨_,_,rfl,H9.o,?_,?_,B9.o,Nat.le_refl _⟩
 ·rw [xI (by decide),xI (by decide),xI (by decide),xI (by decide),xI (by decide),xI (by decide),xI (by decide),xI (by decide),yi]
 ·rw [xI (by decide),xI (by decide),xI (by decide),xI (by decide),xI (by decide),xI (by decide),yi]
theorem keeps4 {N g:Nat} (W:World) (hg:N<=g) (a b c d:Value):RN.KeepsN N W.drew ((((W.setCell ⟨g,0,none⟩ a).setCell ⟨g,1,none⟩ b).setCell ⟨g,2,none⟩ c).setCell ⟨g,3,none⟩ d).drew:=
 (((RN.KeepsN.set W ⟨g,0,none⟩ a hg).trans (RN.KeepsN.set _ ⟨g,1,none⟩ b hg)).trans (RN.KeepsN.set _ ⟨g,2,none⟩ c hg)).trans (RN.KeepsN.set _ ⟨g,3,none⟩ d hg)
theorem sp_read (x k v:Int) (w:World):Calls Tryz.prog 122 #[scV x,.int .i64 k,.int .i64 v] w fun e w'=>e=.returned (.tuple #[scV x,.int .i64 3,.int .i64 x])/\Below w.heap.size w w':=by
 go_enter Tryz.func122,Tryz.ntmps122;go_wp2_with fail;have b0:Below w.heap.size w ((w.alloc (.cells #[.int .i64 1,.int .i64 x,.slice none 0 0,.slice none 0 0] 99)).alloc (.cells #[.int .i64 0,.int .i64 0,.slice none 0 0,.slice none 0 0] 99)):=((Below.refl _ w).alloc (Nat.le_refl _) _).alloc (by simp) _;have r0:=qF (o:=.cells #[.int .i64 0,.int .i64 0,.slice none 0 0,.slice none 0 0] 99) (qy w (.cells #[.int .i64 1,.int .i64 x,.slice none 0 0,.slice none 0 0] 99));have r1:=qy (w.alloc (.cells #[.int .i64 1,.int .i64 x,.slice none 0 0,.slice none 0 0] 99)) (.cells #[.int .i64 0,.int .i64 0,.slice none 0 0,.slice none 0 0] 99);simp only[World.size_alloc] at r1;generalize (w.alloc (.cells #[.int .i64 1,.int .i64 x,.slice none 0 0,.slice none 0 0] 99)).alloc (.cells #[.int .i64 0,.int .i64 0,.slice none 0 0,.slice none 0 0] 99)=W at *;have y:=qg r0;have y0:=y 0;have y1:=y 1;have y2:=y 2;have y3:=y 3;have z:=qg r1;have z0:=z 0;have z1:=z 1;have z2:=z 2;have z3:=z 3;simp at y0 y1 y2 y3 z0 z1 z2 z3;have zf:=fun j=>qx r1 j;have l0:=qh r0;have l1:=qh r1;have B0:=qj b0;have R1:=qj r1;clear y z r0 r1 b0;refine qT (w.heap.size+1) [1,0,1,3,0,0] (.fin [0,1,2,3,4,5]) (by kernel_rfl) ?_;simp only[yp,qP,qD,sD,sE,sF,sG]
 repeat first|(refine qC fun K hK=>?_;go_simp;refine hK _ _ ?_;clear hK K)|(apply qJ;(intro w2 hw2;have hk1:=hw2.cell;have hk3:=hw2.1;clear hw2;go_simp;with_reducible rfl);simp only[Act.put,sA,sB,sC])
 refine qI (fun K hK=>?_);go_simp;refine hK _ _ (keeps4 W (Nat.le_refl _) _ _ _ _) ?_;clear hK K
 repeat first|(refine qC fun K hK=>?_;go_simp;refine hK _ _ ?_;clear hK K)|refine qA ?_
 have b1:Below w.heap.size w ((((W.setCell ⟨w.heap.size+1,0,none⟩ (.int .i64 1)).setCell ⟨w.heap.size+1,1,none⟩ (.int .i64 x)).setCell ⟨w.heap.size+1,2,none⟩ (.slice none 0 0)).setCell ⟨w.heap.size+1,3,none⟩ (.slice none 0 0)):=
  (((B0.o.setCell (p:=⟨w.heap.size+1,0,none⟩) (Nat.le_succ _) _).setCell (p:=⟨w.heap.size+1,1,none⟩) (Nat.le_succ _) _).setCell (p:=⟨w.heap.size+1,2,none⟩) (Nat.le_succ _) _).setCell (p:=⟨w.heap.size+1,3,none⟩) (Nat.le_succ _) _
 have r2:=qB (qB (qB (qB R1.o 0 (.int .i64 1)) 1 (.int .i64 x)) 2 (.slice none 0 0)) 3 (.slice none 0 0);have c:=qg r2;have c0:=c 0;have c1:=c 1;have c2:=c 2;have c3:=c 3;simp at c0 c1 c2 c3;go_wp2_with fail;refine bodyPost_ret (v:=.tuple #[scV x,.int .i64 3,.int .i64 x]) (by simp[results,Tryz.results122,go_sem,c0,c1,c2,c3]) rfl ⟨rfl,b1.drew⟩
theorem sp_write (x k v:Int) (w:World):Calls Tryz.prog 123 #[scV x,.int .i64 k,.int .i64 v] w fun e w'=>e=.returned (.tuple #[scV v,.int .i64 1,.int .i64 0])/\Below w.heap.size w w':=by
 go_enter Tryz.func123,Tryz.ntmps123;go_wp2_with fail;refine bodyPost_ret (v:=.tuple #[scV v,.int .i64 1,.int .i64 0]) (by simp[results,Tryz.results123,go_sem]) rfl ⟨rfl,?_⟩;exact((Below.refl _ w).alloc (Nat.le_refl _) _).alloc (by simp) _
def doR (x op val:Int):Int×Int×Int:=if op=2 then(val,1,0) else(x,3,x)
theorem keepsA {N g:Nat} (W:World) (hg:N<=g) (a b c d:Value):RN.KeepsN N W ((((W.setCell ⟨g,0,none⟩ a).setCell ⟨g,1,none⟩ b).setCell ⟨g,2,none⟩ c).setCell ⟨g,3,none⟩ d):=keeps4 W hg a b c d
theorem sp_Do (x op val:Int) (hop:op=1/\val=0\/op=2/\-1000000000<=val/\val<=1000000000) (w:World):
  Calls Tryz.prog 46 #[scV x,.int .i64 op,.int .i64 0,.int .i64 val] w fun e w'=>e=.returned (.tuple #[scV (doR x op val).1,.int .i64 (doR x op val).2.1,.int .i64 (doR x op val).2.2,.nilIface])/\Below w.heap.size w w':=by
 have hk:op=1\/op=2:=by omega
 have q1:(op==3)=false:=by rw[beq_eq_false_iff_ne];omega
 have q2:decide (val < -1000000000)=false:=by simp;omega
 have q3:decide (1000000000 < val)=false:=by simp;omega
 have hV:=fun X=>e_Valued op hk X;have hK:=fun X=>e_Keyed op hk X;have hO:=fun X=>e_Of op hk X;have q4:(val !=0)=true->(op==2)=true:=fun h=>by rcases hop with h2|h2 <;> simp_all
 have b0:Below w.heap.size w ((w.alloc (.cells #[.int .i64 1,.int .i64 x,.slice none 0 0,.slice none 0 0] 99)).alloc (.cells #[.int .i64 0,.int .i64 0,.slice none 0 0,.slice none 0 0] 99)):=((Below.refl _ w).alloc (Nat.le_refl _) _).alloc (by simp) _;have r0:=qF (o:=.cells #[.int .i64 0,.int .i64 0,.slice none 0 0,.slice none 0 0] 99) (qy w (.cells #[.int .i64 1,.int .i64 x,.slice none 0 0,.slice none 0 0] 99));have r1:=qy (w.alloc (.cells #[.int .i64 1,.int .i64 x,.slice none 0 0,.slice none 0 0] 99)) (.cells #[.int .i64 0,.int .i64 0,.slice none 0 0,.slice none 0 0] 99);simp only[World.size_alloc] at r1;have hz:((w.alloc (.cells #[.int .i64 1,.int .i64 x,.slice none 0 0,.slice none 0 0] 99)).alloc (.cells #[.int .i64 0,.int .i64 0,.slice none 0 0,.slice none 0 0] 99)).heap.size=w.heap.size+2:=by simp
 go_enter Tryz.func46,Tryz.ntmps46;go_wp2_with fail;generalize (w.alloc (.cells #[.int .i64 1,.int .i64 x,.slice none 0 0,.slice none 0 0] 99)).alloc (.cells #[.int .i64 0,.int .i64 0,.slice none 0 0,.slice none 0 0] 99)=W at *;have y:=qg r0;have y0:=y 0;have y1:=y 1;have y2:=y 2;have y3:=y 3;simp at y0 y1 y2 y3;have l0:=qh r0;have l1:=qh r1;have B0:=qj b0;have R0:=qj r0;have R1:=qj r1;clear y r0 r1 b0;refine qT (W.heap.size) [0,1,0,0,0,3,0,1,0,0] (.fin [0,1,2,3,4,6,7,5,8,9]) (by kernel_rfl) ?_;simp only[yp,qP,qD,sD,sE,sF,sG,Option.bind_some]
 repeat first|(refine qC fun K hK=>?_;go_simp;refine hK _ _ ?_;clear hK K)|(apply qJ;(intro w2 hw2;have hk1:=hw2.cell;have hk3:=hw2.1;clear hw2;go_simp;with_reducible rfl);simp only[Act.put,sA,sB,sC])|refine qZ rfl rfl ?_
 refine qI (fun K hK'=>?_);go_simp;refine(hO _).mono ?_;rintro e w' ⟨rfl,rfl⟩;refine hK' _ _ (RN.KeepsN.refl _ _) ?_;clear hK' K
 repeat first|(refine qC fun K hK=>?_;go_simp;refine hK _ _ ?_;clear hK K)|refine qZ rfl rfl ?_|refine qA ?_
 go_upto_region 3 with fail
 go_cut [58] from 27 to 87 (fun c wx=>c=.bool false/\wx=W.drew)
 case first=>
  by_cases hv0:val=0
  ·subst hv0
   go_wp2_with fail
   go_meet
   case rel=>exact⟨rfl,rfl⟩
  ·have q5:(val !=0)=true:=by simpa using hv0
   have q6:=q4 q5;go_wp2_with fail;refine(hV _).mono ?_;rintro e w' ⟨rfl,rfl⟩;go_wp2_with fail
   go_meet
   case rel=>exact⟨rfl,rfl⟩
 case rest=>
 obtain⟨rfl,rfl⟩:=hcut;clear q2 q3 q4 hV hK hO;obtain⟨F,hent,hF,hC⟩:∃F:FuncId,(∀(args:Array Value) (w:World),Sem.run Tryz.prog (callFunc F args) w=.ok (.enter F args) w)/\(∀M:Int->Option Value,M 1=some (fnV 122)->M 2=some (fnV 123)->M op=some (fnV F))/\∀X:World,Calls Tryz.prog F #[scV x,.int .i64 0,.int .i64 val] X fun e w'=>e=.returned (.tuple #[scV (doR x op val).1,.int .i64 (doR x op val).2.1,.int .i64 (doR x op val).2.2])/\Below X.heap.size X w':=by
  rcases hop with⟨rfl,rfl⟩|⟨rfl,-⟩
  ·exact ⟨_,fun args w=>enters_of Tryz.func122 (by kernel_rfl) rfl args w,fun M h1 _=>h1,fun X=>sp_read x 0 0 X⟩
  ·exact ⟨_,fun args w=>enters_of Tryz.func123 (by kernel_rfl) rfl args w,fun M _ h2=>h2,fun X=>sp_write x 0 val X⟩
 generalize hD:doR x op val=D at hC;obtain⟨D1,D2,D3⟩:=D;have HD:=qj hD;clear hD;have hLk:=fun(X:World) (bm:Nat) (M:Int->Option Value) (h:xp X bm M) (k:Int) (v:Value) (hv:M k=some v)=>(h.look (P:=Tryz.prog) (t:=162) Tryz.underlying3 Tryz.underlying162 (zv:=.nilFunc) (by kernel_rfl) k hv).1
 go_upto_region 7 with fail
 go_cut [12,13,14] from 74 to 87 (fun p r g wx=>∃b:Nat,p=.pointer (some ⟨b,0,none⟩)/\r=.int .i64 D2/\g=.int .i64 D3/\wx.heap[b]?=some (.cells #[.int .i64 1,.int .i64 D1,.slice none 0 0,.slice none 0 0] 99 (0,0))/\Below W.heap.size W wx)
 case first=>
  refine qT (W.heap.size) [3,0,3,1,0,0,3,0,0,0,0,3,3,0,0] (.frk [1,3,4,5] (.frk [0] (.frk [2] (.fin [6,7,8,9,10,11,12,13,14]) (.fin [11,6,7,8,9,10,12,13,14])) (.fin [11,2,6,7,8,9,10,12,13,14])) (.fin [11,0,2,6,7,8,9,10,12,13,14])) (by kernel_rfl) ?_;simp only[yp,qP,qD,sD,sE,sF,sG];have bX:Below W.heap.size W W.drew:=(Below.refl _ W).drew
  repeat first|(refine qC fun K hK=>?_;go_simp;refine hK _ _ ?_;clear hK K)|(apply qJ;(intro w2 hw2;have hk1:=hw2.cell;have hk3:=hw2.1;clear hw2;go_simp;with_reducible rfl);simp only[Act.put,sA,sB,sC])|refine qA ?_
  have bX:Below W.heap.size W W.drew.drew:=(Below.refl _ W).drew.drew;generalize W.drew.drew=V at *;refine⟨?_,?_⟩
  ·
   refine qI (fun K hK'=>?_);go_simp;refine(sp_deeds _).mono ?_;rintro e X1 ⟨bm,M,rfl,hM,h1,h2,bd,-⟩;refine hK' _ _ (RN.KeepsN.of_below (bd.mono bX.size)) ?_;clear hK' K;have bX:=bX.trans (bd.mono bX.size);clear bd
   repeat refine qA ?_
   refine⟨?_,?_⟩
   ·
    have hlk:=hLk _ bm M hM op _ (hF M h1 h2);refine qI (fun K hK'=>?_);go_simp;refine hK' _ _ (RN.KeepsN.refl _ _) ?_;clear hK' K hlk
    repeat refine qA ?_
    refine⟨?_,?_⟩
    ·
     refine qI (fun K hK'=>?_);go_simp;refine(hC _).mono ?_;rintro e X2 ⟨rfl,bd⟩;refine hK' _ _ (RN.KeepsN.of_below (bd.mono bX.size)) ?_;clear hK' K;have bX:=bX.trans (bd.mono bX.size);clear bd
     repeat (refine qC fun K hK=>?_;go_simp;refine hK _ _ ?_;clear hK K)
     refine qI (fun K hK'=>?_);go_simp;refine hK' _ _ (RN.KeepsN.alloc _ _ bX.size) ?_;clear hK' K;have rA:=qy X2 (.cells #[.int .i64 0,.int .i64 0,.slice none 0 0,.slice none 0 0] 99);have ba:Below X2.heap.size X2 (X2.alloc (.cells #[.int .i64 0,.int .i64 0,.slice none 0 0,.slice none 0 0] 99)):=(Below.refl _ _).alloc (Nat.le_refl _) _;have lA:=bX.size;have bX:=bX.trans (ba.mono bX.size);clear ba;generalize X2.alloc (.cells #[.int .i64 0,.int .i64 0,.slice none 0 0,.slice none 0 0] 99)=X3 at *;generalize X2.heap.size=bA at *;have y:=qg rA;have z0:=y 0;have z1:=y 1;have z2:=y 2;have z3:=y 3;simp at z0 z1 z2 z3;have zf:=fun j=>qx rA j;have zl:=qh rA;have RA:=qj rA;clear y rA;refine qI (fun K hK'=>?_);go_simp;refine hK' _ _ (keepsA X3 lA _ _ _ _) ?_;clear hK' K z0 z1 z2 z3 zf
     repeat first|(refine qC fun K hK=>?_;go_simp;refine hK _ _ ?_;clear hK K)|refine qA ?_
     go_wp2_with fail
     go_meet
     case rel=>
      refine⟨bA,rfl,rfl,rfl,?_,(((bX.setCell (p:=⟨bA,0,none⟩) lA _).setCell (p:=⟨bA,1,none⟩) lA _).setCell (p:=⟨bA,2,none⟩) lA _).setCell (p:=⟨bA,3,none⟩) lA _⟩;have:=qB (qB (qB (qB RA.o 0 (.int .i64 1)) 1 (.int .i64 D1)) 2 (.slice none 0 0)) 3 (.slice none 0 0);simpa using this
    ·
     refine qI (fun K hK'=>?_);go_simp;refine hK' _ _ (RN.KeepsN.alloc _ _ bX.size) ?_;clear hK' K;have rA:=qy X1 (.cells #[.int .i64 0,.int .i64 0,.slice none 0 0,.slice none 0 0] 99);have ba:Below X1.heap.size X1 (X1.alloc (.cells #[.int .i64 0,.int .i64 0,.slice none 0 0,.slice none 0 0] 99)):=(Below.refl _ _).alloc (Nat.le_refl _) _;have lA:=bX.size;have bX:=bX.trans (ba.mono bX.size);clear ba;generalize X1.alloc (.cells #[.int .i64 0,.int .i64 0,.slice none 0 0,.slice none 0 0] 99)=X2 at *;generalize X1.heap.size=bA at *;refine qI (fun K hK'=>?_);go_simp;refine(hC _).mono ?_;rintro e X3 ⟨rfl,bd⟩;refine hK' _ _ (RN.KeepsN.of_below (bd.mono bX.size)) ?_;clear hK' K;have bX:=bX.trans (bd.mono bX.size);have rA:=qp rA bd (qh rA);clear bd
     repeat (refine qC fun K hK=>?_;go_simp;refine hK _ _ ?_;clear hK K)
     have y:=qg rA;have z0:=y 0;have z1:=y 1;have z2:=y 2;have z3:=y 3;simp at z0 z1 z2 z3;have zf:=fun j=>qx rA j;have zl:=qh rA;have RA:=qj rA;clear y rA;refine qI (fun K hK'=>?_);go_simp;refine hK' _ _ (keepsA X3 lA _ _ _ _) ?_;clear hK' K z0 z1 z2 z3 zf
     repeat first|(refine qC fun K hK=>?_;go_simp;refine hK _ _ ?_;clear hK K)|refine qA ?_
     go_wp2_with fail
     go_meet
     case rel=>
      refine⟨bA,rfl,rfl,rfl,?_,(((bX.setCell (p:=⟨bA,0,none⟩) lA _).setCell (p:=⟨bA,1,none⟩) lA _).setCell (p:=⟨bA,2,none⟩) lA _).setCell (p:=⟨bA,3,none⟩) lA _⟩;have:=qB (qB (qB (qB RA.o 0 (.int .i64 1)) 1 (.int .i64 D1)) 2 (.slice none 0 0)) 3 (.slice none 0 0);simpa using this
   ·
    refine qI (fun K hK'=>?_);go_simp;refine hK' _ _ (RN.KeepsN.alloc _ _ bX.size) ?_;clear hK' K;have rA:=qy X1 (.cells #[.int .i64 0,.int .i64 0,.slice none 0 0,.slice none 0 0] 99);have ba:Below X1.heap.size X1 (X1.alloc (.cells #[.int .i64 0,.int .i64 0,.slice none 0 0,.slice none 0 0] 99)):=(Below.refl _ _).alloc (Nat.le_refl _) _;have lA:=bX.size;have bX:=bX.trans (ba.mono bX.size);have hM:=hM.below ba hM.lt;clear ba;generalize X1.alloc (.cells #[.int .i64 0,.int .i64 0,.slice none 0 0,.slice none 0 0] 99)=X2 at *;generalize X1.heap.size=bA at *;have hlk:=hLk _ bm M hM op _ (hF M h1 h2);refine qI (fun K hK'=>?_);go_simp;refine hK' _ _ (RN.KeepsN.refl _ _) ?_;clear hK' K hlk;refine qI (fun K hK'=>?_);go_simp;refine(hC _).mono ?_;rintro e X3 ⟨rfl,bd⟩;refine hK' _ _ (RN.KeepsN.of_below (bd.mono bX.size)) ?_;clear hK' K;have bX:=bX.trans (bd.mono bX.size);have rA:=qp rA bd (qh rA);clear bd
    repeat (refine qC fun K hK=>?_;go_simp;refine hK _ _ ?_;clear hK K)
    have y:=qg rA;have z0:=y 0;have z1:=y 1;have z2:=y 2;have z3:=y 3;simp at z0 z1 z2 z3;have zf:=fun j=>qx rA j;have zl:=qh rA;have RA:=qj rA;clear y rA;refine qI (fun K hK'=>?_);go_simp;refine hK' _ _ (keepsA X3 lA _ _ _ _) ?_;clear hK' K z0 z1 z2 z3 zf
    repeat first|(refine qC fun K hK=>?_;go_simp;refine hK _ _ ?_;clear hK K)|refine qA ?_
    go_wp2_with fail
    go_meet
    case rel=>
     refine⟨bA,rfl,rfl,rfl,?_,(((bX.setCell (p:=⟨bA,0,none⟩) lA _).setCell (p:=⟨bA,1,none⟩) lA _).setCell (p:=⟨bA,2,none⟩) lA _).setCell (p:=⟨bA,3,none⟩) lA _⟩;have:=qB (qB (qB (qB RA.o 0 (.int .i64 1)) 1 (.int .i64 D1)) 2 (.slice none 0 0)) 3 (.slice none 0 0);simpa using this
  ·
   refine qI (fun K hK'=>?_);go_simp;refine hK' _ _ (RN.KeepsN.alloc _ _ bX.size) ?_;clear hK' K;have rA:=qy V (.cells #[.int .i64 0,.int .i64 0,.slice none 0 0,.slice none 0 0] 99);have ba:Below V.heap.size V (V.alloc (.cells #[.int .i64 0,.int .i64 0,.slice none 0 0,.slice none 0 0] 99)):=(Below.refl _ _).alloc (Nat.le_refl _) _;have lA:=bX.size;have bX:=bX.trans (ba.mono bX.size);clear ba;generalize V.alloc (.cells #[.int .i64 0,.int .i64 0,.slice none 0 0,.slice none 0 0] 99)=X1 at *;generalize V.heap.size=bA at *;refine qI (fun K hK'=>?_);go_simp;refine(sp_deeds _).mono ?_;rintro e X2 ⟨bm,M,rfl,hM,h1,h2,bd,-⟩;refine hK' _ _ (RN.KeepsN.of_below (bd.mono bX.size)) ?_;clear hK' K;have bX:=bX.trans (bd.mono bX.size);have rA:=qp rA bd (qh rA);clear bd;have hlk:=hLk _ bm M hM op _ (hF M h1 h2);refine qI (fun K hK'=>?_);go_simp;refine hK' _ _ (RN.KeepsN.refl _ _) ?_;clear hK' K hlk;refine qI (fun K hK'=>?_);go_simp;refine(hC _).mono ?_;rintro e X3 ⟨rfl,bd⟩;refine hK' _ _ (RN.KeepsN.of_below (bd.mono bX.size)) ?_;clear hK' K;have bX:=bX.trans (bd.mono bX.size);have rA:=qp rA bd (qh rA);clear bd
   repeat (refine qC fun K hK=>?_;go_simp;refine hK _ _ ?_;clear hK K)
   have y:=qg rA;have z0:=y 0;have z1:=y 1;have z2:=y 2;have z3:=y 3;simp at z0 z1 z2 z3;have zf:=fun j=>qx rA j;have zl:=qh rA;have RA:=qj rA;clear y rA;refine qI (fun K hK'=>?_);go_simp;refine hK' _ _ (keepsA X3 lA _ _ _ _) ?_;clear hK' K z0 z1 z2 z3 zf
   repeat first|(refine qC fun K hK=>?_;go_simp;refine hK _ _ ?_;clear hK K)|refine qA ?_
   go_wp2_with fail
   go_meet
   case rel=>
    refine⟨bA,rfl,rfl,rfl,?_,(((bX.setCell (p:=⟨bA,0,none⟩) lA _).setCell (p:=⟨bA,1,none⟩) lA _).setCell (p:=⟨bA,2,none⟩) lA _).setCell (p:=⟨bA,3,none⟩) lA _⟩;have:=qB (qB (qB (qB RA.o 0 (.int .i64 1)) 1 (.int .i64 D1)) 2 (.slice none 0 0)) 3 (.slice none 0 0);simpa using this
 case rest=>
 obtain⟨b,rfl,rfl,rfl,hb,hB⟩:=hcut;have r1:=qp R1.o hB l1;have y:=qg hb;have y0:=y 0;have y1:=y 1;have y2:=y 2;have y3:=y 3;have z:=qg r1;have z0:=z 0;have z1:=z 1;have z2:=z 2;have z3:=z 3;simp at y0 y1 y2 y3 z0 z1 z2 z3;have zf:=fun j=>qx r1 j;have zl:=qh r1;have hbl:=qh hb;have RZ:=qj r1;have BZ:=qj (B0.o.trans (hB.mono (by omega)));clear y z r1 hb;go_wp2_with fail;have hf:=qg (qB (qB (qB (qB RZ.o 0 (.int .i64 1)) 1 (.int .i64 D1)) 2 (.slice none 0 0)) 3 (.slice none 0 0));have c0:=hf 0;have c1:=hf 1;have c2:=hf 2;have c3:=hf 3;simp at c0 c1 c2 c3;refine bodyPost_ret (v:=.tuple #[scV D1,.int .i64 D2,.int .i64 D3,.nilIface]) (by simp[results,Tryz.results46,go_sem,c0,c1,c2,c3]) rfl ⟨by rw[HD.o],?_⟩;exact(((BZ.o.setCell (p:=⟨w.heap.size+1,0,none⟩) (Nat.le_succ _) _).setCell (p:=⟨w.heap.size+1,1,none⟩) (Nat.le_succ _) _).setCell (p:=⟨w.heap.size+1,2,none⟩) (Nat.le_succ _) _).setCell (p:=⟨w.heap.size+1,3,none⟩) (Nat.le_succ _) _
end
section
attribute [local irreducible] xL
def RegOk (os:List Ob):Prop:=os.length<=8/\∀o ∈ os,o.kind=1/\-1000000000<=o.init/\o.init<=1000000000
theorem h_Valid (ov vv:Value) (os:List Ob) (es:List Ev) (w:World) (ho:Sl w w.heap.size 2 ov os.length (os.flatMap Ob.cells)) (he:Sl w w.heap.size 8 vv es.length (es.flatMap Ev.cells)) (hr:RegOk os) (hel:es.length<=400) (hes:∀e ∈ es,EvOk os.length e) (hW:xa w):
  Calls Tryz.prog 41 #[.agg #[ov,vv]] w (ValRet w):=by
 obtain⟨ao,co,rfl,mo⟩:=ho.ex;obtain⟨ae,ce,rfl,me⟩:=he.ex;obtain⟨hr8,hro⟩:=hr;have HO:=qj ho;have HE:=qj he;have HR:=qj hro;have HES:=qj hes;have HW:=qj hW;have b0:Below w.heap.size w (w.alloc (.cells #[.slice ao os.length co,.slice ae es.length ce] 37)):=(Below.refl _ w).alloc (Nat.le_refl _) _;have r0:=qy w (.cells #[.slice ao os.length co,.slice ae es.length ce] 37);clear ho he hro hes hW;have q1:decide (8 < os.length)=false:=by simp;omega
 have q2:decide (400 < es.length)=false:=by simp;omega
 go_enter Tryz.func41,Tryz.ntmps41;go_wp2_with fail;have hz0:w.heap.size < (w.alloc (.cells #[.slice ao os.length co,.slice ae es.length ce] 37)).heap.size:=by simp
 generalize w.alloc (.cells #[.slice ao os.length co,.slice ae es.length ce] 37)=W at *;have R0:=qj r0;have B0:=qj b0;clear r0 b0
 go_loopw [23] (fun p wr=>∃i:Nat,i<=os.length/\p=.int .i64 i/\Below W.heap.size W wr) (fun p _=>os.length - (intOf p).toNat)
 case atStart=>exact⟨0,by omega,by go_num,Below.refl _ _⟩
 case round=>
  obtain⟨i,hi,rfl,hB⟩:=hrel;have hz:=hB.size;have HB:=qj hB;clear hB;by_cases hlt:i < os.length
  ·obtain ⟨b,off,x,hat,hb,hx,hc⟩:=HO.o.atF Ob.len rfl hlt
   have c0:=qu ((B0.o.trans (HB.o.mono (by omega)))) hb (hc 0 (by decide));have c1:=qu ((B0.o.trans (HB.o.mono (by omega)))) hb (hc 1 (by decide));obtain⟨hk,hn1,hn2⟩:=HR.o x (List.mem_of_getElem? hx);obtain⟨xk,xn⟩:=x;simp only at hk hn1 hn2;subst hk;simp at c0 c1;have hbw:b < wr.heap.size:=by omega
   subst hat;have HX:=qj hx;clear hx hc;have bz:Below wr.heap.size wr (wr.alloc (.cells #[.int .i64 1,.int .i64 xn] 96)):=(Below.refl _ wr).alloc (Nat.le_refl _) _;have hv:=qj (e_ValidObject xn hn1 hn2 (wr.alloc (.cells #[.int .i64 1,.int .i64 xn] 96)) ((HW.o.below B0.o).below (HB.o.trans (bz.mono hz))));have BZ:=qj bz;clear bz hn1 hn2;go_wp2_with fail;generalize wr.alloc (.cells #[.int .i64 1,.int .i64 xn] 96)=W1 at *;refine(hv.o).mono ?_;rintro e W2 ⟨he,b2⟩;subst he;have B2:=qj ((HB.o.trans (BZ.o.mono hz)).trans (b2.mono (by have:=BZ.o.size;omega)));clear b2 hv;go_wp2_with fail;go_roundw
   case rel=>exact⟨i+1,by omega,by go_num,B2.o⟩
   case measure=>simp[intOf];omega
  ·obtain rfl:i=os.length:=by omega
   have r0:=qp R0.o HB.o hz0;have y0:=qg r0 0;have y1:=qg r0 1;simp at y0 y1;have l0:=qh r0;clear r0;go_wp2_with fail;have B1:=qj (B0.o.trans (HB.o.mono (by omega)));have hz1:W.heap.size<=wr.heap.size:=hz;obtain⟨W2,rfl⟩:∃W2,W2=wr:=⟨_,rfl⟩
   have R1:=qj (qp R0.o HB.o hz0);clear y0 y1 l0 R0 HB hz hi B0
   go_loopw [39] (fun p wr=>∃i:Nat,i<=es.length/\p=.int .i64 i/\Below W2.heap.size W2 wr) (fun p _=>es.length - (intOf p).toNat)
   case atStart=>exact⟨0,by omega,by go_num,Below.refl _ _⟩
   case round=>
    obtain⟨i,hi,rfl,hB⟩:=hrel;have hz:=hB.size;have HB:=qj hB;clear hB;by_cases hlt:i < es.length
    ·obtain ⟨b,off,x,hat,hb,hx,hc⟩:=HE.o.atF Ev.len rfl hlt
     have BW:=qj (B1.o.trans (HB.o.mono (by omega)));have c0:=qu BW.o hb (hc 0 (by decide));have c1:=qu BW.o hb (hc 1 (by decide));have c2:=qu BW.o hb (hc 2 (by decide));have c3:=qu BW.o hb (hc 3 (by decide));have c4:=qu BW.o hb (hc 4 (by decide));have c5:=qu BW.o hb (hc 5 (by decide));have c6:=qu BW.o hb (hc 6 (by decide));have c7:=qu BW.o hb (hc 7 (by decide));have hok:=HES.o x (List.mem_of_getElem? hx);have HOK:=qj hok;obtain⟨xk,xx,xh,xj,xo,xy,xv,xr⟩:=x;simp at c0 c1 c2 c3 c4 c5 c6 c7;have hbw:b < wr.heap.size:=by omega
     subst hat;clear hx hc hok;have bz:Below wr.heap.size wr (wr.alloc (.cells #[.int .i64 xk,.int .i64 xx,.int .i64 xh,.int .i64 xj,.int .i64 xo,.int .i64 xy,.int .i64 xv,.int .i64 xr] 53)):=(Below.refl _ wr).alloc (Nat.le_refl _) _;have rz:=qy wr (.cells #[.int .i64 xk,.int .i64 xx,.int .i64 xh,.int .i64 xj,.int .i64 xo,.int .i64 xy,.int .i64 xv,.int .i64 xr] 53);have hv:=qj (e_Valid ⟨xk,xx,xh,xj,xo,xy,xv,xr⟩ _ HOK.o (wr.alloc (.cells #[.int .i64 xk,.int .i64 xx,.int .i64 xh,.int .i64 xj,.int .i64 xo,.int .i64 xy,.int .i64 xv,.int .i64 xr] 53)) ((HW.o.below B1.o).below (HB.o.trans (bz.mono hz))));have BZ:=qj bz;have RZ:=qj rz;clear bz rz;go_wp2_with fail;generalize wr.alloc (.cells #[.int .i64 xk,.int .i64 xx,.int .i64 xh,.int .i64 xj,.int .i64 xo,.int .i64 xy,.int .i64 xv,.int .i64 xr] 53)=W3 at *;refine(hv.o).mono ?_;rintro e W4 ⟨he,b2⟩;subst he;have hz3:=BZ.o.size;have B2:=qj ((HB.o.trans (BZ.o.mono hz)).trans (b2.mono (by omega)));have BX:=qj (BW.o.trans ((BZ.o.trans (b2.mono hz3)).mono (by omega)));have r4:=qp RZ.o b2 (qh RZ.o);have l4:=qh r4;have y:=qg r4;have y0:=y 0;have y3:=y 3;have y4:=y 4;simp at y0 y3 y4;have rh:=qp R1.o B2.o (qh R1.o);have lh:=qh rh;have h0:=qg rh 0;simp at h0;clear y r4 b2 hv c0 c1 c2 c3 c4 c5 c6 c7 rh;by_cases hk:xk=2
     ·subst hk
      have hcall:∃c:Nat,c < os.length/\xj=c/\(xo=1\/xo=2):=by
       rcases HOK.o.form with⟨i,h1,h2,h⟩|⟨c,h1,h2,h⟩|⟨c,v,h1,h2,h3,h4,h⟩|h|⟨v,h3,h4,h⟩|⟨k,hk,h⟩ <;> simp only[Ev.mk.injEq,true_and] at h
       ·exact absurd h.1 (by decide)
       ·exact ⟨c,h1,h.2.1,.inl h.2.2.1⟩
       ·exact ⟨c,h1,h.2.1,.inr h.2.2.1⟩
       ·exact absurd h.1 (by decide)
       ·exact absurd h.1 (by decide)
       ·omega
      obtain⟨c,hcl,rfl,hop⟩:=hcall;obtain⟨b',off',o,hat',hb',hx',hc'⟩:=HO.o.atF Ob.len rfl hcl;have k0:=qu BX.o hb' (hc' 0 (by decide));obtain⟨hk1,-⟩:=HR.o o (List.mem_of_getElem? hx');obtain⟨ok,on⟩:=o;simp only at hk1;subst hk1;simp at k0;have hzB:=BX.o.size;have hbw':b' < W4.heap.size:=by omega
      have q5:decide (os.length<=c)=false:=by simp;omega
      subst hat';clear hx' hc';go_wp2_with fail;have Z4:=qj (Below.refl W4.heap.size W4);refine qT (W4.heap.size) [0,1,3,0,1,0,1,0,0,1,0] (.fin [0,1,3,4,5,6,7,8,9,2,10]) (by kernel_rfl) ?_;simp only[yp,qP,qD,sD,sE,sF,sG]
      repeat first|(refine qC fun K hK=>?_;go_simp;refine hK _ _ ?_;clear hK K)|(apply qJ;(intro w2 hw2;have hk1:=hw2.cell;have hk3:=hw2.1;clear hw2;go_simp;with_reducible rfl);simp only[Act.put,sA,sB,sC])
      refine qI (fun K hK=>?_);go_simp;refine(e_Of xo hop _).mono ?_;rintro e W5 ⟨he,hw5⟩;subst he;refine hK _ _ (by rw[hw5];exact RN.KeepsN.of_below (Below.refl _ _)) ?_;clear hK K;rw[hw5];clear hw5 W5
      repeat first|(refine qC fun K hK=>?_;go_simp;refine hK _ _ ?_;clear hK K)|refine qA ?_
      go_wp2_with fail;go_roundw
      case rel=>exact⟨i+1,by omega,by go_num,B2.o.drew⟩
      case measure=>simp[intOf];omega
     ·have q5:(xk==2)=false:=by simpa using hk
      have q6:(xk !=2)=true:=by simpa using hk
      go_wp2_with fail;go_roundw
      case rel=>exact⟨i+1,by omega,by go_num,B2.o⟩
      case measure=>simp[intOf];omega
    ·obtain rfl:i=es.length:=by omega
     go_wp2;go_ret;exact⟨rfl,B1.o.trans (HB.o.mono B1.o.size)⟩
end
