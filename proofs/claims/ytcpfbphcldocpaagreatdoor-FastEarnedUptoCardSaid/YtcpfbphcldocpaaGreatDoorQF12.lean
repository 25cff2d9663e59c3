/- Parts of the proof, merged by program out of 1 texts (GnF): the first: Events of all kinds of objects: which may be, of those that have a list of fields. Conditions: those of each theorem, as typed. -/
import Derived.Test.YtcpfbphcldocpaaGreatDoorQF07
import Derived.Test.YtcpfbphcldocpaaGreatDoorQF10
import Derived.Test.YtcpfbphcldocpaaGreatDoorQF11
set_option linter.unusedVariables false
set_option linter.unusedSimpArgs false
set_option linter.unusedSectionVars false
set_option maxRecDepth 100000
set_option maxHeartbeats 4000000
namespace Go.Proofs.YtcpfbphcldocpaaGreatDoor
open Go.Maps Go.RowKit
section
attribute [local irreducible] wpL
def fdAllG:List Fd:=[fdTx,fdTh,fdOb,fdOp,fdKe,fdVa,fdRe]
def offG (f:Fd):Nat:=if f.f=218 then 5 else offOf f
theorem offG_of {f:Fd} (h:f ∈ fdAll):offG f=offOf f:=by
 simp only[fdAll,List.mem_cons,List.not_mem_nil,or_false] at h
 rcases h with rfl|rfl|rfl|rfl|rfl|rfl <;> rfl
theorem fdAllG_iff {f:Fd}:f ∈ fdAllG↔f=fdKe∨f ∈ fdAll:=by
 simp only[fdAllG,fdAll,List.mem_cons,List.not_mem_nil,or_false]
 constructor
 ·rintro (h|h|h|h|h|h|h) <;> simp[h]
 ·rintro (h|h|h|h|h|h|h) <;> simp[h]
theorem fdG_of {f:Fd} (h:f ∈ fdAllG) (b:Nat) (w:World):Calls Tryz.prog f.f #[.pointer (some ⟨b,0,none⟩)] w fun e w'=>e=.returned (.pointer (some ⟨b,offG f,none⟩))∧w'=w:=by
 rcases fdAllG_iff.1 h with rfl|h
 ·exact e_key1 b w
 ·rw [offG_of h];exact fd_of h b w
theorem cfG_of {f:Fd} (h:f ∈ fdAllG) (args:Array Value) (X:World):Sem.run Tryz.prog (callFunc f.f args) X=.ok (.enter f.f args) X:=by
 rcases fdAllG_iff.1 h with rfl|h
 ·kernel_rfl
 ·exact cf_of h args X
theorem offG_lt {f:Fd} (h:f ∈ fdAllG):1≤offG f∧offG f < 8:=by
 rcases fdAllG_iff.1 h with rfl|h
 ·decide
 ·rw [offG_of h];exact off_lt h
def restG (cs:List Value) (l:List Fd):List Value:=l.foldl (fun cs f=>cs.set (offG f) (.int .i64 0)) cs
theorem restG_snoc (cs:List Value) (l:List Fd) (f:Fd):restG cs (l++[f])=(restG cs l).set (offG f) (.int .i64 0):=by simp[restG,List.foldl_append]
theorem restG_len (cs:List Value):∀(l:List Fd),(restG cs l).length=cs.length:=fun l=>by
 induction l generalizing cs with
 |nil=>rfl
 |cons f l ih=>show(restG (cs.set _ _) l).length=_;rw[ih,List.length_set]
def fldAt (x:Ev):Nat→Int
 |0=>x.kind
 |1=>x.tx
 |2=>x.thread
 |3=>x.obj
 |4=>x.op
 |5=>x.key
 |6=>x.val
 |_=>x.ret
theorem fld_cell (x:Ev) {j:Nat} (h:j < 8):x.cells[j]?=some (.int .i64 (fldAt x j)):=by
 match j,h with
 |0,_=>rfl
 |1,_=>rfl
 |2,_=>rfl
 |3,_=>rfl
 |4,_=>rfl
 |5,_=>rfl
 |6,_=>rfl
 |7,_=>rfl
def leftAt (x:Ev) (l:List Fd) (j:Nat):Int:=if j=0∨j ∈ l.map offG then 0 else fldAt x j
theorem rest_cell (x:Ev):∀(l:List Fd) (cs:List Value),cs.length=8→(∀f ∈ l,offG f < 8)→∀(g:Nat→Int),(∀j,j < 8→cs[j]?=some (.int .i64 (g j)))→∀j,j < 8→(restG cs l)[j]?=some (.int .i64 (if j ∈ l.map offG then 0 else g j))
 |[],cs,hc,ho,g,h,j,hj=>by simpa[restG] using h j hj
 |f::l,cs,hc,ho,g,h,j,hj=>by
  have:=rest_cell x l (cs.set (offG f) (.int .i64 0)) (by rw[List.length_set];exact hc) (fun q hq=>ho q (List.mem_cons_of_mem _ hq)) (fun i=>if i=offG f then 0 else g i) (fun i hi=>by
   by_cases e:i=offG f
   ·subst e;rw[List.getElem?_set_self (by omega)];simp
   ·rw [List.getElem?_set_ne (fun q=>e q.symm),h i hi];simp[e]) j hj
  refine this.trans ?_
  by_cases e:j=offG f
  ·simp [e]
  ·simp [e]
theorem left_cell (x:Ev) {l:List Fd} (ho:∀f ∈ l,offG f < 8) {j:Nat} (hj:j < 8):(restG (evCs x) l)[j]?=some (.int .i64 (leftAt x l j)):=by
 have:=rest_cell x l (evCs x) rfl ho (fun j=>if j=0 then 0 else fldAt x j) (fun i hi=>by
  match i,hi with
  |0,_=>rfl
  |1,_=>rfl
  |2,_=>rfl
  |3,_=>rfl
  |4,_=>rfl
  |5,_=>rfl
  |6,_=>rfl
  |7,_=>rfl) j hj
 refine this.trans ?_
 unfold leftAt
 by_cases e:j=0
 ·simp [e]
 ·simp [e]
def inBd (x:Ev) (f:Fd):Bool:=decide (f.lo≤fldAt x (offG f))&&decide (fldAt x (offG f)≤f.hi)
def zeroB (x:Ev) (L:List Fd):Bool:=(List.range 8).all fun j=>leftAt x L j==0
structure FdsG (L:List Fd):Prop where
 all:∀f ∈ L,f ∈ fdAllG
 len:L.length≤10
def validV (x:Ev) (vE:Value) (L:List Fd):Value:=if L.all (inBd x)&&zeroB x L then .nilIface else vE
def ValRG (w:World) (x:Ev) (vE:Value) (L:List Fd) (e:Ending) (w':World):Prop:=e=.returned (validV x vE L)∧Below w.heap.size w w'
theorem zeroB_iff {x:Ev} {L:List Fd}:zeroB x L=true↔∀j,j < 8→leftAt x L j=0:=by unfold zeroB;simp
theorem all_take {p:Fd→Bool} {L:List Fd} {i:Nat} (h:∀f ∈ L.take i,p f=true) (hi:i=L.length):L.all p=true:=by
 rw[List.all_eq_true]
 intro f hf
 rw[hi,List.take_length] at h
 exact h f hf
theorem g_Valid1 (xk xx xh xj xo xy xv xr:Int) (hk:xk=1∨4≤xk∧xk < 8) (L:List Fd) (hL:FdsG L) (vE:Value) (w:World) (hW:WordsG w) (hgE:8 < w.heap.size) (hE:w.cell? ⟨8,0,none⟩=some vE) (hL1:L=fdsOf xk):
  Calls Tryz.prog 81 #[evV ⟨xk,xx,xh,xj,xo,xy,xv,xr⟩] w (ValRG w ⟨xk,xx,xh,xj,xo,xy,xv,xr⟩ vE L):=by
 have HE:=hid hE
 have HGE:=hid hgE
 clear hE hgE
 have b0:Below w.heap.size w (w.alloc (.cells #[.int .i64 xk,.int .i64 xx,.int .i64 xh,.int .i64 xj,.int .i64 xo,.int .i64 xy,.int .i64 xv,.int .i64 xr] 69)):=(Below.refl _ w).alloc (Nat.le_refl _) _
 have r0:=row_new w (.cells #[.int .i64 xk,.int .i64 xx,.int .i64 xh,.int .i64 xj,.int .i64 xo,.int .i64 xy,.int .i64 xv,.int .i64 xr] 69)
 have hf:=e_fieldsG (w.alloc (.cells #[.int .i64 xk,.int .i64 xx,.int .i64 xh,.int .i64 xj,.int .i64 xo,.int .i64 xy,.int .i64 xv,.int .i64 xr] 69)).drew
 have HW:=hid (hW.below b0)
 have HL:=hid hL
 clear hW hL
 have q2:(xk==2)=false:=by simp;omega
 have q3:(xk==3)=false:=by simp;omega
 go_enter Tryz.func81,Tryz.ntmps81
 go_wp2_with fail
 generalize w.alloc (.cells #[.int .i64 xk,.int .i64 xx,.int .i64 xh,.int .i64 xj,.int .i64 xo,.int .i64 xy,.int .i64 xv,.int .i64 xr] 69)=W at *
 have y0:=row_cell r0 0
 have l0:=row_lt r0
 simp at y0
 refine wp_rN (W.heap.size) [3,0,1,2,0] (.fin [1,2,0,3,4]) (by kernel_rfl) ?_
 simp only[wpT,selX,guardAt,sD,sE,sF,sG]
 repeat first|(refine wpL_p fun K hK=>?_;go_simp;refine hK _ _ ?_;clear hK K)|(apply wpL_s;(intro w2 hw2;have hk1:=hw2.cell;have hk3:=hw2.1;clear hw2;go_simp;with_reducible rfl);simp only[Act.put,sA,sB,sC])
 refine wpL_k (fun K hK=>?_)
 go_simp
 refine hf.mono ?_
 rintro e W1 ⟨bm,rfl,hF,b1⟩
 refine hK _ _ (RN.KeepsN.of_below b1) ?_
 clear hK K hf
 have b1:Below W.heap.size W W1:=(Below.refl _ W).drew.trans b1
 have z1:=b1.size
 obtain⟨M,bq,hM,hc,hc2,hc3,hq,hbm⟩:=hF
 obtain⟨v,hmk,bl,sv,rfl,hbl,hsv⟩:=hc xk hk
 have lk:=(hM.look Tryz.underlying3 Tryz.underlying256 (zeroFn W1) xk hmk).1
 simp only[Option.getD_some] at lk
 have r1:=row_below r0 b1 l0
 have eqn:Sem.run Tryz.prog (binOp BinOp.eql 255 (.func (.func 180) #[] #[.pointer (some ⟨bl,0,none⟩)]) Value.nilFunc) W1=.ok (.bool false) W1:=by kernel_rfl
 have HB:=hid (b0.trans (b1.mono b0.size))
 have b1x:=hid b1
 have R1:=hid r1
 have y:=row_cell r1
 have y0:=y 0
 have y1:=y 1
 have y2:=y 2
 have y3:=y 3
 have y4:=y 4
 have y5:=y 5
 have y6:=y 6
 have y7:=y 7
 simp at y0 y1 y2 y3 y4 y5 y6 y7
 clear y hM hc hc2 hc3 r0 b0 b1 hmk
 refine wpL_e (fun K hK=>?_)
 go_simp
 refine hK _ _ ?_
 clear hK K lk
 repeat first|(refine wpL_p fun K hK=>?_;go_simp;refine hK _ _ ?_;clear hK K)|refine wpL_nil ?_
 go_wp2_with fail
 have ba:Below W1.heap.size W1 (W1.alloc (.cells #[.int .i64 0,.int .i64 xx,.int .i64 xh,.int .i64 xj,.int .i64 xo,.int .i64 xy,.int .i64 xv,.int .i64 xr] 69)):=(Below.refl _ W1).alloc (Nat.le_refl _) _
 have ra:=row_new W1 (.cells (evCs ⟨xk,xx,xh,xj,xo,xy,xv,xr⟩).toArray 69)
 rw[show (evCs ⟨xk,xx,xh,xj,xo,xy,xv,xr⟩).toArray=#[.int .i64 0,.int .i64 xx,.int .i64 xh,.int .i64 xj,.int .i64 xo,.int .i64 xy,.int .i64 xv,.int .i64 xr] from rfl] at ra
 generalize W1.alloc (.cells #[.int .i64 0,.int .i64 xx,.int .i64 xh,.int .i64 xj,.int .i64 xo,.int .i64 xy,.int .i64 xv,.int .i64 xr] 69)=W2 at *
 rw[show (#[.int .i64 0,.int .i64 xx,.int .i64 xh,.int .i64 xj,.int .i64 xo,.int .i64 xy,.int .i64 xv,.int .i64 xr]:Array Value)=(evCs ⟨xk,xx,xh,xj,xo,xy,xv,xr⟩).toArray from rfl] at ra
 have hnext:∀(wr:World),Below W1.heap.size W1 wr→∀i:Nat,i≤100→Calls Tryz.prog 180 #[evV ⟨xk,xx,xh,xj,xo,xy,xv,xr⟩,.int .i64 i,.pointer (some ⟨bl,0,none⟩)] wr (FdRet L i wr):=by
  intro wr hb i hi
  have b2:=hb
  rw[hL1]
  exact e_next _ i hi bl sv _ (row_below hbl b2 (row_lt hbl)) (OwnF.sl (OwnF.below hsv b2))
 clear hbl hsv hL1
 have B2:=hid ba
 have RA:=hid ra
 have BB:=hid (HB.out.trans (ba.mono HB.out.size))
 have RE:=hid (row_below R1.out ba (row_lt R1.out))
 have lb:=row_lt R1.out
 have hbb:=HB.out.size
 have zz:=ba.size
 clear ba ra y0 y1 y2 y3 y4 y5 y6 y7 eqn
 obtain⟨br,hbr⟩:∃br,br=W1.heap.size:=⟨_,rfl⟩
 rw[←hbr] at RA ⊢
 have hbw:w.heap.size≤br:=by omega
 have hbe:br≠w.heap.size:=by omega
 have hbw1:W1.heap.size≤br:=by omega
 clear hbr r1
 have hlen:=HL.out.len
 go_loopw [5] (fun p wr=>∃i:Nat,i≤L.length∧p=.int .i64 i∧(∀f ∈ L.take i,inBd ⟨xk,xx,xh,xj,xo,xy,xv,xr⟩ f=true)∧Below w.heap.size w wr∧Below W1.heap.size W1 wr∧wr.heap[w.heap.size]?=some (.cells #[.int .i64 xk,.int .i64 xx,.int .i64 xh,.int .i64 xj,.int .i64 xo,.int .i64 xy,.int .i64 xv,.int .i64 xr] 69 (0,0))∧wr.heap[br]?=some (.cells (restG (evCs ⟨xk,xx,xh,xj,xo,xy,xv,xr⟩) (L.take i)).toArray 69 (0,0))) (fun p _=>L.length - (intOf p).toNat)
 case atStart=>exact⟨0,by omega,by go_num,by simp,BB.out,B2.out,RE.out,RA.out⟩
 case round=>
  obtain⟨i,hi,rfl,hpre,hB,hB2,hre,hrr⟩:=hrel
  have HPRE:=hid hpre
  clear hpre
  have lw:=row_lt hre
  have lr:=row_lt hrr
  have y:=row_cell hre
  have y0:=y 0
  have y1:=y 1
  have y2:=y 2
  have y3:=y 3
  have y4:=y 4
  have y5:=y 5
  have y6:=y 6
  have y7:=y 7
  simp at y0 y1 y2 y3 y4 y5 y6 y7
  have hnx:=hid (hnext wr (hB2) i (by omega))
  have HBw:=hid hB
  have HB2:=hid hB2
  have HRE:=hid hre
  have HRR:=hid hrr
  clear y hB hB2 hre hrr
  go_wp2_with fail
  refine(hnx.out).mono ?_
  rintro e W3 ⟨he,b3⟩
  subst he
  have z3:=b3.size
  have re3:=row_below HRE.out b3 lw
  have rr3:=row_below HRR.out b3 lr
  have B3:=hid (HBw.out.trans (b3.mono HBw.out.size))
  have B4:=hid (HB2.out.trans (b3.mono HB2.out.size))
  by_cases hlt:i < L.length
  ·have hLi:L[i]?=some L[i]:=List.getElem?_eq_getElem hlt
   have hm:L[i] ∈ L:=List.getElem_mem hlt
   have hfa:=HL.out.all _ hm
   have HPS:∀q:inBd ⟨xk,xx,xh,xj,xo,xy,xv,xr⟩ L[i]=true,∀f ∈ L.take (i+1),inBd ⟨xk,xx,xh,xj,xo,xy,xv,xr⟩ f=true:=fun q f hf=>by
    rw[List.take_succ_eq_append_getElem hlt] at hf
    rcases List.mem_append.1 hf with hf|hf
    ·exact HPRE.out f hf
    ·rw [List.mem_singleton.1 hf];exact q
   have HPN:inBd ⟨xk,xx,xh,xj,xo,xy,xv,xr⟩ L[i]=false→L.all (inBd ⟨xk,xx,xh,xj,xo,xy,xv,xr⟩)=false:=fun q=>by
    rw[List.all_eq_false]
    exact⟨_,hm,by rw[q];decide⟩
   have hn:=fld_cell ⟨xk,xx,xh,xj,xo,xy,xv,xr⟩ (offG_lt hfa).2
   have ho:=offG_lt hfa
   have hsn:restG (evCs ⟨xk,xx,xh,xj,xo,xy,xv,xr⟩) (L.take (i+1))=(restG (evCs ⟨xk,xx,xh,xj,xo,xy,xv,xr⟩) (L.take i)).set (offG L[i]) (.int .i64 0):=by rw[List.take_succ_eq_append_getElem hlt,restG_snoc]
   have HSN:=hid hsn
   have hrl:(restG (evCs ⟨xk,xx,xh,xj,xo,xy,xv,xr⟩) (L.take i)).length=8:=by rw[restG_len];rfl
   have hfd:=fun b w=>fdG_of hfa b w
   rw[hLi]
   have HPS:=hid HPS
   have HPN:=hid HPN
   generalize L[i]=f at *
   obtain⟨n,hnn⟩:∃n,n=fldAt ⟨xk,xx,xh,xj,xo,xy,xv,xr⟩ (offG f):=⟨_,rfl⟩
   rw[←hnn] at hn
   obtain⟨ff,tb,lo,hi'⟩:=f
   have cn:W3.cell? ⟨w.heap.size,offG ⟨ff,tb,lo,hi'⟩,none⟩=some (.int .i64 n):=(row_cell re3 _).trans (by simpa[Ev.cells] using hn)
   obtain⟨u,hu⟩:∃u,(restG (evCs ⟨xk,xx,xh,xj,xo,xy,xv,xr⟩) (L.take i))[offG ⟨ff,tb,lo,hi'⟩]?=some u:=⟨_,List.getElem?_eq_getElem (by omega)⟩
   have cr:W3.cell? ⟨br,offG ⟨ff,tb,lo,hi'⟩,none⟩=some u:=(row_cell rr3 _).trans (by simpa using hu)
   have fr:W3.frozen? ⟨br,offG ⟨ff,tb,lo,hi'⟩,none⟩=false:=row_free rr3 _
   obtain⟨o,hoo⟩:∃o,o=offG ⟨ff,tb,lo,hi'⟩:=⟨_,rfl⟩
   rw[←hoo] at cn cr fr hfd HSN
   simp only at hfd
   have hib:inBd ⟨xk,xx,xh,xj,xo,xy,xv,xr⟩ ⟨ff,tb,lo,hi'⟩=(decide (lo≤n)&&decide (n≤hi')):=by unfold inBd;rw[←hnn]
   clear hnn
   have RE3:=hid re3
   have RR3:=hid rr3
   have HFD:=hid hfd
   have lw3:=row_lt re3
   have lr3:=row_lt rr3
   clear re3 rr3 hfd hu hLi hm hn hsn hoo ho hrl y0 y1 y2 y3 y4 y5 y6 y7 hnx b3
   have hbr3:br < W3.heap.size:=lr3
   have hcf:=fun args X=>cfG_of hfa args X
   simp only at hcf
   clear hfa
   go_wp2_with fail
   refine(HFD.out _ _).mono ?_
   rintro e W4 ⟨he,hw4⟩
   subst he
   subst hw4
   have HE3:=hid (cell_below B3.out HGE.out HE.out)
   have hg3:8 < W3.heap.size:=by have:=HGE.out;have:=B3.out.size;omega
   by_cases hin:lo≤n∧n≤hi'
   case neg=>
    have HF:=hid (HPN.out (by rw[hib];simp;omega))
    by_cases hlo:n < lo
    ·have q1:decide (n < lo)=true:=by simpa using hlo
     have he3:=HE3.out
     go_wp2
     refine bodyPost_ret (v:=validV ⟨xk,xx,xh,xj,xo,xy,xv,xr⟩ vE L) (by simp[results,Tryz.results81,go_sem,validV,HF.out]) rfl ⟨rfl,?_⟩
     exact B3.out.alloc B3.out.size _
    ·have q1:decide (n < lo)=false:=by simpa using hlo
     have q2':decide (hi' < n)=true:=by simp;omega
     have q3':decide (n > hi')=true:=by simp;omega
     have he3:=HE3.out
     go_wp2
     refine bodyPost_ret (v:=validV ⟨xk,xx,xh,xj,xo,xy,xv,xr⟩ vE L) (by simp[results,Tryz.results81,go_sem,validV,HF.out]) rfl ⟨rfl,?_⟩
     exact B3.out.alloc B3.out.size _
   have q1:decide (n < lo)=false:=by simp;omega
   have q2':decide (hi' < n)=false:=by simp;omega
   have q3':decide (n > hi')=false:=by simp;omega
   have HYS:=hid (HPS.out (by rw[hib];simp;omega))
   go_wp2_with fail
   refine(HFD.out _ _).mono ?_
   rintro e W4 ⟨he,hw4⟩
   subst he
   subst hw4
   go_wp2_with fail
   go_roundw
   case rel=>
    have s3:=B3.out.setCell (p:=⟨br,o,none⟩) hbw (.int .i64 0)
    have s4:=B4.out.setCell (p:=⟨br,o,none⟩) hbw1 (.int .i64 0)
    exact⟨i+1,by omega,by go_num,HYS.out,s3.alloc s3.size _,s4.alloc s4.size _,row_old (row_other RE3.out hbe),by rw[HSN.out,←set_row];exact row_old (row_set RR3.out _ _)⟩
   case measure=>simp[intOf];omega
  ·have hno:L[i]?=none:=List.getElem?_eq_none (by omega)
   obtain rfl:i=L.length:=by omega
   rw[hno]
   have hall:=all_take HPRE.out rfl
   rw[List.take_length] at rr3
   have y:=row_cell rr3
   have ho8:∀f ∈ L,offG f < 8:=fun f hf=>(offG_lt (HL.out.all f hf)).2
   have hle:=fun j (hj:j < 8)=>left_cell ⟨xk,xx,xh,xj,xo,xy,xv,xr⟩ ho8 hj
   have hlz:=zeroB_iff (x:=⟨xk,xx,xh,xj,xo,xy,xv,xr⟩) (L:=L)
   generalize leftAt ⟨xk,xx,xh,xj,xo,xy,xv,xr⟩ L=m at *
   have x0:W3.cell? ⟨br,0,none⟩=some (.int .i64 (m 0)):=(y 0).trans (by simpa using hle 0 (by decide))
   have x1:W3.cell? ⟨br,1,none⟩=some (.int .i64 (m 1)):=(y 1).trans (by simpa using hle 1 (by decide))
   have x2:W3.cell? ⟨br,2,none⟩=some (.int .i64 (m 2)):=(y 2).trans (by simpa using hle 2 (by decide))
   have x3:W3.cell? ⟨br,3,none⟩=some (.int .i64 (m 3)):=(y 3).trans (by simpa using hle 3 (by decide))
   have x4:W3.cell? ⟨br,4,none⟩=some (.int .i64 (m 4)):=(y 4).trans (by simpa using hle 4 (by decide))
   have x5:W3.cell? ⟨br,5,none⟩=some (.int .i64 (m 5)):=(y 5).trans (by simpa using hle 5 (by decide))
   have x6:W3.cell? ⟨br,6,none⟩=some (.int .i64 (m 6)):=(y 6).trans (by simpa using hle 6 (by decide))
   have x7:W3.cell? ⟨br,7,none⟩=some (.int .i64 (m 7)):=(y 7).trans (by simpa using hle 7 (by decide))
   generalize hm0:m 0=m0 at x0
   generalize hm1:m 1=m1 at x1
   generalize hm2:m 2=m2 at x2
   generalize hm3:m 3=m3 at x3
   generalize hm4:m 4=m4 at x4
   generalize hm5:m 5=m5 at x5
   generalize hm6:m 6=m6 at x6
   generalize hm7:m 7=m7 at x7
   have HE3:=hid (cell_below B3.out HGE.out HE.out)
   have hg3:8 < W3.heap.size:=by have:=HGE.out;have:=B3.out.size;omega
   have lr3:=row_lt rr3
   clear y hle ho8 re3 rr3 y0 y1 y2 y3 y4 y5 y6 y7 hnx b3
   have hv:validV ⟨xk,xx,xh,xj,xo,xy,xv,xr⟩ vE L=if m0=0∧m1=0∧m2=0∧m3=0∧m4=0∧m5=0∧m6=0∧m7=0 then .nilIface else vE:=by
    unfold validV
    rw[hall,Bool.true_and]
    by_cases q:zeroB ⟨xk,xx,xh,xj,xo,xy,xv,xr⟩ L=true
    ·have q8:=hlz.1 q
     rw[if_pos q,if_pos]
     rw[←hm0,←hm1,←hm2,←hm3,←hm4,←hm5,←hm6,←hm7]
     exact⟨q8 0 (by decide),q8 1 (by decide),q8 2 (by decide),q8 3 (by decide),q8 4 (by decide),q8 5 (by decide),q8 6 (by decide),q8 7 (by decide)⟩
    ·rw [if_neg q,if_neg]
     rintro⟨h0,h1,h2,h3,h4,h5,h6,h7⟩
     refine q (hlz.2 fun j hj=>?_)
     match j,hj with
     |0,_=>rw[hm0,h0]
     |1,_=>rw[hm1,h1]
     |2,_=>rw[hm2,h2]
     |3,_=>rw[hm3,h3]
     |4,_=>rw[hm4,h4]
     |5,_=>rw[hm5,h5]
     |6,_=>rw[hm6,h6]
     |7,_=>rw[hm7,h7]
   clear hlz hm0 hm1 hm2 hm3 hm4 hm5 hm6 hm7
   by_cases hz:m0=0∧m1=0∧m2=0∧m3=0∧m4=0∧m5=0∧m6=0∧m7=0
   ·rw [if_pos hz] at hv
    have HVV:=hid hv
    clear hv
    obtain⟨rfl,rfl,rfl,rfl,rfl,rfl,rfl,rfl⟩:=hz
    go_wp2_with fail
    refine bodyPost_ret (v:=.nilIface) (by simp[results,Tryz.results81,go_sem]) rfl ⟨by rw[HVV.out],?_⟩
    exact B3.out.alloc B3.out.size _
   ·rw [if_neg hz] at hv
    have HVV:=hid hv
    clear hv
    have he3:=HE3.out
    go_wp2_with fail
    all_goals
     refine bodyPost_ret (v:=vE) (by simp[results,Tryz.results81,go_sem]) rfl ⟨by rw[HVV.out],?_⟩
     exact B3.out.alloc B3.out.size _
theorem g_Valid2 (xk xx xh xj xo xy xv xr:Int) (hop:ofOp xo≠0) (hk:xk=2) (L:List Fd) (hL:FdsG L) (vE:Value) (w:World) (hW:WordsG w) (hgE:8 < w.heap.size) (hE:w.cell? ⟨8,0,none⟩=some vE) (hL1:L=callG xo):
  Calls Tryz.prog 81 #[evV ⟨xk,xx,xh,xj,xo,xy,xv,xr⟩] w (ValRG w ⟨xk,xx,xh,xj,xo,xy,xv,xr⟩ vE L):=by
 have HE:=hid hE
 have HGE:=hid hgE
 clear hE hgE
 have b0:Below w.heap.size w (w.alloc (.cells #[.int .i64 xk,.int .i64 xx,.int .i64 xh,.int .i64 xj,.int .i64 xo,.int .i64 xy,.int .i64 xv,.int .i64 xr] 69)):=(Below.refl _ w).alloc (Nat.le_refl _) _
 have r0:=row_new w (.cells #[.int .i64 xk,.int .i64 xx,.int .i64 xh,.int .i64 xj,.int .i64 xo,.int .i64 xy,.int .i64 xv,.int .i64 xr] 69)
 have hf:=e_fieldsG (w.alloc (.cells #[.int .i64 xk,.int .i64 xx,.int .i64 xh,.int .i64 xj,.int .i64 xo,.int .i64 xy,.int .i64 xv,.int .i64 xr] 69)).drew
 have HW:=hid (hW.below b0)
 have HL:=hid hL
 clear hW hL
 have q2:(xk==2)=true:=by simp;omega
 have q3:(xk==3)=false:=by simp;omega
 have HK:=hid hk
 clear hk
 go_enter Tryz.func81,Tryz.ntmps81
 go_wp2_with fail
 generalize w.alloc (.cells #[.int .i64 xk,.int .i64 xx,.int .i64 xh,.int .i64 xj,.int .i64 xo,.int .i64 xy,.int .i64 xv,.int .i64 xr] 69)=W at *
 have y0:=row_cell r0 0
 have l0:=row_lt r0
 simp at y0
 refine wp_rN (W.heap.size) [3,0,1,2,0] (.fin [1,2,0,3,4]) (by kernel_rfl) ?_
 simp only[wpT,selX,guardAt,sD,sE,sF,sG]
 repeat first|(refine wpL_p fun K hK=>?_;go_simp;refine hK _ _ ?_;clear hK K)|(apply wpL_s;(intro w2 hw2;have hk1:=hw2.cell;have hk3:=hw2.1;clear hw2;go_simp;with_reducible rfl);simp only[Act.put,sA,sB,sC])
 refine wpL_k (fun K hK=>?_)
 go_simp
 refine hf.mono ?_
 rintro e W1 ⟨bm,rfl,hF,b1⟩
 refine hK _ _ (RN.KeepsN.of_below b1) ?_
 clear hK K hf
 have b1:Below W.heap.size W W1:=(Below.refl _ W).drew.trans b1
 have z1:=b1.size
 obtain⟨M,bq,hM,hc,hc2,hc3,hq,hbm⟩:=hF
 have hmk:M xk=some (.func (.func 183) #[] #[.pointer (some ⟨bq,0,none⟩)]):=by rw[HK.out];exact hc2
 have lk:=(hM.look Tryz.underlying3 Tryz.underlying256 (zeroFn W1) xk hmk).1
 simp only[Option.getD_some] at lk
 have r1:=row_below r0 b1 l0
 have eqn:Sem.run Tryz.prog (binOp BinOp.eql 255 (.func (.func 183) #[] #[.pointer (some ⟨bq,0,none⟩)]) Value.nilFunc) W1=.ok (.bool false) W1:=by kernel_rfl
 have HB:=hid (b0.trans (b1.mono b0.size))
 have b1x:=hid b1
 have R1:=hid r1
 have y:=row_cell r1
 have y0:=y 0
 have y1:=y 1
 have y2:=y 2
 have y3:=y 3
 have y4:=y 4
 have y5:=y 5
 have y6:=y 6
 have y7:=y 7
 simp at y0 y1 y2 y3 y4 y5 y6 y7
 clear y hM hc hc2 hc3 r0 b0 b1 hmk
 refine wpL_e (fun K hK=>?_)
 go_simp
 refine hK _ _ ?_
 clear hK K lk
 repeat first|(refine wpL_p fun K hK=>?_;go_simp;refine hK _ _ ?_;clear hK K)|refine wpL_nil ?_
 go_wp2_with fail
 refine(g_Of xo _).mono ?_
 rintro e W5 ⟨he,hw5⟩
 subst he
 rw[hw5]
 clear hw5 W5
 have qop:(ofOp xo==0)=false:=by simpa using hop
 go_wp2_with fail
 have ba:Below W1.heap.size W1 (W1.alloc (.cells #[.int .i64 0,.int .i64 xx,.int .i64 xh,.int .i64 xj,.int .i64 xo,.int .i64 xy,.int .i64 xv,.int .i64 xr] 69)):=(Below.refl _ W1).alloc (Nat.le_refl _) _
 have ra:=row_new W1 (.cells (evCs ⟨xk,xx,xh,xj,xo,xy,xv,xr⟩).toArray 69)
 rw[show (evCs ⟨xk,xx,xh,xj,xo,xy,xv,xr⟩).toArray=#[.int .i64 0,.int .i64 xx,.int .i64 xh,.int .i64 xj,.int .i64 xo,.int .i64 xy,.int .i64 xv,.int .i64 xr] from rfl] at ra
 generalize W1.alloc (.cells #[.int .i64 0,.int .i64 xx,.int .i64 xh,.int .i64 xj,.int .i64 xo,.int .i64 xy,.int .i64 xv,.int .i64 xr] 69)=W2 at *
 rw[show (#[.int .i64 0,.int .i64 xx,.int .i64 xh,.int .i64 xj,.int .i64 xo,.int .i64 xy,.int .i64 xv,.int .i64 xr]:Array Value)=(evCs ⟨xk,xx,xh,xj,xo,xy,xv,xr⟩).toArray from rfl] at ra
 have hnext:∀(wr:World),Below W1.heap.size W1 wr→∀i:Nat,i≤100→Calls Tryz.prog 183 #[evV ⟨xk,xx,xh,xj,xo,xy,xv,xr⟩,.int .i64 i,.pointer (some ⟨bq,0,none⟩)] wr (FdRet L i wr):=by
  intro wr hb i hi
  rw[hL1]
  exact g_call ⟨xk,xx,xh,xj,xo,xy,xv,xr⟩ i hi bq (row_below hq hb (row_lt hq))
 clear hL1
 have B2:=hid ba
 have RA:=hid ra
 have BB:=hid (HB.out.trans (ba.mono HB.out.size))
 have RE:=hid (row_below R1.out ba (row_lt R1.out))
 have lb:=row_lt R1.out
 have hbb:=HB.out.size
 have zz:=ba.size
 clear ba ra y0 y1 y2 y3 y4 y5 y6 y7 eqn
 obtain⟨br,hbr⟩:∃br,br=W1.heap.size:=⟨_,rfl⟩
 rw[←hbr] at RA ⊢
 have hbw:w.heap.size≤br:=by omega
 have hbe:br≠w.heap.size:=by omega
 have hbw1:W1.heap.size≤br:=by omega
 clear hbr r1
 have hlen:=HL.out.len
 go_loopw [5] (fun p wr=>∃i:Nat,i≤L.length∧p=.int .i64 i∧(∀f ∈ L.take i,inBd ⟨xk,xx,xh,xj,xo,xy,xv,xr⟩ f=true)∧Below w.heap.size w wr∧Below W1.heap.size W1 wr∧wr.heap[w.heap.size]?=some (.cells #[.int .i64 xk,.int .i64 xx,.int .i64 xh,.int .i64 xj,.int .i64 xo,.int .i64 xy,.int .i64 xv,.int .i64 xr] 69 (0,0))∧wr.heap[br]?=some (.cells (restG (evCs ⟨xk,xx,xh,xj,xo,xy,xv,xr⟩) (L.take i)).toArray 69 (0,0))) (fun p _=>L.length - (intOf p).toNat)
 case atStart=>exact⟨0,by omega,by go_num,by simp,BB.out,B2.out,RE.out,RA.out⟩
 case round=>
  obtain⟨i,hi,rfl,hpre,hB,hB2,hre,hrr⟩:=hrel
  have HPRE:=hid hpre
  clear hpre
  have lw:=row_lt hre
  have lr:=row_lt hrr
  have y:=row_cell hre
  have y0:=y 0
  have y1:=y 1
  have y2:=y 2
  have y3:=y 3
  have y4:=y 4
  have y5:=y 5
  have y6:=y 6
  have y7:=y 7
  simp at y0 y1 y2 y3 y4 y5 y6 y7
  have hnx:=hid (hnext wr (hB2) i (by omega))
  have HBw:=hid hB
  have HB2:=hid hB2
  have HRE:=hid hre
  have HRR:=hid hrr
  clear y hB hB2 hre hrr
  go_wp2_with fail
  refine(hnx.out).mono ?_
  rintro e W3 ⟨he,b3⟩
  subst he
  have z3:=b3.size
  have re3:=row_below HRE.out b3 lw
  have rr3:=row_below HRR.out b3 lr
  have B3:=hid (HBw.out.trans (b3.mono HBw.out.size))
  have B4:=hid (HB2.out.trans (b3.mono HB2.out.size))
  by_cases hlt:i < L.length
  ·have hLi:L[i]?=some L[i]:=List.getElem?_eq_getElem hlt
   have hm:L[i] ∈ L:=List.getElem_mem hlt
   have hfa:=HL.out.all _ hm
   have HPS:∀q:inBd ⟨xk,xx,xh,xj,xo,xy,xv,xr⟩ L[i]=true,∀f ∈ L.take (i+1),inBd ⟨xk,xx,xh,xj,xo,xy,xv,xr⟩ f=true:=fun q f hf=>by
    rw[List.take_succ_eq_append_getElem hlt] at hf
    rcases List.mem_append.1 hf with hf|hf
    ·exact HPRE.out f hf
    ·rw [List.mem_singleton.1 hf];exact q
   have HPN:inBd ⟨xk,xx,xh,xj,xo,xy,xv,xr⟩ L[i]=false→L.all (inBd ⟨xk,xx,xh,xj,xo,xy,xv,xr⟩)=false:=fun q=>by
    rw[List.all_eq_false]
    exact⟨_,hm,by rw[q];decide⟩
   have hn:=fld_cell ⟨xk,xx,xh,xj,xo,xy,xv,xr⟩ (offG_lt hfa).2
   have ho:=offG_lt hfa
   have hsn:restG (evCs ⟨xk,xx,xh,xj,xo,xy,xv,xr⟩) (L.take (i+1))=(restG (evCs ⟨xk,xx,xh,xj,xo,xy,xv,xr⟩) (L.take i)).set (offG L[i]) (.int .i64 0):=by rw[List.take_succ_eq_append_getElem hlt,restG_snoc]
   have HSN:=hid hsn
   have hrl:(restG (evCs ⟨xk,xx,xh,xj,xo,xy,xv,xr⟩) (L.take i)).length=8:=by rw[restG_len];rfl
   have hfd:=fun b w=>fdG_of hfa b w
   rw[hLi]
   have HPS:=hid HPS
   have HPN:=hid HPN
   generalize L[i]=f at *
   obtain⟨n,hnn⟩:∃n,n=fldAt ⟨xk,xx,xh,xj,xo,xy,xv,xr⟩ (offG f):=⟨_,rfl⟩
   rw[←hnn] at hn
   obtain⟨ff,tb,lo,hi'⟩:=f
   have cn:W3.cell? ⟨w.heap.size,offG ⟨ff,tb,lo,hi'⟩,none⟩=some (.int .i64 n):=(row_cell re3 _).trans (by simpa[Ev.cells] using hn)
   obtain⟨u,hu⟩:∃u,(restG (evCs ⟨xk,xx,xh,xj,xo,xy,xv,xr⟩) (L.take i))[offG ⟨ff,tb,lo,hi'⟩]?=some u:=⟨_,List.getElem?_eq_getElem (by omega)⟩
   have cr:W3.cell? ⟨br,offG ⟨ff,tb,lo,hi'⟩,none⟩=some u:=(row_cell rr3 _).trans (by simpa using hu)
   have fr:W3.frozen? ⟨br,offG ⟨ff,tb,lo,hi'⟩,none⟩=false:=row_free rr3 _
   obtain⟨o,hoo⟩:∃o,o=offG ⟨ff,tb,lo,hi'⟩:=⟨_,rfl⟩
   rw[←hoo] at cn cr fr hfd HSN
   simp only at hfd
   have hib:inBd ⟨xk,xx,xh,xj,xo,xy,xv,xr⟩ ⟨ff,tb,lo,hi'⟩=(decide (lo≤n)&&decide (n≤hi')):=by unfold inBd;rw[←hnn]
   clear hnn
   have RE3:=hid re3
   have RR3:=hid rr3
   have HFD:=hid hfd
   have lw3:=row_lt re3
   have lr3:=row_lt rr3
   clear re3 rr3 hfd hu hLi hm hn hsn hoo ho hrl y0 y1 y2 y3 y4 y5 y6 y7 hnx b3
   have hbr3:br < W3.heap.size:=lr3
   have hcf:=fun args X=>cfG_of hfa args X
   simp only at hcf
   clear hfa
   go_wp2_with fail
   refine(HFD.out _ _).mono ?_
   rintro e W4 ⟨he,hw4⟩
   subst he
   subst hw4
   have HE3:=hid (cell_below B3.out HGE.out HE.out)
   have hg3:8 < W3.heap.size:=by have:=HGE.out;have:=B3.out.size;omega
   by_cases hin:lo≤n∧n≤hi'
   case neg=>
    have HF:=hid (HPN.out (by rw[hib];simp;omega))
    by_cases hlo:n < lo
    ·have q1:decide (n < lo)=true:=by simpa using hlo
     have he3:=HE3.out
     go_wp2
     refine bodyPost_ret (v:=validV ⟨xk,xx,xh,xj,xo,xy,xv,xr⟩ vE L) (by simp[results,Tryz.results81,go_sem,validV,HF.out]) rfl ⟨rfl,?_⟩
     exact B3.out.alloc B3.out.size _
    ·have q1:decide (n < lo)=false:=by simpa using hlo
     have q2':decide (hi' < n)=true:=by simp;omega
     have q3':decide (n > hi')=true:=by simp;omega
     have he3:=HE3.out
     go_wp2
     refine bodyPost_ret (v:=validV ⟨xk,xx,xh,xj,xo,xy,xv,xr⟩ vE L) (by simp[results,Tryz.results81,go_sem,validV,HF.out]) rfl ⟨rfl,?_⟩
     exact B3.out.alloc B3.out.size _
   have q1:decide (n < lo)=false:=by simp;omega
   have q2':decide (hi' < n)=false:=by simp;omega
   have q3':decide (n > hi')=false:=by simp;omega
   have HYS:=hid (HPS.out (by rw[hib];simp;omega))
   go_wp2_with fail
   refine(HFD.out _ _).mono ?_
   rintro e W4 ⟨he,hw4⟩
   subst he
   subst hw4
   go_wp2_with fail
   go_roundw
   case rel=>
    have s3:=B3.out.setCell (p:=⟨br,o,none⟩) hbw (.int .i64 0)
    have s4:=B4.out.setCell (p:=⟨br,o,none⟩) hbw1 (.int .i64 0)
    exact⟨i+1,by omega,by go_num,HYS.out,s3.alloc s3.size _,s4.alloc s4.size _,row_old (row_other RE3.out hbe),by rw[HSN.out,←set_row];exact row_old (row_set RR3.out _ _)⟩
   case measure=>simp[intOf];omega
  ·have hno:L[i]?=none:=List.getElem?_eq_none (by omega)
   obtain rfl:i=L.length:=by omega
   rw[hno]
   have hall:=all_take HPRE.out rfl
   rw[List.take_length] at rr3
   have y:=row_cell rr3
   have ho8:∀f ∈ L,offG f < 8:=fun f hf=>(offG_lt (HL.out.all f hf)).2
   have hle:=fun j (hj:j < 8)=>left_cell ⟨xk,xx,xh,xj,xo,xy,xv,xr⟩ ho8 hj
   have hlz:=zeroB_iff (x:=⟨xk,xx,xh,xj,xo,xy,xv,xr⟩) (L:=L)
   generalize leftAt ⟨xk,xx,xh,xj,xo,xy,xv,xr⟩ L=m at *
   have x0:W3.cell? ⟨br,0,none⟩=some (.int .i64 (m 0)):=(y 0).trans (by simpa using hle 0 (by decide))
   have x1:W3.cell? ⟨br,1,none⟩=some (.int .i64 (m 1)):=(y 1).trans (by simpa using hle 1 (by decide))
   have x2:W3.cell? ⟨br,2,none⟩=some (.int .i64 (m 2)):=(y 2).trans (by simpa using hle 2 (by decide))
   have x3:W3.cell? ⟨br,3,none⟩=some (.int .i64 (m 3)):=(y 3).trans (by simpa using hle 3 (by decide))
   have x4:W3.cell? ⟨br,4,none⟩=some (.int .i64 (m 4)):=(y 4).trans (by simpa using hle 4 (by decide))
   have x5:W3.cell? ⟨br,5,none⟩=some (.int .i64 (m 5)):=(y 5).trans (by simpa using hle 5 (by decide))
   have x6:W3.cell? ⟨br,6,none⟩=some (.int .i64 (m 6)):=(y 6).trans (by simpa using hle 6 (by decide))
   have x7:W3.cell? ⟨br,7,none⟩=some (.int .i64 (m 7)):=(y 7).trans (by simpa using hle 7 (by decide))
   generalize hm0:m 0=m0 at x0
   generalize hm1:m 1=m1 at x1
   generalize hm2:m 2=m2 at x2
   generalize hm3:m 3=m3 at x3
   generalize hm4:m 4=m4 at x4
   generalize hm5:m 5=m5 at x5
   generalize hm6:m 6=m6 at x6
   generalize hm7:m 7=m7 at x7
   have HE3:=hid (cell_below B3.out HGE.out HE.out)
   have hg3:8 < W3.heap.size:=by have:=HGE.out;have:=B3.out.size;omega
   have lr3:=row_lt rr3
   clear y hle ho8 re3 rr3 y0 y1 y2 y3 y4 y5 y6 y7 hnx b3
   have hv:validV ⟨xk,xx,xh,xj,xo,xy,xv,xr⟩ vE L=if m0=0∧m1=0∧m2=0∧m3=0∧m4=0∧m5=0∧m6=0∧m7=0 then .nilIface else vE:=by
    unfold validV
    rw[hall,Bool.true_and]
    by_cases q:zeroB ⟨xk,xx,xh,xj,xo,xy,xv,xr⟩ L=true
    ·have q8:=hlz.1 q
     rw[if_pos q,if_pos]
     rw[←hm0,←hm1,←hm2,←hm3,←hm4,←hm5,←hm6,←hm7]
     exact⟨q8 0 (by decide),q8 1 (by decide),q8 2 (by decide),q8 3 (by decide),q8 4 (by decide),q8 5 (by decide),q8 6 (by decide),q8 7 (by decide)⟩
    ·rw [if_neg q,if_neg]
     rintro⟨h0,h1,h2,h3,h4,h5,h6,h7⟩
     refine q (hlz.2 fun j hj=>?_)
     match j,hj with
     |0,_=>rw[hm0,h0]
     |1,_=>rw[hm1,h1]
     |2,_=>rw[hm2,h2]
     |3,_=>rw[hm3,h3]
     |4,_=>rw[hm4,h4]
     |5,_=>rw[hm5,h5]
     |6,_=>rw[hm6,h6]
     |7,_=>rw[hm7,h7]
   clear hlz hm0 hm1 hm2 hm3 hm4 hm5 hm6 hm7
   by_cases hz:m0=0∧m1=0∧m2=0∧m3=0∧m4=0∧m5=0∧m6=0∧m7=0
   ·rw [if_pos hz] at hv
    have HVV:=hid hv
    clear hv
    obtain⟨rfl,rfl,rfl,rfl,rfl,rfl,rfl,rfl⟩:=hz
    go_wp2_with fail
    refine bodyPost_ret (v:=.nilIface) (by simp[results,Tryz.results81,go_sem]) rfl ⟨by rw[HVV.out],?_⟩
    exact B3.out.alloc B3.out.size _
   ·rw [if_neg hz] at hv
    have HVV:=hid hv
    clear hv
    have he3:=HE3.out
    go_wp2_with fail
    all_goals
     refine bodyPost_ret (v:=vE) (by simp[results,Tryz.results81,go_sem]) rfl ⟨by rw[HVV.out],?_⟩
     exact B3.out.alloc B3.out.size _
theorem g_Valid3 (xk xx xh xj xo xy xv xr:Int) (hop:1≤xr∧xr≤3) (hdr:dI xr) (hk:xk=3) (L:List Fd) (hL:FdsG L) (vE:Value) (w:World) (hW:WordsG w) (hgE:8 < w.heap.size) (hE:w.cell? ⟨8,0,none⟩=some vE) (hL1:L=retG xr):
  Calls Tryz.prog 81 #[evV ⟨xk,xx,xh,xj,xo,xy,xv,xr⟩] w (ValRG w ⟨xk,xx,xh,xj,xo,xy,xv,xr⟩ vE L):=by
 have HE:=hid hE
 have HGE:=hid hgE
 clear hE hgE
 have b0:Below w.heap.size w (w.alloc (.cells #[.int .i64 xk,.int .i64 xx,.int .i64 xh,.int .i64 xj,.int .i64 xo,.int .i64 xy,.int .i64 xv,.int .i64 xr] 69)):=(Below.refl _ w).alloc (Nat.le_refl _) _
 have r0:=row_new w (.cells #[.int .i64 xk,.int .i64 xx,.int .i64 xh,.int .i64 xj,.int .i64 xo,.int .i64 xy,.int .i64 xv,.int .i64 xr] 69)
 have hf:=e_fieldsG (w.alloc (.cells #[.int .i64 xk,.int .i64 xx,.int .i64 xh,.int .i64 xj,.int .i64 xo,.int .i64 xy,.int .i64 xv,.int .i64 xr] 69)).drew
 have HW:=hid (hW.below b0)
 have HL:=hid hL
 clear hW hL
 have q2:(xk==2)=false:=by simp;omega
 have q3:(xk==3)=true:=by simp;omega
 have HK:=hid hk
 clear hk
 go_enter Tryz.func81,Tryz.ntmps81
 go_wp2_with fail
 generalize w.alloc (.cells #[.int .i64 xk,.int .i64 xx,.int .i64 xh,.int .i64 xj,.int .i64 xo,.int .i64 xy,.int .i64 xv,.int .i64 xr] 69)=W at *
 have y0:=row_cell r0 0
 have l0:=row_lt r0
 simp at y0
 refine wp_rN (W.heap.size) [3,0,1,2,0] (.fin [1,2,0,3,4]) (by kernel_rfl) ?_
 simp only[wpT,selX,guardAt,sD,sE,sF,sG]
 repeat first|(refine wpL_p fun K hK=>?_;go_simp;refine hK _ _ ?_;clear hK K)|(apply wpL_s;(intro w2 hw2;have hk1:=hw2.cell;have hk3:=hw2.1;clear hw2;go_simp;with_reducible rfl);simp only[Act.put,sA,sB,sC])
 refine wpL_k (fun K hK=>?_)
 go_simp
 refine hf.mono ?_
 rintro e W1 ⟨bm,rfl,hF,b1⟩
 refine hK _ _ (RN.KeepsN.of_below b1) ?_
 clear hK K hf
 have b1:Below W.heap.size W W1:=(Below.refl _ W).drew.trans b1
 have z1:=b1.size
 obtain⟨M,bq,hM,hc,hc2,hc3,hq,hbm⟩:=hF
 have hmk:M xk=some (.func (.func 188) #[] #[.pointer (some ⟨bq,0,none⟩)]):=by rw[HK.out];exact hc3
 have lk:=(hM.look Tryz.underlying3 Tryz.underlying256 (zeroFn W1) xk hmk).1
 simp only[Option.getD_some] at lk
 have r1:=row_below r0 b1 l0
 have eqn:Sem.run Tryz.prog (binOp BinOp.eql 255 (.func (.func 188) #[] #[.pointer (some ⟨bq,0,none⟩)]) Value.nilFunc) W1=.ok (.bool false) W1:=by kernel_rfl
 have HB:=hid (b0.trans (b1.mono b0.size))
 have b1x:=hid b1
 have R1:=hid r1
 have y:=row_cell r1
 have y0:=y 0
 have y1:=y 1
 have y2:=y 2
 have y3:=y 3
 have y4:=y 4
 have y5:=y 5
 have y6:=y 6
 have y7:=y 7
 simp at y0 y1 y2 y3 y4 y5 y6 y7
 clear y hM hc hc2 hc3 r0 b0 b1 hmk
 refine wpL_e (fun K hK=>?_)
 go_simp
 refine hK _ _ ?_
 clear hK K lk
 repeat first|(refine wpL_p fun K hK=>?_;go_simp;refine hK _ _ ?_;clear hK K)|refine wpL_nil ?_
 go_wp2_with fail
 obtain⟨s,hs,hsq⟩:∃s:ByteArray,Calls Tryz.prog 130 #[.int .i64 4,.int .i64 xr] W1 (fun e w'=>e=.returned (.string s)∧Below W1.heap.size W1 w')∧s.toList.isEmpty=false:=⟨_,g_answer (HW.out.below (b1x.out)) xr hdr,by rw[answerS_empty];simp;omega⟩
 refine hs.mono ?_
 rintro e W5 ⟨he,b5⟩
 subst he
 have HB:=hid (HB.out.trans (b5.mono HB.out.size))
 have r1:=row_below R1.out b5 (row_lt R1.out)
 have R1:=hid r1
 have y:=row_cell r1
 have y0:=y 0
 have y1:=y 1
 have y2:=y 2
 have y3:=y 3
 have y4:=y 4
 have y5:=y 5
 have y6:=y 6
 have y7:=y 7
 simp at y0 y1 y2 y3 y4 y5 y6 y7
 clear y hs
 go_wp2_with fail
 have ba:Below W5.heap.size W5 (W5.alloc (.cells #[.int .i64 0,.int .i64 xx,.int .i64 xh,.int .i64 xj,.int .i64 xo,.int .i64 xy,.int .i64 xv,.int .i64 xr] 69)):=(Below.refl _ W5).alloc (Nat.le_refl _) _
 have ra:=row_new W5 (.cells (evCs ⟨xk,xx,xh,xj,xo,xy,xv,xr⟩).toArray 69)
 rw[show (evCs ⟨xk,xx,xh,xj,xo,xy,xv,xr⟩).toArray=#[.int .i64 0,.int .i64 xx,.int .i64 xh,.int .i64 xj,.int .i64 xo,.int .i64 xy,.int .i64 xv,.int .i64 xr] from rfl] at ra
 generalize W5.alloc (.cells #[.int .i64 0,.int .i64 xx,.int .i64 xh,.int .i64 xj,.int .i64 xo,.int .i64 xy,.int .i64 xv,.int .i64 xr] 69)=W2 at *
 rw[show (#[.int .i64 0,.int .i64 xx,.int .i64 xh,.int .i64 xj,.int .i64 xo,.int .i64 xy,.int .i64 xv,.int .i64 xr]:Array Value)=(evCs ⟨xk,xx,xh,xj,xo,xy,xv,xr⟩).toArray from rfl] at ra
 have hq5:=row_below hq b5 (row_lt hq)
 have hnext:∀(wr:World),Below W5.heap.size W5 wr→∀i:Nat,i≤100→Calls Tryz.prog 188 #[evV ⟨xk,xx,xh,xj,xo,xy,xv,xr⟩,.int .i64 i,.pointer (some ⟨bq,0,none⟩)] wr (FdRet L i wr):=by
  intro wr hb i hi
  rw[hL1]
  exact g_retn ⟨xk,xx,xh,xj,xo,xy,xv,xr⟩ i hi bq (row_below hq5 hb (row_lt hq5))
 clear hL1
 have B2:=hid ba
 have RA:=hid ra
 have BB:=hid (HB.out.trans (ba.mono HB.out.size))
 have RE:=hid (row_below R1.out ba (row_lt R1.out))
 have lb:=row_lt R1.out
 have hbb:=HB.out.size
 have zz:=ba.size
 clear ba ra y0 y1 y2 y3 y4 y5 y6 y7 eqn
 obtain⟨br,hbr⟩:∃br,br=W5.heap.size:=⟨_,rfl⟩
 rw[←hbr] at RA ⊢
 have hbw:w.heap.size≤br:=by omega
 have hbe:br≠w.heap.size:=by omega
 have hbw1:W5.heap.size≤br:=by omega
 clear hbr r1
 have hlen:=HL.out.len
 go_loopw [5] (fun p wr=>∃i:Nat,i≤L.length∧p=.int .i64 i∧(∀f ∈ L.take i,inBd ⟨xk,xx,xh,xj,xo,xy,xv,xr⟩ f=true)∧Below w.heap.size w wr∧Below W5.heap.size W5 wr∧wr.heap[w.heap.size]?=some (.cells #[.int .i64 xk,.int .i64 xx,.int .i64 xh,.int .i64 xj,.int .i64 xo,.int .i64 xy,.int .i64 xv,.int .i64 xr] 69 (0,0))∧wr.heap[br]?=some (.cells (restG (evCs ⟨xk,xx,xh,xj,xo,xy,xv,xr⟩) (L.take i)).toArray 69 (0,0))) (fun p _=>L.length - (intOf p).toNat)
 case atStart=>exact⟨0,by omega,by go_num,by simp,BB.out,B2.out,RE.out,RA.out⟩
 case round=>
  obtain⟨i,hi,rfl,hpre,hB,hB2,hre,hrr⟩:=hrel
  have HPRE:=hid hpre
  clear hpre
  have lw:=row_lt hre
  have lr:=row_lt hrr
  have y:=row_cell hre
  have y0:=y 0
  have y1:=y 1
  have y2:=y 2
  have y3:=y 3
  have y4:=y 4
  have y5:=y 5
  have y6:=y 6
  have y7:=y 7
  simp at y0 y1 y2 y3 y4 y5 y6 y7
  have hnx:=hid (hnext wr (hB2) i (by omega))
  have HBw:=hid hB
  have HB2:=hid hB2
  have HRE:=hid hre
  have HRR:=hid hrr
  clear y hB hB2 hre hrr
  go_wp2_with fail
  refine(hnx.out).mono ?_
  rintro e W3 ⟨he,b3⟩
  subst he
  have z3:=b3.size
  have re3:=row_below HRE.out b3 lw
  have rr3:=row_below HRR.out b3 lr
  have B3:=hid (HBw.out.trans (b3.mono HBw.out.size))
  have B4:=hid (HB2.out.trans (b3.mono HB2.out.size))
  by_cases hlt:i < L.length
  ·have hLi:L[i]?=some L[i]:=List.getElem?_eq_getElem hlt
   have hm:L[i] ∈ L:=List.getElem_mem hlt
   have hfa:=HL.out.all _ hm
   have HPS:∀q:inBd ⟨xk,xx,xh,xj,xo,xy,xv,xr⟩ L[i]=true,∀f ∈ L.take (i+1),inBd ⟨xk,xx,xh,xj,xo,xy,xv,xr⟩ f=true:=fun q f hf=>by
    rw[List.take_succ_eq_append_getElem hlt] at hf
    rcases List.mem_append.1 hf with hf|hf
    ·exact HPRE.out f hf
    ·rw [List.mem_singleton.1 hf];exact q
   have HPN:inBd ⟨xk,xx,xh,xj,xo,xy,xv,xr⟩ L[i]=false→L.all (inBd ⟨xk,xx,xh,xj,xo,xy,xv,xr⟩)=false:=fun q=>by
    rw[List.all_eq_false]
    exact⟨_,hm,by rw[q];decide⟩
   have hn:=fld_cell ⟨xk,xx,xh,xj,xo,xy,xv,xr⟩ (offG_lt hfa).2
   have ho:=offG_lt hfa
   have hsn:restG (evCs ⟨xk,xx,xh,xj,xo,xy,xv,xr⟩) (L.take (i+1))=(restG (evCs ⟨xk,xx,xh,xj,xo,xy,xv,xr⟩) (L.take i)).set (offG L[i]) (.int .i64 0):=by rw[List.take_succ_eq_append_getElem hlt,restG_snoc]
   have HSN:=hid hsn
   have hrl:(restG (evCs ⟨xk,xx,xh,xj,xo,xy,xv,xr⟩) (L.take i)).length=8:=by rw[restG_len];rfl
   have hfd:=fun b w=>fdG_of hfa b w
   rw[hLi]
   have HPS:=hid HPS
   have HPN:=hid HPN
   generalize L[i]=f at *
   obtain⟨n,hnn⟩:∃n,n=fldAt ⟨xk,xx,xh,xj,xo,xy,xv,xr⟩ (offG f):=⟨_,rfl⟩
   rw[←hnn] at hn
   obtain⟨ff,tb,lo,hi'⟩:=f
   have cn:W3.cell? ⟨w.heap.size,offG ⟨ff,tb,lo,hi'⟩,none⟩=some (.int .i64 n):=(row_cell re3 _).trans (by simpa[Ev.cells] using hn)
   obtain⟨u,hu⟩:∃u,(restG (evCs ⟨xk,xx,xh,xj,xo,xy,xv,xr⟩) (L.take i))[offG ⟨ff,tb,lo,hi'⟩]?=some u:=⟨_,List.getElem?_eq_getElem (by omega)⟩
   have cr:W3.cell? ⟨br,offG ⟨ff,tb,lo,hi'⟩,none⟩=some u:=(row_cell rr3 _).trans (by simpa using hu)
   have fr:W3.frozen? ⟨br,offG ⟨ff,tb,lo,hi'⟩,none⟩=false:=row_free rr3 _
   obtain⟨o,hoo⟩:∃o,o=offG ⟨ff,tb,lo,hi'⟩:=⟨_,rfl⟩
   rw[←hoo] at cn cr fr hfd HSN
   simp only at hfd
   have hib:inBd ⟨xk,xx,xh,xj,xo,xy,xv,xr⟩ ⟨ff,tb,lo,hi'⟩=(decide (lo≤n)&&decide (n≤hi')):=by unfold inBd;rw[←hnn]
   clear hnn
   have RE3:=hid re3
   have RR3:=hid rr3
   have HFD:=hid hfd
   have lw3:=row_lt re3
   have lr3:=row_lt rr3
   clear re3 rr3 hfd hu hLi hm hn hsn hoo ho hrl y0 y1 y2 y3 y4 y5 y6 y7 hnx b3
   have hbr3:br < W3.heap.size:=lr3
   have hcf:=fun args X=>cfG_of hfa args X
   simp only at hcf
   clear hfa
   go_wp2_with fail
   refine(HFD.out _ _).mono ?_
   rintro e W4 ⟨he,hw4⟩
   subst he
   subst hw4
   have HE3:=hid (cell_below B3.out HGE.out HE.out)
   have hg3:8 < W3.heap.size:=by have:=HGE.out;have:=B3.out.size;omega
   by_cases hin:lo≤n∧n≤hi'
   case neg=>
    have HF:=hid (HPN.out (by rw[hib];simp;omega))
    by_cases hlo:n < lo
    ·have q1:decide (n < lo)=true:=by simpa using hlo
     have he3:=HE3.out
     go_wp2
     refine bodyPost_ret (v:=validV ⟨xk,xx,xh,xj,xo,xy,xv,xr⟩ vE L) (by simp[results,Tryz.results81,go_sem,validV,HF.out]) rfl ⟨rfl,?_⟩
     exact B3.out.alloc B3.out.size _
    ·have q1:decide (n < lo)=false:=by simpa using hlo
     have q2':decide (hi' < n)=true:=by simp;omega
     have q3':decide (n > hi')=true:=by simp;omega
     have he3:=HE3.out
     go_wp2
     refine bodyPost_ret (v:=validV ⟨xk,xx,xh,xj,xo,xy,xv,xr⟩ vE L) (by simp[results,Tryz.results81,go_sem,validV,HF.out]) rfl ⟨rfl,?_⟩
     exact B3.out.alloc B3.out.size _
   have q1:decide (n < lo)=false:=by simp;omega
   have q2':decide (hi' < n)=false:=by simp;omega
   have q3':decide (n > hi')=false:=by simp;omega
   have HYS:=hid (HPS.out (by rw[hib];simp;omega))
   go_wp2_with fail
   refine(HFD.out _ _).mono ?_
   rintro e W4 ⟨he,hw4⟩
   subst he
   subst hw4
   go_wp2_with fail
   go_roundw
   case rel=>
    have s3:=B3.out.setCell (p:=⟨br,o,none⟩) hbw (.int .i64 0)
    have s4:=B4.out.setCell (p:=⟨br,o,none⟩) hbw1 (.int .i64 0)
    exact⟨i+1,by omega,by go_num,HYS.out,s3.alloc s3.size _,s4.alloc s4.size _,row_old (row_other RE3.out hbe),by rw[HSN.out,←set_row];exact row_old (row_set RR3.out _ _)⟩
   case measure=>simp[intOf];omega
  ·have hno:L[i]?=none:=List.getElem?_eq_none (by omega)
   obtain rfl:i=L.length:=by omega
   rw[hno]
   have hall:=all_take HPRE.out rfl
   rw[List.take_length] at rr3
   have y:=row_cell rr3
   have ho8:∀f ∈ L,offG f < 8:=fun f hf=>(offG_lt (HL.out.all f hf)).2
   have hle:=fun j (hj:j < 8)=>left_cell ⟨xk,xx,xh,xj,xo,xy,xv,xr⟩ ho8 hj
   have hlz:=zeroB_iff (x:=⟨xk,xx,xh,xj,xo,xy,xv,xr⟩) (L:=L)
   generalize leftAt ⟨xk,xx,xh,xj,xo,xy,xv,xr⟩ L=m at *
   have x0:W3.cell? ⟨br,0,none⟩=some (.int .i64 (m 0)):=(y 0).trans (by simpa using hle 0 (by decide))
   have x1:W3.cell? ⟨br,1,none⟩=some (.int .i64 (m 1)):=(y 1).trans (by simpa using hle 1 (by decide))
   have x2:W3.cell? ⟨br,2,none⟩=some (.int .i64 (m 2)):=(y 2).trans (by simpa using hle 2 (by decide))
   have x3:W3.cell? ⟨br,3,none⟩=some (.int .i64 (m 3)):=(y 3).trans (by simpa using hle 3 (by decide))
   have x4:W3.cell? ⟨br,4,none⟩=some (.int .i64 (m 4)):=(y 4).trans (by simpa using hle 4 (by decide))
   have x5:W3.cell? ⟨br,5,none⟩=some (.int .i64 (m 5)):=(y 5).trans (by simpa using hle 5 (by decide))
   have x6:W3.cell? ⟨br,6,none⟩=some (.int .i64 (m 6)):=(y 6).trans (by simpa using hle 6 (by decide))
   have x7:W3.cell? ⟨br,7,none⟩=some (.int .i64 (m 7)):=(y 7).trans (by simpa using hle 7 (by decide))
   generalize hm0:m 0=m0 at x0
   generalize hm1:m 1=m1 at x1
   generalize hm2:m 2=m2 at x2
   generalize hm3:m 3=m3 at x3
   generalize hm4:m 4=m4 at x4
   generalize hm5:m 5=m5 at x5
   generalize hm6:m 6=m6 at x6
   generalize hm7:m 7=m7 at x7
   have HE3:=hid (cell_below B3.out HGE.out HE.out)
   have hg3:8 < W3.heap.size:=by have:=HGE.out;have:=B3.out.size;omega
   have lr3:=row_lt rr3
   clear y hle ho8 re3 rr3 y0 y1 y2 y3 y4 y5 y6 y7 hnx b3
   have hv:validV ⟨xk,xx,xh,xj,xo,xy,xv,xr⟩ vE L=if m0=0∧m1=0∧m2=0∧m3=0∧m4=0∧m5=0∧m6=0∧m7=0 then .nilIface else vE:=by
    unfold validV
    rw[hall,Bool.true_and]
    by_cases q:zeroB ⟨xk,xx,xh,xj,xo,xy,xv,xr⟩ L=true
    ·have q8:=hlz.1 q
     rw[if_pos q,if_pos]
     rw[←hm0,←hm1,←hm2,←hm3,←hm4,←hm5,←hm6,←hm7]
     exact⟨q8 0 (by decide),q8 1 (by decide),q8 2 (by decide),q8 3 (by decide),q8 4 (by decide),q8 5 (by decide),q8 6 (by decide),q8 7 (by decide)⟩
    ·rw [if_neg q,if_neg]
     rintro⟨h0,h1,h2,h3,h4,h5,h6,h7⟩
     refine q (hlz.2 fun j hj=>?_)
     match j,hj with
     |0,_=>rw[hm0,h0]
     |1,_=>rw[hm1,h1]
     |2,_=>rw[hm2,h2]
     |3,_=>rw[hm3,h3]
     |4,_=>rw[hm4,h4]
     |5,_=>rw[hm5,h5]
     |6,_=>rw[hm6,h6]
     |7,_=>rw[hm7,h7]
   clear hlz hm0 hm1 hm2 hm3 hm4 hm5 hm6 hm7
   by_cases hz:m0=0∧m1=0∧m2=0∧m3=0∧m4=0∧m5=0∧m6=0∧m7=0
   ·rw [if_pos hz] at hv
    have HVV:=hid hv
    clear hv
    obtain⟨rfl,rfl,rfl,rfl,rfl,rfl,rfl,rfl⟩:=hz
    go_wp2_with fail
    refine bodyPost_ret (v:=.nilIface) (by simp[results,Tryz.results81,go_sem]) rfl ⟨by rw[HVV.out],?_⟩
    exact B3.out.alloc B3.out.size _
   ·rw [if_neg hz] at hv
    have HVV:=hid hv
    clear hv
    have he3:=HE3.out
    go_wp2_with fail
    all_goals
     refine bodyPost_ret (v:=vE) (by simp[results,Tryz.results81,go_sem]) rfl ⟨by rw[HVV.out],?_⟩
     exact B3.out.alloc B3.out.size _
end
