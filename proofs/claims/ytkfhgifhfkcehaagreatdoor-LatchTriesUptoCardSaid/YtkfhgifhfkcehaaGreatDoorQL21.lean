/- Parts of the proof, merged by program out of 2 texts (EvF, EvG): the first: Events: which may be. Conditions: those of each theorem, as typed. -/
import Derived.Test.YtkfhgifhfkcehaaGreatDoorQL19
import Derived.Test.YtkfhgifhfkcehaaGreatDoorQL20
set_option linter.unusedVariables false
set_option linter.unusedSimpArgs false
set_option linter.unusedSectionVars false
set_option maxRecDepth 100000
set_option maxHeartbeats 4000000
namespace Go.Proofs.YtkfhgifhfkcehaaGreatDoor
open Go.Maps Go.RowKit
section
attribute [local irreducible] wpL
def fdAll:List Fd:=[fdTx,fdTh,fdOb,fdOp,fdVa,fdRe]
def offOf (f:Fd):Nat:=if f.f=221 then 1 else if f.f=222 then 2 else if f.f=223 then 3 else if f.f=224 then 4 else if f.f=226 then 6 else 7
theorem fd_of {f:Fd} (h:f ∈ fdAll) (b:Nat) (w:World):Calls Tryz.prog f.f #[.pointer (some ⟨b,0,none⟩)] w fun e w'=>e=.returned (.pointer (some ⟨b,offOf f,none⟩))∧w'=w:=by
 simp only[fdAll,List.mem_cons,List.not_mem_nil,or_false] at h
 rcases h with rfl|rfl|rfl|rfl|rfl|rfl
 ·exact e_tx1 b w
 ·exact e_thread1 b w
 ·exact e_obj1 b w
 ·exact e_op1 b w
 ·exact e_val1 b w
 ·exact e_ret1 b w
theorem cf_of {f:Fd} (h:f ∈ fdAll) (args:Array Value) (X:World):Sem.run Tryz.prog (callFunc f.f args) X=.ok (.enter f.f args) X:=by
 simp only[fdAll,List.mem_cons,List.not_mem_nil,or_false] at h
 rcases h with rfl|rfl|rfl|rfl|rfl|rfl <;> kernel_rfl
theorem off_lt {f:Fd} (h:f ∈ fdAll):1≤offOf f∧offOf f < 8:=by
 simp only[fdAll,List.mem_cons,List.not_mem_nil,or_false] at h
 rcases h with rfl|rfl|rfl|rfl|rfl|rfl <;> decide
def restF (cs:List Value) (l:List Fd):List Value:=l.foldl (fun cs f=>cs.set (offOf f) (.int .i64 0)) cs
theorem restF_snoc (cs:List Value) (l:List Fd) (f:Fd):restF cs (l++[f])=(restF cs l).set (offOf f) (.int .i64 0):=by simp[restF,List.foldl_append]
theorem restF_len (cs:List Value):∀(l:List Fd),(restF cs l).length=cs.length:=fun l=>by
 induction l generalizing cs with
 |nil=>rfl
 |cons f l ih=>show(restF (cs.set _ _) l).length=_;rw[ih,List.length_set]
theorem set_row (cs:List Value) (j:Nat) (v:Value):cs.toArray.setIfInBounds j v=(cs.set j v).toArray:=by simp
def evCs (x:Ev):List Value:=[.int .i64 0,.int .i64 x.tx,.int .i64 x.thread,.int .i64 x.obj,.int .i64 x.op,.int .i64 x.key,.int .i64 x.val,.int .i64 x.ret]
structure FdsOk (x:Ev) (L:List Fd):Prop where
 all:∀f ∈ L,f ∈ fdAll
 val:∀f ∈ L,∃n:Int,x.cells[offOf f]?=some (.int .i64 n)∧f.lo≤n∧n≤f.hi
 rest:restF (evCs x) L=List.replicate 8 (.int .i64 0)
 len:L.length≤10
def ValRet (w:World) (e:Ending) (w':World):Prop:=e=.returned .nilIface∧Below w.heap.size w w'
structure WordsAt (w:World):Prop where
 big:19 < w.heap.size
 ok:w.cell? ⟨19,0,none⟩=some (.string ⟨#[111,107]⟩)
 val:w.cell? ⟨19,2,none⟩=some (.string ⟨#[118,97,108]⟩)
 reg:w.cell? ⟨16,0,none⟩=some (.string ⟨#[114,101,103,105,115,116,101,114]⟩)
theorem WordsAt.below {w w':World} (h:WordsAt w) (hb:Below w.heap.size w w'):WordsAt w':=
 have h1:=h.big
 ⟨by have:=hb.size;omega,cell_below hb h1 h.ok,cell_below hb h1 h.val,cell_below hb (by omega) h.reg⟩
theorem ba_loop (s:ByteArray):∀(n i:Nat) (r:List UInt8),s.size - i=n→ByteArray.toList.loop s i r=r.reverse++s.data.toList.drop i
 |0,i,r,h=>by
  unfold ByteArray.toList.loop
  have h1:s.size=s.data.size:=rfl
  rw[if_neg (by omega),List.drop_eq_nil_of_le (by simp;omega)]
  simp
 |n+1,i,r,h=>by
  unfold ByteArray.toList.loop
  have h1:s.size=s.data.size:=rfl
  rw[if_pos (by omega),ba_loop s n (i+1) _ (by omega)]
  have hi:i < s.data.toList.length:=by simp;omega
  rw[List.drop_eq_getElem_cons hi]
  have:s.get! i=s.data.toList[i]:=by
   show s.data[i]! =_
   rw[getElem!_pos s.data i (by simpa using hi)]
   simp
  simp[this]
theorem ba_toList (s:ByteArray):s.toList=s.data.toList:=by
 unfold ByteArray.toList
 rw[ba_loop s _ 0 [] rfl]
 simp
theorem e_answerR {r:Int} (hr:r=1∨r=3) {w:World} (h:WordsAt w):∃s:ByteArray,Calls Tryz.prog 119 #[.int .i64 4,.int .i64 r] w (fun e w'=>e=.returned (.string s)∧Below w.heap.size w w')∧s.toList.isEmpty=false:=by
 have h1:=h.big
 rcases hr with rfl|rfl
 ·exact ⟨⟨#[111,107]⟩,e_answer (i:=0) (by omega) h.ok (by omega),by rw[ba_toList];rfl⟩
 ·exact ⟨⟨#[118,97,108]⟩,e_answer (i:=2) (by omega) h.val (by omega),by rw[ba_toList];rfl⟩
theorem zeroFn (w:World):(zeroValue 228).run Tryz.prog w=.ok .nilFunc w:=by kernel_rfl
theorem e_Valid1 (xk xx xh xj xo xy xv xr:Int) (hk:xk=1∨4≤xk∧xk < 8) (L:List Fd) (hL:FdsOk ⟨xk,xx,xh,xj,xo,xy,xv,xr⟩ L) (w:World) (hW:WordsAt w) (hL1:L=fdsOf xk):
  Calls Tryz.prog 73 #[evV ⟨xk,xx,xh,xj,xo,xy,xv,xr⟩] w (ValRet w):=by
 have b0:Below w.heap.size w (w.alloc (.cells #[.int .i64 xk,.int .i64 xx,.int .i64 xh,.int .i64 xj,.int .i64 xo,.int .i64 xy,.int .i64 xv,.int .i64 xr] 53)):=(Below.refl _ w).alloc (Nat.le_refl _) _
 have r0:=row_new w (.cells #[.int .i64 xk,.int .i64 xx,.int .i64 xh,.int .i64 xj,.int .i64 xo,.int .i64 xy,.int .i64 xv,.int .i64 xr] 53)
 have hf:=e_fields (w.alloc (.cells #[.int .i64 xk,.int .i64 xx,.int .i64 xh,.int .i64 xj,.int .i64 xo,.int .i64 xy,.int .i64 xv,.int .i64 xr] 53)).drew
 have HW:=hid (hW.below b0)
 have HL:=hid hL
 clear hW hL
 have q2:(xk==2)=false:=by simp;omega
 have q3:(xk==3)=false:=by simp;omega
 go_enter Tryz.func73,Tryz.ntmps73
 go_wp2_with fail
 generalize w.alloc (.cells #[.int .i64 xk,.int .i64 xx,.int .i64 xh,.int .i64 xj,.int .i64 xo,.int .i64 xy,.int .i64 xv,.int .i64 xr] 53)=W at *
 have y0:=row_cell r0 0
 have l0:=row_lt r0
 simp at y0
 refine wp_rN (W.heap.size) [3,0,1,2,0] (.fin [1,2,0,3,4]) (by kernel_rfl) ?_
 simp only[wpT,selX,guardAt,sD,sE,sF,sG]
 repeat first|(refine wpL_p fun K hK=>?_;go_simp;refine hK _ _ ?_;clear hK K)|(apply wpL_s;(intro w2 hw2;have hk1:=hw2.cell;have hk3:=hw2.1;clear hw2;go_simp;with_reducible rfl);simp only[Act.put,sA,sB,sC])
 refine wpL_k (fun K hK=>?_)
 go_simp
 refine hf.mono ?_
 rintro e W1 ⟨bm,rfl,hF,b1⟩
 refine hK _ _ (RN.KeepsN.of_below b1) ?_
 clear hK K hf
 have b1:Below W.heap.size W W1:=(Below.refl _ W).drew.trans b1
 have z1:=b1.size
 obtain⟨M,bq,hM,hc,hc2,hc3,hq,hbm⟩:=hF
 obtain⟨v,hmk,bl,sv,rfl,hbl,hsv⟩:=hc xk hk
 have lk:=(hM.look Tryz.underlying3 Tryz.underlying229 (zeroFn W1) xk hmk).1
 simp only[Option.getD_some] at lk
 have r1:=row_below r0 b1 l0
 have eqn:Sem.run Tryz.prog (binOp BinOp.eql 228 (.func (.func 162) #[] #[.pointer (some ⟨bl,0,none⟩)]) Value.nilFunc) W1=.ok (.bool false) W1:=by kernel_rfl
 have HB:=hid (b0.trans (b1.mono b0.size))
 have b1x:=hid b1
 have R1:=hid r1
 have y:=row_cell r1
 have y0:=y 0
 have y1:=y 1
 have y2:=y 2
 have y3:=y 3
 have y4:=y 4
 have y5:=y 5
 have y6:=y 6
 have y7:=y 7
 simp at y0 y1 y2 y3 y4 y5 y6 y7
 clear y hM hc hc2 hc3 r0 b0 b1 hmk
 refine wpL_e (fun K hK=>?_)
 go_simp
 refine hK _ _ ?_
 clear hK K lk
 repeat first|(refine wpL_p fun K hK=>?_;go_simp;refine hK _ _ ?_;clear hK K)|refine wpL_nil ?_
 go_wp2_with fail
 have ba:Below W1.heap.size W1 (W1.alloc (.cells #[.int .i64 0,.int .i64 xx,.int .i64 xh,.int .i64 xj,.int .i64 xo,.int .i64 xy,.int .i64 xv,.int .i64 xr] 53)):=(Below.refl _ W1).alloc (Nat.le_refl _) _
 have ra:=row_new W1 (.cells (evCs ⟨xk,xx,xh,xj,xo,xy,xv,xr⟩).toArray 53)
 rw[show (evCs ⟨xk,xx,xh,xj,xo,xy,xv,xr⟩).toArray=#[.int .i64 0,.int .i64 xx,.int .i64 xh,.int .i64 xj,.int .i64 xo,.int .i64 xy,.int .i64 xv,.int .i64 xr] from rfl] at ra
 generalize W1.alloc (.cells #[.int .i64 0,.int .i64 xx,.int .i64 xh,.int .i64 xj,.int .i64 xo,.int .i64 xy,.int .i64 xv,.int .i64 xr] 53)=W2 at *
 rw[show (#[.int .i64 0,.int .i64 xx,.int .i64 xh,.int .i64 xj,.int .i64 xo,.int .i64 xy,.int .i64 xv,.int .i64 xr]:Array Value)=(evCs ⟨xk,xx,xh,xj,xo,xy,xv,xr⟩).toArray from rfl] at ra
 have hnext:∀(wr:World),Below W1.heap.size W1 wr→∀i:Nat,i≤100→Calls Tryz.prog 162 #[evV ⟨xk,xx,xh,xj,xo,xy,xv,xr⟩,.int .i64 i,.pointer (some ⟨bl,0,none⟩)] wr (FdRet L i wr):=by
  intro wr hb i hi
  have b2:=hb
  rw[hL1]
  exact e_next _ i hi bl sv _ (row_below hbl b2 (row_lt hbl)) (OwnF.sl (OwnF.below hsv b2))
 clear hbl hsv hL1
 have B2:=hid ba
 have RA:=hid ra
 have BB:=hid (HB.out.trans (ba.mono HB.out.size))
 have RE:=hid (row_below R1.out ba (row_lt R1.out))
 have lb:=row_lt R1.out
 have hbb:=HB.out.size
 have zz:=ba.size
 clear ba ra y0 y1 y2 y3 y4 y5 y6 y7 eqn
 obtain⟨br,hbr⟩:∃br,br=W1.heap.size:=⟨_,rfl⟩
 rw[←hbr] at RA ⊢
 have hbw:w.heap.size≤br:=by omega
 have hbe:br≠w.heap.size:=by omega
 have hbw1:W1.heap.size≤br:=by omega
 clear hbr r1
 have hlen:=HL.out.len
 go_loopw [5] (fun p wr=>∃i:Nat,i≤L.length∧p=.int .i64 i∧Below w.heap.size w wr∧Below W1.heap.size W1 wr∧wr.heap[w.heap.size]?=some (.cells #[.int .i64 xk,.int .i64 xx,.int .i64 xh,.int .i64 xj,.int .i64 xo,.int .i64 xy,.int .i64 xv,.int .i64 xr] 53 (0,0))∧wr.heap[br]?=some (.cells (restF (evCs ⟨xk,xx,xh,xj,xo,xy,xv,xr⟩) (L.take i)).toArray 53 (0,0))) (fun p _=>L.length - (intOf p).toNat)
 case atStart=>exact⟨0,by omega,by go_num,BB.out,B2.out,RE.out,RA.out⟩
 case round=>
  obtain⟨i,hi,rfl,hB,hB2,hre,hrr⟩:=hrel
  have lw:=row_lt hre
  have lr:=row_lt hrr
  have y:=row_cell hre
  have y0:=y 0
  have y1:=y 1
  have y2:=y 2
  have y3:=y 3
  have y4:=y 4
  have y5:=y 5
  have y6:=y 6
  have y7:=y 7
  simp at y0 y1 y2 y3 y4 y5 y6 y7
  have hnx:=hid (hnext wr (hB2) i (by omega))
  have HBw:=hid hB
  have HB2:=hid hB2
  have HRE:=hid hre
  have HRR:=hid hrr
  clear y hB hB2 hre hrr
  go_wp2_with fail
  refine(hnx.out).mono ?_
  rintro e W3 ⟨he,b3⟩
  subst he
  have z3:=b3.size
  have re3:=row_below HRE.out b3 lw
  have rr3:=row_below HRR.out b3 lr
  have B3:=hid (HBw.out.trans (b3.mono HBw.out.size))
  have B4:=hid (HB2.out.trans (b3.mono HB2.out.size))
  by_cases hlt:i < L.length
  ·have hLi:L[i]?=some L[i]:=List.getElem?_eq_getElem hlt
   have hm:L[i] ∈ L:=List.getElem_mem hlt
   have hfa:=HL.out.all _ hm
   obtain⟨n,hn,hlo,hhi⟩:=HL.out.val _ hm
   have ho:=off_lt hfa
   have hsn:restF (evCs ⟨xk,xx,xh,xj,xo,xy,xv,xr⟩) (L.take (i+1))=(restF (evCs ⟨xk,xx,xh,xj,xo,xy,xv,xr⟩) (L.take i)).set (offOf L[i]) (.int .i64 0):=by rw[List.take_succ_eq_append_getElem hlt,restF_snoc]
   have HSN:=hid hsn
   have hrl:(restF (evCs ⟨xk,xx,xh,xj,xo,xy,xv,xr⟩) (L.take i)).length=8:=by rw[restF_len];rfl
   have hfd:=fun b w=>fd_of hfa b w
   rw[hLi]
   generalize L[i]=f at *
   obtain⟨ff,tb,lo,hi'⟩:=f
   have cn:W3.cell? ⟨w.heap.size,offOf ⟨ff,tb,lo,hi'⟩,none⟩=some (.int .i64 n):=(row_cell re3 _).trans (by simpa[Ev.cells] using hn)
   obtain⟨u,hu⟩:∃u,(restF (evCs ⟨xk,xx,xh,xj,xo,xy,xv,xr⟩) (L.take i))[offOf ⟨ff,tb,lo,hi'⟩]?=some u:=⟨_,List.getElem?_eq_getElem (by omega)⟩
   have cr:W3.cell? ⟨br,offOf ⟨ff,tb,lo,hi'⟩,none⟩=some u:=(row_cell rr3 _).trans (by simpa using hu)
   have fr:W3.frozen? ⟨br,offOf ⟨ff,tb,lo,hi'⟩,none⟩=false:=row_free rr3 _
   obtain⟨o,hoo⟩:∃o,o=offOf ⟨ff,tb,lo,hi'⟩:=⟨_,rfl⟩
   rw[←hoo] at cn cr fr hfd HSN
   simp only at hlo hhi hfd
   have q1:decide (n < lo)=false:=by simp;omega
   have q2':decide (hi' < n)=false:=by simp;omega
   have q3':decide (n > hi')=false:=by simp;omega
   have RE3:=hid re3
   have RR3:=hid rr3
   have HFD:=hid hfd
   have lw3:=row_lt re3
   have lr3:=row_lt rr3
   clear re3 rr3 hfd hu hLi hm hn hsn hoo ho hrl y0 y1 y2 y3 y4 y5 y6 y7 hnx b3 hlo hhi
   have hbr3:br < W3.heap.size:=lr3
   have hcf:=fun args X=>cf_of hfa args X
   simp only at hcf
   clear hfa
   go_wp2_with fail
   refine(HFD.out _ _).mono ?_
   rintro e W4 ⟨he,hw4⟩
   subst he
   subst hw4
   go_wp2_with fail
   refine(HFD.out _ _).mono ?_
   rintro e W4 ⟨he,hw4⟩
   subst he
   subst hw4
   go_wp2_with fail
   go_roundw
   case rel=>
    have s3:=B3.out.setCell (p:=⟨br,o,none⟩) hbw (.int .i64 0)
    have s4:=B4.out.setCell (p:=⟨br,o,none⟩) hbw1 (.int .i64 0)
    exact⟨i+1,by omega,by go_num,s3.alloc s3.size _,s4.alloc s4.size _,row_old (row_other RE3.out hbe),by rw[HSN.out,←set_row];exact row_old (row_set RR3.out _ _)⟩
   case measure=>simp[intOf];omega
  ·have hno:L[i]?=none:=List.getElem?_eq_none (by omega)
   obtain rfl:i=L.length:=by omega
   rw[hno]
   have hz:=HL.out.rest
   rw[List.take_length] at rr3
   rw[hz] at rr3
   have y:=row_cell rr3
   have x0:=y 0
   have x1:=y 1
   have x2:=y 2
   have x3:=y 3
   have x4:=y 4
   have x5:=y 5
   have x6:=y 6
   have x7:=y 7
   simp at x0 x1 x2 x3 x4 x5 x6 x7
   have lr3:=row_lt rr3
   clear y hz re3 rr3 y0 y1 y2 y3 y4 y5 y6 y7 hnx b3
   go_wp2_with fail
   refine bodyPost_ret (v:=.nilIface) (by simp[results,Tryz.results73,go_sem]) rfl ⟨rfl,?_⟩
   exact B3.out.alloc B3.out.size _
theorem e_Valid2 (xk xx xh xj xo xy xv xr:Int) (hop:xo=1∨xo=2) (hk:xk=2) (L:List Fd) (hL:FdsOk ⟨xk,xx,xh,xj,xo,xy,xv,xr⟩ L) (w:World) (hW:WordsAt w) (hL1:L=callFds xo):
  Calls Tryz.prog 73 #[evV ⟨xk,xx,xh,xj,xo,xy,xv,xr⟩] w (ValRet w):=by
 have b0:Below w.heap.size w (w.alloc (.cells #[.int .i64 xk,.int .i64 xx,.int .i64 xh,.int .i64 xj,.int .i64 xo,.int .i64 xy,.int .i64 xv,.int .i64 xr] 53)):=(Below.refl _ w).alloc (Nat.le_refl _) _
 have r0:=row_new w (.cells #[.int .i64 xk,.int .i64 xx,.int .i64 xh,.int .i64 xj,.int .i64 xo,.int .i64 xy,.int .i64 xv,.int .i64 xr] 53)
 have hf:=e_fields (w.alloc (.cells #[.int .i64 xk,.int .i64 xx,.int .i64 xh,.int .i64 xj,.int .i64 xo,.int .i64 xy,.int .i64 xv,.int .i64 xr] 53)).drew
 have HW:=hid (hW.below b0)
 have HL:=hid hL
 clear hW hL
 have q2:(xk==2)=true:=by simp;omega
 have q3:(xk==3)=false:=by simp;omega
 have HK:=hid hk
 clear hk
 go_enter Tryz.func73,Tryz.ntmps73
 go_wp2_with fail
 generalize w.alloc (.cells #[.int .i64 xk,.int .i64 xx,.int .i64 xh,.int .i64 xj,.int .i64 xo,.int .i64 xy,.int .i64 xv,.int .i64 xr] 53)=W at *
 have y0:=row_cell r0 0
 have l0:=row_lt r0
 simp at y0
 refine wp_rN (W.heap.size) [3,0,1,2,0] (.fin [1,2,0,3,4]) (by kernel_rfl) ?_
 simp only[wpT,selX,guardAt,sD,sE,sF,sG]
 repeat first|(refine wpL_p fun K hK=>?_;go_simp;refine hK _ _ ?_;clear hK K)|(apply wpL_s;(intro w2 hw2;have hk1:=hw2.cell;have hk3:=hw2.1;clear hw2;go_simp;with_reducible rfl);simp only[Act.put,sA,sB,sC])
 refine wpL_k (fun K hK=>?_)
 go_simp
 refine hf.mono ?_
 rintro e W1 ⟨bm,rfl,hF,b1⟩
 refine hK _ _ (RN.KeepsN.of_below b1) ?_
 clear hK K hf
 have b1:Below W.heap.size W W1:=(Below.refl _ W).drew.trans b1
 have z1:=b1.size
 obtain⟨M,bq,hM,hc,hc2,hc3,hq,hbm⟩:=hF
 have hmk:M xk=some (.func (.func 165) #[] #[.pointer (some ⟨bq,0,none⟩)]):=by rw[HK.out];exact hc2
 have lk:=(hM.look Tryz.underlying3 Tryz.underlying229 (zeroFn W1) xk hmk).1
 simp only[Option.getD_some] at lk
 have r1:=row_below r0 b1 l0
 have eqn:Sem.run Tryz.prog (binOp BinOp.eql 228 (.func (.func 165) #[] #[.pointer (some ⟨bq,0,none⟩)]) Value.nilFunc) W1=.ok (.bool false) W1:=by kernel_rfl
 have HB:=hid (b0.trans (b1.mono b0.size))
 have b1x:=hid b1
 have R1:=hid r1
 have y:=row_cell r1
 have y0:=y 0
 have y1:=y 1
 have y2:=y 2
 have y3:=y 3
 have y4:=y 4
 have y5:=y 5
 have y6:=y 6
 have y7:=y 7
 simp at y0 y1 y2 y3 y4 y5 y6 y7
 clear y hM hc hc2 hc3 r0 b0 b1 hmk
 refine wpL_e (fun K hK=>?_)
 go_simp
 refine hK _ _ ?_
 clear hK K lk
 repeat first|(refine wpL_p fun K hK=>?_;go_simp;refine hK _ _ ?_;clear hK K)|refine wpL_nil ?_
 go_wp2_with fail
 refine(e_Of xo hop _).mono ?_
 rintro e W5 ⟨he,hw5⟩
 subst he
 rw[hw5]
 clear hw5 W5
 go_wp2_with fail
 have ba:Below W1.heap.size W1 (W1.alloc (.cells #[.int .i64 0,.int .i64 xx,.int .i64 xh,.int .i64 xj,.int .i64 xo,.int .i64 xy,.int .i64 xv,.int .i64 xr] 53)):=(Below.refl _ W1).alloc (Nat.le_refl _) _
 have ra:=row_new W1 (.cells (evCs ⟨xk,xx,xh,xj,xo,xy,xv,xr⟩).toArray 53)
 rw[show (evCs ⟨xk,xx,xh,xj,xo,xy,xv,xr⟩).toArray=#[.int .i64 0,.int .i64 xx,.int .i64 xh,.int .i64 xj,.int .i64 xo,.int .i64 xy,.int .i64 xv,.int .i64 xr] from rfl] at ra
 generalize W1.alloc (.cells #[.int .i64 0,.int .i64 xx,.int .i64 xh,.int .i64 xj,.int .i64 xo,.int .i64 xy,.int .i64 xv,.int .i64 xr] 53)=W2 at *
 rw[show (#[.int .i64 0,.int .i64 xx,.int .i64 xh,.int .i64 xj,.int .i64 xo,.int .i64 xy,.int .i64 xv,.int .i64 xr]:Array Value)=(evCs ⟨xk,xx,xh,xj,xo,xy,xv,xr⟩).toArray from rfl] at ra
 have hnext:∀(wr:World),Below W1.heap.size W1 wr→∀i:Nat,i≤100→Calls Tryz.prog 165 #[evV ⟨xk,xx,xh,xj,xo,xy,xv,xr⟩,.int .i64 i,.pointer (some ⟨bq,0,none⟩)] wr (FdRet L i wr):=by
  intro wr hb i hi
  rw[hL1]
  exact e_call ⟨xk,xx,xh,xj,xo,xy,xv,xr⟩ hop i hi bq (row_below hq hb (row_lt hq))
 clear hL1
 have B2:=hid ba
 have RA:=hid ra
 have BB:=hid (HB.out.trans (ba.mono HB.out.size))
 have RE:=hid (row_below R1.out ba (row_lt R1.out))
 have lb:=row_lt R1.out
 have hbb:=HB.out.size
 have zz:=ba.size
 clear ba ra y0 y1 y2 y3 y4 y5 y6 y7 eqn
 obtain⟨br,hbr⟩:∃br,br=W1.heap.size:=⟨_,rfl⟩
 rw[←hbr] at RA ⊢
 have hbw:w.heap.size≤br:=by omega
 have hbe:br≠w.heap.size:=by omega
 have hbw1:W1.heap.size≤br:=by omega
 clear hbr r1
 have hlen:=HL.out.len
 go_loopw [5] (fun p wr=>∃i:Nat,i≤L.length∧p=.int .i64 i∧Below w.heap.size w wr∧Below W1.heap.size W1 wr∧wr.heap[w.heap.size]?=some (.cells #[.int .i64 xk,.int .i64 xx,.int .i64 xh,.int .i64 xj,.int .i64 xo,.int .i64 xy,.int .i64 xv,.int .i64 xr] 53 (0,0))∧wr.heap[br]?=some (.cells (restF (evCs ⟨xk,xx,xh,xj,xo,xy,xv,xr⟩) (L.take i)).toArray 53 (0,0))) (fun p _=>L.length - (intOf p).toNat)
 case atStart=>exact⟨0,by omega,by go_num,BB.out,B2.out,RE.out,RA.out⟩
 case round=>
  obtain⟨i,hi,rfl,hB,hB2,hre,hrr⟩:=hrel
  have lw:=row_lt hre
  have lr:=row_lt hrr
  have y:=row_cell hre
  have y0:=y 0
  have y1:=y 1
  have y2:=y 2
  have y3:=y 3
  have y4:=y 4
  have y5:=y 5
  have y6:=y 6
  have y7:=y 7
  simp at y0 y1 y2 y3 y4 y5 y6 y7
  have hnx:=hid (hnext wr (hB2) i (by omega))
  have HBw:=hid hB
  have HB2:=hid hB2
  have HRE:=hid hre
  have HRR:=hid hrr
  clear y hB hB2 hre hrr
  go_wp2_with fail
  refine(hnx.out).mono ?_
  rintro e W3 ⟨he,b3⟩
  subst he
  have z3:=b3.size
  have re3:=row_below HRE.out b3 lw
  have rr3:=row_below HRR.out b3 lr
  have B3:=hid (HBw.out.trans (b3.mono HBw.out.size))
  have B4:=hid (HB2.out.trans (b3.mono HB2.out.size))
  by_cases hlt:i < L.length
  ·have hLi:L[i]?=some L[i]:=List.getElem?_eq_getElem hlt
   have hm:L[i] ∈ L:=List.getElem_mem hlt
   have hfa:=HL.out.all _ hm
   obtain⟨n,hn,hlo,hhi⟩:=HL.out.val _ hm
   have ho:=off_lt hfa
   have hsn:restF (evCs ⟨xk,xx,xh,xj,xo,xy,xv,xr⟩) (L.take (i+1))=(restF (evCs ⟨xk,xx,xh,xj,xo,xy,xv,xr⟩) (L.take i)).set (offOf L[i]) (.int .i64 0):=by rw[List.take_succ_eq_append_getElem hlt,restF_snoc]
   have HSN:=hid hsn
   have hrl:(restF (evCs ⟨xk,xx,xh,xj,xo,xy,xv,xr⟩) (L.take i)).length=8:=by rw[restF_len];rfl
   have hfd:=fun b w=>fd_of hfa b w
   rw[hLi]
   generalize L[i]=f at *
   obtain⟨ff,tb,lo,hi'⟩:=f
   have cn:W3.cell? ⟨w.heap.size,offOf ⟨ff,tb,lo,hi'⟩,none⟩=some (.int .i64 n):=(row_cell re3 _).trans (by simpa[Ev.cells] using hn)
   obtain⟨u,hu⟩:∃u,(restF (evCs ⟨xk,xx,xh,xj,xo,xy,xv,xr⟩) (L.take i))[offOf ⟨ff,tb,lo,hi'⟩]?=some u:=⟨_,List.getElem?_eq_getElem (by omega)⟩
   have cr:W3.cell? ⟨br,offOf ⟨ff,tb,lo,hi'⟩,none⟩=some u:=(row_cell rr3 _).trans (by simpa using hu)
   have fr:W3.frozen? ⟨br,offOf ⟨ff,tb,lo,hi'⟩,none⟩=false:=row_free rr3 _
   obtain⟨o,hoo⟩:∃o,o=offOf ⟨ff,tb,lo,hi'⟩:=⟨_,rfl⟩
   rw[←hoo] at cn cr fr hfd HSN
   simp only at hlo hhi hfd
   have q1:decide (n < lo)=false:=by simp;omega
   have q2':decide (hi' < n)=false:=by simp;omega
   have q3':decide (n > hi')=false:=by simp;omega
   have RE3:=hid re3
   have RR3:=hid rr3
   have HFD:=hid hfd
   have lw3:=row_lt re3
   have lr3:=row_lt rr3
   clear re3 rr3 hfd hu hLi hm hn hsn hoo ho hrl y0 y1 y2 y3 y4 y5 y6 y7 hnx b3 hlo hhi
   have hbr3:br < W3.heap.size:=lr3
   have hcf:=fun args X=>cf_of hfa args X
   simp only at hcf
   clear hfa
   go_wp2_with fail
   refine(HFD.out _ _).mono ?_
   rintro e W4 ⟨he,hw4⟩
   subst he
   subst hw4
   go_wp2_with fail
   refine(HFD.out _ _).mono ?_
   rintro e W4 ⟨he,hw4⟩
   subst he
   subst hw4
   go_wp2_with fail
   go_roundw
   case rel=>
    have s3:=B3.out.setCell (p:=⟨br,o,none⟩) hbw (.int .i64 0)
    have s4:=B4.out.setCell (p:=⟨br,o,none⟩) hbw1 (.int .i64 0)
    exact⟨i+1,by omega,by go_num,s3.alloc s3.size _,s4.alloc s4.size _,row_old (row_other RE3.out hbe),by rw[HSN.out,←set_row];exact row_old (row_set RR3.out _ _)⟩
   case measure=>simp[intOf];omega
  ·have hno:L[i]?=none:=List.getElem?_eq_none (by omega)
   obtain rfl:i=L.length:=by omega
   rw[hno]
   have hz:=HL.out.rest
   rw[List.take_length] at rr3
   rw[hz] at rr3
   have y:=row_cell rr3
   have x0:=y 0
   have x1:=y 1
   have x2:=y 2
   have x3:=y 3
   have x4:=y 4
   have x5:=y 5
   have x6:=y 6
   have x7:=y 7
   simp at x0 x1 x2 x3 x4 x5 x6 x7
   have lr3:=row_lt rr3
   clear y hz re3 rr3 y0 y1 y2 y3 y4 y5 y6 y7 hnx b3
   go_wp2_with fail
   refine bodyPost_ret (v:=.nilIface) (by simp[results,Tryz.results73,go_sem]) rfl ⟨rfl,?_⟩
   exact B3.out.alloc B3.out.size _
theorem e_Valid3 (xk xx xh xj xo xy xv xr:Int) (hop:xr=1∨xr=3) (hk:xk=3) (L:List Fd) (hL:FdsOk ⟨xk,xx,xh,xj,xo,xy,xv,xr⟩ L) (w:World) (hW:WordsAt w) (hL1:L=retFds xr):
  Calls Tryz.prog 73 #[evV ⟨xk,xx,xh,xj,xo,xy,xv,xr⟩] w (ValRet w):=by
 have b0:Below w.heap.size w (w.alloc (.cells #[.int .i64 xk,.int .i64 xx,.int .i64 xh,.int .i64 xj,.int .i64 xo,.int .i64 xy,.int .i64 xv,.int .i64 xr] 53)):=(Below.refl _ w).alloc (Nat.le_refl _) _
 have r0:=row_new w (.cells #[.int .i64 xk,.int .i64 xx,.int .i64 xh,.int .i64 xj,.int .i64 xo,.int .i64 xy,.int .i64 xv,.int .i64 xr] 53)
 have hf:=e_fields (w.alloc (.cells #[.int .i64 xk,.int .i64 xx,.int .i64 xh,.int .i64 xj,.int .i64 xo,.int .i64 xy,.int .i64 xv,.int .i64 xr] 53)).drew
 have HW:=hid (hW.below b0)
 have HL:=hid hL
 clear hW hL
 have q2:(xk==2)=false:=by simp;omega
 have q3:(xk==3)=true:=by simp;omega
 have HK:=hid hk
 clear hk
 go_enter Tryz.func73,Tryz.ntmps73
 go_wp2_with fail
 generalize w.alloc (.cells #[.int .i64 xk,.int .i64 xx,.int .i64 xh,.int .i64 xj,.int .i64 xo,.int .i64 xy,.int .i64 xv,.int .i64 xr] 53)=W at *
 have y0:=row_cell r0 0
 have l0:=row_lt r0
 simp at y0
 refine wp_rN (W.heap.size) [3,0,1,2,0] (.fin [1,2,0,3,4]) (by kernel_rfl) ?_
 simp only[wpT,selX,guardAt,sD,sE,sF,sG]
 repeat first|(refine wpL_p fun K hK=>?_;go_simp;refine hK _ _ ?_;clear hK K)|(apply wpL_s;(intro w2 hw2;have hk1:=hw2.cell;have hk3:=hw2.1;clear hw2;go_simp;with_reducible rfl);simp only[Act.put,sA,sB,sC])
 refine wpL_k (fun K hK=>?_)
 go_simp
 refine hf.mono ?_
 rintro e W1 ⟨bm,rfl,hF,b1⟩
 refine hK _ _ (RN.KeepsN.of_below b1) ?_
 clear hK K hf
 have b1:Below W.heap.size W W1:=(Below.refl _ W).drew.trans b1
 have z1:=b1.size
 obtain⟨M,bq,hM,hc,hc2,hc3,hq,hbm⟩:=hF
 have hmk:M xk=some (.func (.func 170) #[] #[.pointer (some ⟨bq,0,none⟩)]):=by rw[HK.out];exact hc3
 have lk:=(hM.look Tryz.underlying3 Tryz.underlying229 (zeroFn W1) xk hmk).1
 simp only[Option.getD_some] at lk
 have r1:=row_below r0 b1 l0
 have eqn:Sem.run Tryz.prog (binOp BinOp.eql 228 (.func (.func 170) #[] #[.pointer (some ⟨bq,0,none⟩)]) Value.nilFunc) W1=.ok (.bool false) W1:=by kernel_rfl
 have HB:=hid (b0.trans (b1.mono b0.size))
 have b1x:=hid b1
 have R1:=hid r1
 have y:=row_cell r1
 have y0:=y 0
 have y1:=y 1
 have y2:=y 2
 have y3:=y 3
 have y4:=y 4
 have y5:=y 5
 have y6:=y 6
 have y7:=y 7
 simp at y0 y1 y2 y3 y4 y5 y6 y7
 clear y hM hc hc2 hc3 r0 b0 b1 hmk
 refine wpL_e (fun K hK=>?_)
 go_simp
 refine hK _ _ ?_
 clear hK K lk
 repeat first|(refine wpL_p fun K hK=>?_;go_simp;refine hK _ _ ?_;clear hK K)|refine wpL_nil ?_
 go_wp2_with fail
 obtain⟨s,hs,hsq⟩:=e_answerR hop (HW.out.below (b1x.out))
 refine hs.mono ?_
 rintro e W5 ⟨he,b5⟩
 subst he
 have HB:=hid (HB.out.trans (b5.mono HB.out.size))
 have r1:=row_below R1.out b5 (row_lt R1.out)
 have R1:=hid r1
 have y:=row_cell r1
 have y0:=y 0
 have y1:=y 1
 have y2:=y 2
 have y3:=y 3
 have y4:=y 4
 have y5:=y 5
 have y6:=y 6
 have y7:=y 7
 simp at y0 y1 y2 y3 y4 y5 y6 y7
 clear y hs
 go_wp2_with fail
 have ba:Below W5.heap.size W5 (W5.alloc (.cells #[.int .i64 0,.int .i64 xx,.int .i64 xh,.int .i64 xj,.int .i64 xo,.int .i64 xy,.int .i64 xv,.int .i64 xr] 53)):=(Below.refl _ W5).alloc (Nat.le_refl _) _
 have ra:=row_new W5 (.cells (evCs ⟨xk,xx,xh,xj,xo,xy,xv,xr⟩).toArray 53)
 rw[show (evCs ⟨xk,xx,xh,xj,xo,xy,xv,xr⟩).toArray=#[.int .i64 0,.int .i64 xx,.int .i64 xh,.int .i64 xj,.int .i64 xo,.int .i64 xy,.int .i64 xv,.int .i64 xr] from rfl] at ra
 generalize W5.alloc (.cells #[.int .i64 0,.int .i64 xx,.int .i64 xh,.int .i64 xj,.int .i64 xo,.int .i64 xy,.int .i64 xv,.int .i64 xr] 53)=W2 at *
 rw[show (#[.int .i64 0,.int .i64 xx,.int .i64 xh,.int .i64 xj,.int .i64 xo,.int .i64 xy,.int .i64 xv,.int .i64 xr]:Array Value)=(evCs ⟨xk,xx,xh,xj,xo,xy,xv,xr⟩).toArray from rfl] at ra
 have hq5:=row_below hq b5 (row_lt hq)
 have hnext:∀(wr:World),Below W5.heap.size W5 wr→∀i:Nat,i≤100→Calls Tryz.prog 170 #[evV ⟨xk,xx,xh,xj,xo,xy,xv,xr⟩,.int .i64 i,.pointer (some ⟨bq,0,none⟩)] wr (FdRet L i wr):=by
  intro wr hb i hi
  rw[hL1]
  exact e_retn ⟨xk,xx,xh,xj,xo,xy,xv,xr⟩ hop i hi bq (row_below hq5 hb (row_lt hq5))
 clear hL1
 have B2:=hid ba
 have RA:=hid ra
 have BB:=hid (HB.out.trans (ba.mono HB.out.size))
 have RE:=hid (row_below R1.out ba (row_lt R1.out))
 have lb:=row_lt R1.out
 have hbb:=HB.out.size
 have zz:=ba.size
 clear ba ra y0 y1 y2 y3 y4 y5 y6 y7 eqn
 obtain⟨br,hbr⟩:∃br,br=W5.heap.size:=⟨_,rfl⟩
 rw[←hbr] at RA ⊢
 have hbw:w.heap.size≤br:=by omega
 have hbe:br≠w.heap.size:=by omega
 have hbw1:W5.heap.size≤br:=by omega
 clear hbr r1
 have hlen:=HL.out.len
 go_loopw [5] (fun p wr=>∃i:Nat,i≤L.length∧p=.int .i64 i∧Below w.heap.size w wr∧Below W5.heap.size W5 wr∧wr.heap[w.heap.size]?=some (.cells #[.int .i64 xk,.int .i64 xx,.int .i64 xh,.int .i64 xj,.int .i64 xo,.int .i64 xy,.int .i64 xv,.int .i64 xr] 53 (0,0))∧wr.heap[br]?=some (.cells (restF (evCs ⟨xk,xx,xh,xj,xo,xy,xv,xr⟩) (L.take i)).toArray 53 (0,0))) (fun p _=>L.length - (intOf p).toNat)
 case atStart=>exact⟨0,by omega,by go_num,BB.out,B2.out,RE.out,RA.out⟩
 case round=>
  obtain⟨i,hi,rfl,hB,hB2,hre,hrr⟩:=hrel
  have lw:=row_lt hre
  have lr:=row_lt hrr
  have y:=row_cell hre
  have y0:=y 0
  have y1:=y 1
  have y2:=y 2
  have y3:=y 3
  have y4:=y 4
  have y5:=y 5
  have y6:=y 6
  have y7:=y 7
  simp at y0 y1 y2 y3 y4 y5 y6 y7
  have hnx:=hid (hnext wr (hB2) i (by omega))
  have HBw:=hid hB
  have HB2:=hid hB2
  have HRE:=hid hre
  have HRR:=hid hrr
  clear y hB hB2 hre hrr
  go_wp2_with fail
  refine(hnx.out).mono ?_
  rintro e W3 ⟨he,b3⟩
  subst he
  have z3:=b3.size
  have re3:=row_below HRE.out b3 lw
  have rr3:=row_below HRR.out b3 lr
  have B3:=hid (HBw.out.trans (b3.mono HBw.out.size))
  have B4:=hid (HB2.out.trans (b3.mono HB2.out.size))
  by_cases hlt:i < L.length
  ·have hLi:L[i]?=some L[i]:=List.getElem?_eq_getElem hlt
   have hm:L[i] ∈ L:=List.getElem_mem hlt
   have hfa:=HL.out.all _ hm
   obtain⟨n,hn,hlo,hhi⟩:=HL.out.val _ hm
   have ho:=off_lt hfa
   have hsn:restF (evCs ⟨xk,xx,xh,xj,xo,xy,xv,xr⟩) (L.take (i+1))=(restF (evCs ⟨xk,xx,xh,xj,xo,xy,xv,xr⟩) (L.take i)).set (offOf L[i]) (.int .i64 0):=by rw[List.take_succ_eq_append_getElem hlt,restF_snoc]
   have HSN:=hid hsn
   have hrl:(restF (evCs ⟨xk,xx,xh,xj,xo,xy,xv,xr⟩) (L.take i)).length=8:=by rw[restF_len];rfl
   have hfd:=fun b w=>fd_of hfa b w
   rw[hLi]
   generalize L[i]=f at *
   obtain⟨ff,tb,lo,hi'⟩:=f
   have cn:W3.cell? ⟨w.heap.size,offOf ⟨ff,tb,lo,hi'⟩,none⟩=some (.int .i64 n):=(row_cell re3 _).trans (by simpa[Ev.cells] using hn)
   obtain⟨u,hu⟩:∃u,(restF (evCs ⟨xk,xx,xh,xj,xo,xy,xv,xr⟩) (L.take i))[offOf ⟨ff,tb,lo,hi'⟩]?=some u:=⟨_,List.getElem?_eq_getElem (by omega)⟩
   have cr:W3.cell? ⟨br,offOf ⟨ff,tb,lo,hi'⟩,none⟩=some u:=(row_cell rr3 _).trans (by simpa using hu)
   have fr:W3.frozen? ⟨br,offOf ⟨ff,tb,lo,hi'⟩,none⟩=false:=row_free rr3 _
   obtain⟨o,hoo⟩:∃o,o=offOf ⟨ff,tb,lo,hi'⟩:=⟨_,rfl⟩
   rw[←hoo] at cn cr fr hfd HSN
   simp only at hlo hhi hfd
   have q1:decide (n < lo)=false:=by simp;omega
   have q2':decide (hi' < n)=false:=by simp;omega
   have q3':decide (n > hi')=false:=by simp;omega
   have RE3:=hid re3
   have RR3:=hid rr3
   have HFD:=hid hfd
   have lw3:=row_lt re3
   have lr3:=row_lt rr3
   clear re3 rr3 hfd hu hLi hm hn hsn hoo ho hrl y0 y1 y2 y3 y4 y5 y6 y7 hnx b3 hlo hhi
   have hbr3:br < W3.heap.size:=lr3
   have hcf:=fun args X=>cf_of hfa args X
   simp only at hcf
   clear hfa
   go_wp2_with fail
   refine(HFD.out _ _).mono ?_
   rintro e W4 ⟨he,hw4⟩
   subst he
   subst hw4
   go_wp2_with fail
   refine(HFD.out _ _).mono ?_
   rintro e W4 ⟨he,hw4⟩
   subst he
   subst hw4
   go_wp2_with fail
   go_roundw
   case rel=>
    have s3:=B3.out.setCell (p:=⟨br,o,none⟩) hbw (.int .i64 0)
    have s4:=B4.out.setCell (p:=⟨br,o,none⟩) hbw1 (.int .i64 0)
    exact⟨i+1,by omega,by go_num,s3.alloc s3.size _,s4.alloc s4.size _,row_old (row_other RE3.out hbe),by rw[HSN.out,←set_row];exact row_old (row_set RR3.out _ _)⟩
   case measure=>simp[intOf];omega
  ·have hno:L[i]?=none:=List.getElem?_eq_none (by omega)
   obtain rfl:i=L.length:=by omega
   rw[hno]
   have hz:=HL.out.rest
   rw[List.take_length] at rr3
   rw[hz] at rr3
   have y:=row_cell rr3
   have x0:=y 0
   have x1:=y 1
   have x2:=y 2
   have x3:=y 3
   have x4:=y 4
   have x5:=y 5
   have x6:=y 6
   have x7:=y 7
   simp at x0 x1 x2 x3 x4 x5 x6 x7
   have lr3:=row_lt rr3
   clear y hz re3 rr3 y0 y1 y2 y3 y4 y5 y6 y7 hnx b3
   go_wp2_with fail
   refine bodyPost_ret (v:=.nilIface) (by simp[results,Tryz.results73,go_sem]) rfl ⟨rfl,?_⟩
   exact B3.out.alloc B3.out.size _
end
section
attribute [local irreducible] wpL
theorem e_Valid (x:Ev) (m:Nat) (h:EvOk m x) (w:World) (hW:WordsAt w):Calls Tryz.prog 73 #[evV x] w (ValRet w):=by
 obtain⟨xk,xx,xh,xj,xo,xy,xv,xr⟩:=x
 obtain⟨⟨t1,t2⟩,hf⟩:=h
 simp only at t1 t2 hf
 have offs:offOf fdTx=1∧offOf fdTh=2∧offOf fdOb=3∧offOf fdOp=4∧offOf fdVa=6∧offOf fdRe=7:=by decide
 obtain⟨o1,o2,o3,o4,o5,o6⟩:=offs
 rcases hf with⟨i,h1,h2,h⟩|⟨c,h1,h2,h⟩|⟨c,v,h1,h2,h3,h4,h⟩|h|⟨v,h3,h4,h⟩|⟨k,hk,h⟩ <;> simp only[Ev.mk.injEq,true_and] at h
 ·obtain ⟨rfl,rfl,rfl,rfl,rfl,rfl,rfl⟩:=h
  refine e_Valid1 _ _ _ _ _ _ _ _ (.inl rfl) [fdTx,fdTh] ⟨by simp[fdAll],fun f hf=>?_,by simp[restF,evCs,o1,o2,List.replicate],by decide⟩ w hW rfl
  simp only[List.mem_cons,List.not_mem_nil,or_false] at hf
  rcases hf with rfl|rfl
  ·rw [o1];exact⟨xx,rfl,t1,t2⟩
  ·rw [o2];exact⟨xh,rfl,h1,h2⟩
 ·obtain ⟨rfl,rfl,rfl,rfl,rfl,rfl,rfl⟩:=h
  refine e_Valid2 _ _ _ _ _ _ _ _ (.inl rfl) rfl [fdTx,fdOb,fdOp] ⟨by simp[fdAll],fun f hf=>?_,by simp[restF,evCs,o1,o3,o4,List.replicate],by decide⟩ w hW rfl
  simp only[List.mem_cons,List.not_mem_nil,or_false] at hf
  rcases hf with rfl|rfl|rfl
  ·rw [o1];exact⟨xx,rfl,t1,t2⟩
  ·rw [o3];exact⟨c,rfl,by show(0:Int)≤c;omega,by show(c:Int)≤7;omega⟩
  ·rw [o4];exact⟨1,rfl,by decide,by decide⟩
 ·obtain ⟨rfl,rfl,rfl,rfl,rfl,rfl,rfl⟩:=h
  refine e_Valid2 _ _ _ _ _ _ _ _ (.inr rfl) rfl [fdTx,fdOb,fdOp,fdVa] ⟨by simp[fdAll],fun f hf=>?_,by simp[restF,evCs,o1,o3,o4,o5,List.replicate],by decide⟩ w hW rfl
  simp only[List.mem_cons,List.not_mem_nil,or_false] at hf
  rcases hf with rfl|rfl|rfl|rfl
  ·rw [o1];exact⟨xx,rfl,t1,t2⟩
  ·rw [o3];exact⟨c,rfl,by show(0:Int)≤c;omega,by show(c:Int)≤7;omega⟩
  ·rw [o4];exact⟨2,rfl,by decide,by decide⟩
  ·rw [o5];exact⟨xv,rfl,h3,h4⟩
 ·obtain ⟨rfl,rfl,rfl,rfl,rfl,rfl,rfl⟩:=h
  refine e_Valid3 _ _ _ _ _ _ _ _ (.inl rfl) rfl [fdTx,fdRe] ⟨by simp[fdAll],fun f hf=>?_,by simp[restF,evCs,o1,o6,List.replicate],by decide⟩ w hW rfl
  simp only[List.mem_cons,List.not_mem_nil,or_false] at hf
  rcases hf with rfl|rfl
  ·rw [o1];exact⟨xx,rfl,t1,t2⟩
  ·rw [o6];exact⟨1,rfl,by decide,by decide⟩
 ·obtain ⟨rfl,rfl,rfl,rfl,rfl,rfl,rfl⟩:=h
  refine e_Valid3 _ _ _ _ _ _ _ _ (.inr rfl) rfl [fdTx,fdRe,fdVa] ⟨by simp[fdAll],fun f hf=>?_,by simp[restF,evCs,o1,o5,o6,List.replicate],by decide⟩ w hW rfl
  simp only[List.mem_cons,List.not_mem_nil,or_false] at hf
  rcases hf with rfl|rfl|rfl
  ·rw [o1];exact⟨xx,rfl,t1,t2⟩
  ·rw [o6];exact⟨3,rfl,by decide,by decide⟩
  ·rw [o5];exact⟨xv,rfl,h3,h4⟩
 ·obtain ⟨rfl,rfl,rfl,rfl,rfl,rfl,rfl⟩:=h
  refine e_Valid1 _ _ _ _ _ _ _ _ (.inr (by omega)) [fdTx] ⟨by simp[fdAll],fun f hf=>?_,by simp[restF,evCs,o1,List.replicate],by decide⟩ w hW (by unfold fdsOf;rw[if_neg (by omega)])
  simp only[List.mem_cons,List.not_mem_nil,or_false] at hf
  subst hf
  rw[o1];exact⟨xx,rfl,t1,t2⟩
theorem e_ValidObject (n:Int) (h1:-1000000000≤n) (h2:n≤1000000000) (w:World) (hW:WordsAt w):Calls Tryz.prog 71 #[.agg #[.int .i64 1,.int .i64 n]] w (ValRet w):=by
 have b0:Below w.heap.size w (w.alloc (.cells #[.int .i64 1,.int .i64 n] 96)):=(Below.refl _ w).alloc (Nat.le_refl _) _
 have hw1:=hW.below b0
 have hs:Calls Tryz.prog 119 #[.int .i64 1,.int .i64 1] (w.alloc (.cells #[.int .i64 1,.int .i64 n] 96)) _:=e_object (i:=0) (by omega) hw1.reg (by have:=hw1.big;omega)
 have r0:=row_new w (.cells #[.int .i64 1,.int .i64 n] 96)
 have q1:decide (n < -1000000000)=false:=by simp;omega
 have q2:decide (n > 1000000000)=false:=by simp;omega
 have q3:decide (1000000000 < n)=false:=by simp;omega
 have HS:=hid hs
 have hb:ByteArray.toList ⟨#[114,101,103,105,115,116,101,114]⟩=[114,101,103,105,115,116,101,114]:=by rw[ba_toList]
 clear hs hw1
 go_enter Tryz.func71,Tryz.ntmps71
 go_wp2_with fail
 generalize w.alloc (.cells #[.int .i64 1,.int .i64 n] 96)=W at *
 refine(HS.out).mono ?_
 rintro e W1 ⟨rfl,b1⟩
 have r1:=row_below r0 b1 (row_lt r0)
 have y0:=row_cell r1 0
 have y1:=row_cell r1 1
 simp at y0 y1
 have l1:=row_lt r1
 have B1:=hid (b0.trans (b1.mono b0.size))
 clear b1 r1 r0 b0 HS
 go_wp2
 go_ret
 exact⟨rfl,B1.out⟩
end
