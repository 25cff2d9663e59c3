/- Parts of the proof, merged by program out of 6 texts (GnG, GnH, GnI, GnJ, ShQ, ShO): the first: Events of all kinds of objects: which may be, of any. Conditions: those of each theorem, as typed. -/
import Derived.Test.YtcpfbphcldocpaaGreatDoorQF12
import Derived.Test.YtcpfbphcldocpaaGreatDoorQF07
import Derived.Test.YtcpfbphcldocpaaGreatDoorQF08
set_option linter.unusedVariables false
set_option linter.unusedSimpArgs false
set_option linter.unusedSectionVars false
set_option maxRecDepth 100000
set_option maxHeartbeats 4000000
namespace Go.Proofs.YtcpfbphcldocpaaGreatDoor
open Go.Maps Go.RowKit
section
attribute [local irreducible] wpL
theorem g_Code1 (xk xx xh xj xo xy xv xr:Int) (hk:xk < 1∨7 < xk) (vC:Value) (w:World) (hW:WordsG w) (hgC:15 < w.heap.size) (hC:w.cell? ⟨15,0,none⟩=some vC):
  Calls Tryz.prog 81 #[evV ⟨xk,xx,xh,xj,xo,xy,xv,xr⟩] w (fun e w'=>e=.returned vC∧Below w.heap.size w w'):=by
 have HE:=hid hC
 have HGE:=hid hgC
 clear hC hgC
 have b0:Below w.heap.size w (w.alloc (.cells #[.int .i64 xk,.int .i64 xx,.int .i64 xh,.int .i64 xj,.int .i64 xo,.int .i64 xy,.int .i64 xv,.int .i64 xr] 69)):=(Below.refl _ w).alloc (Nat.le_refl _) _
 have r0:=row_new w (.cells #[.int .i64 xk,.int .i64 xx,.int .i64 xh,.int .i64 xj,.int .i64 xo,.int .i64 xy,.int .i64 xv,.int .i64 xr] 69)
 have hf:=e_fieldsG (w.alloc (.cells #[.int .i64 xk,.int .i64 xx,.int .i64 xh,.int .i64 xj,.int .i64 xo,.int .i64 xy,.int .i64 xv,.int .i64 xr] 69)).drew
 have HW:=hid (hW.below b0)
 clear hW
 have q2:(xk==2)=false:=by simp;omega
 have q3:(xk==3)=false:=by simp;omega
 go_enter Tryz.func81,Tryz.ntmps81
 go_wp2_with fail
 generalize w.alloc (.cells #[.int .i64 xk,.int .i64 xx,.int .i64 xh,.int .i64 xj,.int .i64 xo,.int .i64 xy,.int .i64 xv,.int .i64 xr] 69)=W at *
 have y0:=row_cell r0 0
 have l0:=row_lt r0
 simp at y0
 refine wp_rN (W.heap.size) [3,0,1,2,0] (.fin [1,2,0,3,4]) (by kernel_rfl) ?_
 simp only[wpT,selX,guardAt,sD,sE,sF,sG]
 repeat first|(refine wpL_p fun K hK=>?_;go_simp;refine hK _ _ ?_;clear hK K)|(apply wpL_s;(intro w2 hw2;have hk1:=hw2.cell;have hk3:=hw2.1;clear hw2;go_simp;with_reducible rfl);simp only[Act.put,sA,sB,sC])
 refine wpL_k (fun K hK=>?_)
 go_simp
 refine hf.mono ?_
 rintro e W1 ⟨bm,rfl,hF,b1⟩
 refine hK _ _ (RN.KeepsN.of_below b1) ?_
 clear hK K hf
 have b1:Below W.heap.size W W1:=(Below.refl _ W).drew.trans b1
 have z1:=b1.size
 obtain⟨M,bq,hM,hc,hc2,hc3,hq,hbm⟩:=hF
 have hmk:=hbm.2 xk hk
 have lk:=(hM.look Tryz.underlying3 Tryz.underlying256 (zeroFn W1) xk hmk).1
 simp only[Option.getD_none] at lk
 have r1:=row_below r0 b1 l0
 have eqn:Sem.run Tryz.prog (binOp BinOp.eql 255 Value.nilFunc Value.nilFunc) W1=.ok (.bool true) W1:=by kernel_rfl
 have HB:=hid (b0.trans (b1.mono b0.size))
 have b1x:=hid b1
 have R1:=hid r1
 have y:=row_cell r1
 have y0:=y 0
 have y1:=y 1
 have y2:=y 2
 have y3:=y 3
 have y4:=y 4
 have y5:=y 5
 have y6:=y 6
 have y7:=y 7
 simp at y0 y1 y2 y3 y4 y5 y6 y7
 clear y hM hc hc2 hc3 r0 b0 b1 hmk
 refine wpL_e (fun K hK=>?_)
 go_simp
 refine hK _ _ ?_
 clear hK K lk
 repeat first|(refine wpL_p fun K hK=>?_;go_simp;refine hK _ _ ?_;clear hK K)|refine wpL_nil ?_
 have he3:=cell_below HB.out HGE.out HE.out
 have hg3:15 < W1.heap.size:=by have:=HGE.out;have:=HB.out.size;omega
 go_wp2
 refine bodyPost_ret (v:=vC) (by simp[results,Tryz.results81,go_sem]) rfl ⟨rfl,?_⟩
 exact HB.out
theorem g_Code2 (xk xx xh xj xo xy xv xr:Int) (hop:ofOp xo=0) (hk:xk=2) (vC:Value) (w:World) (hW:WordsG w) (hgC:15 < w.heap.size) (hC:w.cell? ⟨15,0,none⟩=some vC):
  Calls Tryz.prog 81 #[evV ⟨xk,xx,xh,xj,xo,xy,xv,xr⟩] w (fun e w'=>e=.returned vC∧Below w.heap.size w w'):=by
 have HE:=hid hC
 have HGE:=hid hgC
 clear hC hgC
 have b0:Below w.heap.size w (w.alloc (.cells #[.int .i64 xk,.int .i64 xx,.int .i64 xh,.int .i64 xj,.int .i64 xo,.int .i64 xy,.int .i64 xv,.int .i64 xr] 69)):=(Below.refl _ w).alloc (Nat.le_refl _) _
 have r0:=row_new w (.cells #[.int .i64 xk,.int .i64 xx,.int .i64 xh,.int .i64 xj,.int .i64 xo,.int .i64 xy,.int .i64 xv,.int .i64 xr] 69)
 have hf:=e_fieldsG (w.alloc (.cells #[.int .i64 xk,.int .i64 xx,.int .i64 xh,.int .i64 xj,.int .i64 xo,.int .i64 xy,.int .i64 xv,.int .i64 xr] 69)).drew
 have HW:=hid (hW.below b0)
 clear hW
 have q2:(xk==2)=true:=by simp;omega
 have q3:(xk==3)=false:=by simp;omega
 have HK:=hid hk
 clear hk
 go_enter Tryz.func81,Tryz.ntmps81
 go_wp2_with fail
 generalize w.alloc (.cells #[.int .i64 xk,.int .i64 xx,.int .i64 xh,.int .i64 xj,.int .i64 xo,.int .i64 xy,.int .i64 xv,.int .i64 xr] 69)=W at *
 have y0:=row_cell r0 0
 have l0:=row_lt r0
 simp at y0
 refine wp_rN (W.heap.size) [3,0,1,2,0] (.fin [1,2,0,3,4]) (by kernel_rfl) ?_
 simp only[wpT,selX,guardAt,sD,sE,sF,sG]
 repeat first|(refine wpL_p fun K hK=>?_;go_simp;refine hK _ _ ?_;clear hK K)|(apply wpL_s;(intro w2 hw2;have hk1:=hw2.cell;have hk3:=hw2.1;clear hw2;go_simp;with_reducible rfl);simp only[Act.put,sA,sB,sC])
 refine wpL_k (fun K hK=>?_)
 go_simp
 refine hf.mono ?_
 rintro e W1 ⟨bm,rfl,hF,b1⟩
 refine hK _ _ (RN.KeepsN.of_below b1) ?_
 clear hK K hf
 have b1:Below W.heap.size W W1:=(Below.refl _ W).drew.trans b1
 have z1:=b1.size
 obtain⟨M,bq,hM,hc,hc2,hc3,hq,hbm⟩:=hF
 have hmk:M xk=some (.func (.func 183) #[] #[.pointer (some ⟨bq,0,none⟩)]):=by rw[HK.out];exact hc2
 have lk:=(hM.look Tryz.underlying3 Tryz.underlying256 (zeroFn W1) xk hmk).1
 simp only[Option.getD_some] at lk
 have r1:=row_below r0 b1 l0
 have eqn:Sem.run Tryz.prog (binOp BinOp.eql 255 (.func (.func 183) #[] #[.pointer (some ⟨bq,0,none⟩)]) Value.nilFunc) W1=.ok (.bool false) W1:=by kernel_rfl
 have HB:=hid (b0.trans (b1.mono b0.size))
 have b1x:=hid b1
 have R1:=hid r1
 have y:=row_cell r1
 have y0:=y 0
 have y1:=y 1
 have y2:=y 2
 have y3:=y 3
 have y4:=y 4
 have y5:=y 5
 have y6:=y 6
 have y7:=y 7
 simp at y0 y1 y2 y3 y4 y5 y6 y7
 clear y hM hc hc2 hc3 r0 b0 b1 hmk
 refine wpL_e (fun K hK=>?_)
 go_simp
 refine hK _ _ ?_
 clear hK K lk
 repeat first|(refine wpL_p fun K hK=>?_;go_simp;refine hK _ _ ?_;clear hK K)|refine wpL_nil ?_
 go_wp2_with fail
 refine(g_Of xo _).mono ?_
 rintro e W5 ⟨he,hw5⟩
 subst he
 rw[hw5]
 clear hw5 W5
 have qop:(ofOp xo==0)=true:=by simpa using hop
 have he3:=cell_below HB.out HGE.out HE.out
 have hg3:15 < W1.heap.size:=by have:=HGE.out;have:=HB.out.size;omega
 go_wp2
 refine bodyPost_ret (v:=vC) (by simp[results,Tryz.results81,go_sem]) rfl ⟨rfl,?_⟩
 exact HB.out
theorem g_Code3 (xk xx xh xj xo xy xv xr:Int) (hop:¬(1≤xr∧xr≤3)) (hdr:dI xr) (hk:xk=3) (vC:Value) (w:World) (hW:WordsG w) (hgC:15 < w.heap.size) (hC:w.cell? ⟨15,0,none⟩=some vC):
  Calls Tryz.prog 81 #[evV ⟨xk,xx,xh,xj,xo,xy,xv,xr⟩] w (fun e w'=>e=.returned vC∧Below w.heap.size w w'):=by
 have HE:=hid hC
 have HGE:=hid hgC
 clear hC hgC
 have b0:Below w.heap.size w (w.alloc (.cells #[.int .i64 xk,.int .i64 xx,.int .i64 xh,.int .i64 xj,.int .i64 xo,.int .i64 xy,.int .i64 xv,.int .i64 xr] 69)):=(Below.refl _ w).alloc (Nat.le_refl _) _
 have r0:=row_new w (.cells #[.int .i64 xk,.int .i64 xx,.int .i64 xh,.int .i64 xj,.int .i64 xo,.int .i64 xy,.int .i64 xv,.int .i64 xr] 69)
 have hf:=e_fieldsG (w.alloc (.cells #[.int .i64 xk,.int .i64 xx,.int .i64 xh,.int .i64 xj,.int .i64 xo,.int .i64 xy,.int .i64 xv,.int .i64 xr] 69)).drew
 have HW:=hid (hW.below b0)
 clear hW
 have q2:(xk==2)=false:=by simp;omega
 have q3:(xk==3)=true:=by simp;omega
 have HK:=hid hk
 clear hk
 go_enter Tryz.func81,Tryz.ntmps81
 go_wp2_with fail
 generalize w.alloc (.cells #[.int .i64 xk,.int .i64 xx,.int .i64 xh,.int .i64 xj,.int .i64 xo,.int .i64 xy,.int .i64 xv,.int .i64 xr] 69)=W at *
 have y0:=row_cell r0 0
 have l0:=row_lt r0
 simp at y0
 refine wp_rN (W.heap.size) [3,0,1,2,0] (.fin [1,2,0,3,4]) (by kernel_rfl) ?_
 simp only[wpT,selX,guardAt,sD,sE,sF,sG]
 repeat first|(refine wpL_p fun K hK=>?_;go_simp;refine hK _ _ ?_;clear hK K)|(apply wpL_s;(intro w2 hw2;have hk1:=hw2.cell;have hk3:=hw2.1;clear hw2;go_simp;with_reducible rfl);simp only[Act.put,sA,sB,sC])
 refine wpL_k (fun K hK=>?_)
 go_simp
 refine hf.mono ?_
 rintro e W1 ⟨bm,rfl,hF,b1⟩
 refine hK _ _ (RN.KeepsN.of_below b1) ?_
 clear hK K hf
 have b1:Below W.heap.size W W1:=(Below.refl _ W).drew.trans b1
 have z1:=b1.size
 obtain⟨M,bq,hM,hc,hc2,hc3,hq,hbm⟩:=hF
 have hmk:M xk=some (.func (.func 188) #[] #[.pointer (some ⟨bq,0,none⟩)]):=by rw[HK.out];exact hc3
 have lk:=(hM.look Tryz.underlying3 Tryz.underlying256 (zeroFn W1) xk hmk).1
 simp only[Option.getD_some] at lk
 have r1:=row_below r0 b1 l0
 have eqn:Sem.run Tryz.prog (binOp BinOp.eql 255 (.func (.func 188) #[] #[.pointer (some ⟨bq,0,none⟩)]) Value.nilFunc) W1=.ok (.bool false) W1:=by kernel_rfl
 have HB:=hid (b0.trans (b1.mono b0.size))
 have b1x:=hid b1
 have R1:=hid r1
 have y:=row_cell r1
 have y0:=y 0
 have y1:=y 1
 have y2:=y 2
 have y3:=y 3
 have y4:=y 4
 have y5:=y 5
 have y6:=y 6
 have y7:=y 7
 simp at y0 y1 y2 y3 y4 y5 y6 y7
 clear y hM hc hc2 hc3 r0 b0 b1 hmk
 refine wpL_e (fun K hK=>?_)
 go_simp
 refine hK _ _ ?_
 clear hK K lk
 repeat first|(refine wpL_p fun K hK=>?_;go_simp;refine hK _ _ ?_;clear hK K)|refine wpL_nil ?_
 go_wp2_with fail
 obtain⟨s,hs,hsq⟩:∃s:ByteArray,Calls Tryz.prog 130 #[.int .i64 4,.int .i64 xr] W1 (fun e w'=>e=.returned (.string s)∧Below W1.heap.size W1 w')∧s.toList.isEmpty=true:=⟨_,g_answer (HW.out.below (b1x.out)) xr hdr,by rw[answerS_empty];simp;omega⟩
 refine hs.mono ?_
 rintro e W5 ⟨he,b5⟩
 subst he
 have HB:=hid (HB.out.trans (b5.mono HB.out.size))
 have r1:=row_below R1.out b5 (row_lt R1.out)
 have R1:=hid r1
 have y:=row_cell r1
 have y0:=y 0
 have y1:=y 1
 have y2:=y 2
 have y3:=y 3
 have y4:=y 4
 have y5:=y 5
 have y6:=y 6
 have y7:=y 7
 simp at y0 y1 y2 y3 y4 y5 y6 y7
 clear y hs
 have he3:=cell_below HB.out HGE.out HE.out
 have hg3:15 < W5.heap.size:=by have:=HGE.out;have:=HB.out.size;omega
 go_wp2
 refine bodyPost_ret (v:=vC) (by simp[results,Tryz.results81,go_sem]) rfl ⟨rfl,?_⟩
 exact HB.out
def listG (x:Ev):Option (List Fd):=
 if x.kind=2 then(if ofOp x.op=0 then none else some (callG x.op))
 else if x.kind=3 then(if 1≤x.ret∧x.ret≤3 then some (retG x.ret) else none)
 else if x.kind=1∨4≤x.kind∧x.kind < 8 then some (fdsOf x.kind) else none
def validB (x:Ev):Bool:=match listG x with
 |none=>false
 |some L=>L.all (inBd x)&&zeroB x L
theorem listG_ok {x:Ev} {L:List Fd} (h:listG x=some L):FdsG L:=by
 unfold listG at h
 split at h
 ·split at h
  ·cases h
  ·cases h
   unfold callG
   refine⟨fun f hf=>?_,?_⟩
   ·cases keyedB x.op <;> cases valuedB x.op <;> simp at hf <;> rcases hf with h|h|h|h|h <;> simp[fdAllG, *]
   ·cases keyedB x.op <;> cases valuedB x.op <;> simp
 ·split at h
  ·split at h
   ·cases h
    unfold retG
    refine⟨fun f hf=>?_,?_⟩
    ·split at hf <;> simp at hf <;> rcases hf with h|h|h <;> simp[fdAllG, *]
    ·split <;> simp
   ·cases h
  ·split at h
   ·cases h
    unfold fdsOf
    refine⟨fun f hf=>?_,?_⟩
    ·split at hf <;> simp at hf <;> rcases hf with h|h <;> simp[fdAllG, *]
    ·split <;> simp
   ·cases h
theorem g_Valid (x:Ev) (hdr:dI x.ret) (w:World) (hW:WordsG w) (vC vE:Value)
  (hgC:15 < w.heap.size) (hC:w.cell? ⟨15,0,none⟩=some vC)
  (hgE:8 < w.heap.size) (hE:w.cell? ⟨8,0,none⟩=some vE):
  Calls Tryz.prog 81 #[evV x] w fun e w'=>e=.returned (if validB x then .nilIface else if (listG x).isSome then vE else vC)∧Below w.heap.size w w':=by
 obtain⟨xk,xx,xh,xj,xo,xy,xv,xr⟩:=x
 cases h:listG ⟨xk,xx,xh,xj,xo,xy,xv,xr⟩ with
 |none=>
  have hv:validB ⟨xk,xx,xh,xj,xo,xy,xv,xr⟩=false:=by unfold validB;rw[h]
  rw[hv]
  simp only[Bool.false_eq_true,if_false,Option.isSome_none]
  unfold listG at h
  simp only at h
  split at h
  ·split at h
   ·exact g_Code2 xk xx xh xj xo xy xv xr ‹_› ‹_› vC w hW hgC hC
   ·cases h
  ·split at h
   ·split at h
    ·cases h
    ·exact g_Code3 xk xx xh xj xo xy xv xr ‹_› hdr ‹_› vC w hW hgC hC
   ·split at h
    ·cases h
    ·exact g_Code1 xk xx xh xj xo xy xv xr (by omega) vC w hW hgC hC
 |some L=>
  have hL:=listG_ok h
  have hv:(if validB ⟨xk,xx,xh,xj,xo,xy,xv,xr⟩ then Value.nilIface else if (some L).isSome then vE else vC)=validV ⟨xk,xx,xh,xj,xo,xy,xv,xr⟩ vE L:=by
   unfold validB validV
   rw[h]
   rfl
  rw[hv]
  unfold listG at h
  simp only at h
  split at h
  ·split at h
   ·cases h
   ·exact g_Valid2 xk xx xh xj xo xy xv xr ‹_› ‹_› L hL vE w hW hgE hE (Option.some.inj h).symm
  ·split at h
   ·split at h
    ·exact g_Valid3 xk xx xh xj xo xy xv xr ‹_› hdr ‹_› L hL vE w hW hgE hE (Option.some.inj h).symm
    ·cases h
   ·split at h
    ·exact g_Valid1 xk xx xh xj xo xy xv xr ‹_› L hL vE w hW hgE hE (Option.some.inj h).symm
    ·cases h
end
section
attribute [local irreducible] wpL
def heldB (k:Int):Bool:=k==1||k==2
def validO (o:Ob):Bool:=decide (1≤o.kind∧o.kind≤4)&&decide (-1000000000≤o.init)&&decide (o.init≤1000000000)&&(heldB o.kind||o.init==0)
theorem g_ValidObject (k n:Int) (hd:dI k) (w:World) (hW:WordsG w) (vO:Value) (hgO:3 < w.heap.size) (hO:w.cell? ⟨3,0,none⟩=some vO):
  Calls Tryz.prog 79 #[.agg #[.int .i64 k,.int .i64 n]] w fun e w'=>e=.returned (if validO ⟨k,n⟩ then .nilIface else vO)∧Below w.heap.size w w':=by
 have b0:Below w.heap.size w (w.alloc (.cells #[.int .i64 k,.int .i64 n] 62)):=(Below.refl _ w).alloc (Nat.le_refl _) _
 have hw1:=hW.below b0
 obtain⟨s,hs,hsq⟩:∃s:ByteArray,Calls Tryz.prog 130 #[.int .i64 1,.int .i64 k] (w.alloc (.cells #[.int .i64 k,.int .i64 n] 62)) (fun e w'=>e=.returned (.string s)∧Below (w.alloc (.cells #[.int .i64 k,.int .i64 n] 62)).heap.size (w.alloc (.cells #[.int .i64 k,.int .i64 n] 62)) w')∧s.toList.isEmpty=!(decide (1≤k∧k≤4)):=⟨_,g_object hw1 k hd,objectS_empty k⟩
 have r0:=row_new w (.cells #[.int .i64 k,.int .i64 n] 62)
 have HS:=hid hs
 have HSQ:=hid hsq
 have HGO:=hid hgO
 have HO:=hid hO
 clear hs hw1 hsq hgO hO
 go_enter Tryz.func79,Tryz.ntmps79
 obtain⟨h1,hh1⟩:∃b,(k==1)=b:=⟨_,rfl⟩
 obtain⟨h2,hh2⟩:∃b,(k==2)=b:=⟨_,rfl⟩
 obtain⟨h3,hh3⟩:∃b,decide (n < -1000000000)=b:=⟨_,rfl⟩
 obtain⟨h4,hh4⟩:∃b,decide (n > 1000000000)=b:=⟨_,rfl⟩
 obtain⟨h5,hh5⟩:∃b,(n==0)=b:=⟨_,rfl⟩
 obtain⟨h6,hh6⟩:∃b,decide (1≤k∧k≤4)=b:=⟨_,rfl⟩
 have hh4':decide (1000000000 < n)=h4:=hh4
 have hh5':(n !=0)=!h5:=by rw[←hh5];rfl
 have hv:validO ⟨k,n⟩=(h6&&!h3&&!h4&&(h1||h2||h5)):=by
  unfold validO heldB
  simp only
  have e3:decide (-1000000000≤n)=!h3:=by
   rw[←hh3]
   by_cases q:n < -1000000000
   ·simp [q]
   ·simp [q];omega
  have e4:decide (n≤1000000000)=!h4:=by
   rw[←hh4]
   by_cases q:n > 1000000000
   ·simp [q]
   ·simp [q];omega
  rw[hh1,hh2,hh5,hh6,e3,e4]
 have hsq:=HSQ.out
 rw[hh6] at hsq
 rw[hv]
 obtain⟨V,hV⟩:∃V,V=(if (h6&&!h3&&!h4&&(h1||h2||h5))=true then Value.nilIface else vO):=⟨_,rfl⟩
 rw[←hV]
 have HV:=hid hV
 clear hv hV HSQ hh6
 cases h1 <;> cases h2 <;>
 ·go_wp2_with fail
  generalize w.alloc (.cells #[.int .i64 k,.int .i64 n] 62)=W at *
  refine(HS.out).mono ?_
  rintro e W1 ⟨rfl,b1⟩
  have r1:=row_below r0 b1 (row_lt r0)
  have y0:=row_cell r1 0
  have y1:=row_cell r1 1
  simp at y0 y1
  have l1:=row_lt r1
  have B1:=hid (b0.trans (b1.mono b0.size))
  have he3:=cell_below B1.out HGO.out HO.out
  have hg3:3 < W1.heap.size:=by have:=HGO.out;have:=B1.out.size;omega
  clear b1 r1 r0 b0 HS
  cases h6 <;> cases h3 <;> cases h4 <;> cases h5 <;>
  ·have hV:=HV.out
   simp at hV
   subst hV
   clear HV
   go_wp2
   all_goals
    refine bodyPost_ret (v:=_) ?_ rfl ⟨rfl,B1.out⟩
    simp[results,Tryz.results79,go_sem]
end
section
attribute [local irreducible] wpL
def ErrIn (w:World) (g:Nat):Prop:=g < w.heap.size∧∃t x,w.cell? ⟨g,0,none⟩=some (.iface t x)
theorem ErrIn.below {w w':World} {g:Nat} (h:ErrIn w g) (hb:Below w.heap.size w w'):ErrIn w' g:=let ⟨h1,t,x,h2⟩:=h;⟨by have:=hb.size;omega,t,x,cell_below hb h1 h2⟩
structure ErrsG (w:World):Prop where
 code:ErrIn w 15
 event:ErrIn w 8
 object:ErrIn w 3
 op:ErrIn w 7
 many:ErrIn w 4
theorem ErrsG.below {w w':World} (h:ErrsG w) (hb:Below w.heap.size w w'):ErrsG w':=⟨h.code.below hb,h.event.below hb,h.object.below hb,h.op.below hb,h.many.below hb⟩
def evB (os:List Ob) (x:Ev):Bool:=validB x&&(x.kind !=2||(match os[x.obj.toNat]? with
 |some o=>ofOp x.op==o.kind
 |none=>false))
def histB (os:List Ob) (es:List Ev):Bool:=decide (os.length≤8)&&decide (es.length≤400)&&os.all validO&&es.all (evB os)
def NilIff (b:Bool) (w:World) (e:Ending) (w':World):Prop:=(∃v,e=.returned v∧(b=true→v=.nilIface)∧(b=false→∃t x,v=.iface t x))∧Below w.heap.size w w'
theorem hist_at (i:Int) (t:TypeId) (x:Value) (w:World):Calls Tryz.prog 80 #[.int .i64 i,.iface t x] w fun e w'=>(∃t x,e=.returned (.iface t x))∧Below w.heap.size w w':=by
 go_enter Tryz.func80,Tryz.ntmps80
 go_wp2
 go_ret
 exact⟨⟨_,_,rfl⟩,(Below.refl _ w).alloc (Nat.le_refl _) _⟩
end
section
attribute [local irreducible] wpL
theorem valid_obj {x:Ev} (h:validB x=true) (hk:x.kind=2):0≤x.obj∧x.obj≤7:=by
 unfold validB listG at h
 rw[if_pos hk] at h
 split at h
 ·cases h
 ·rename_i L hL
  split at hL
  ·cases hL
  ·cases hL
   simp only[Bool.and_eq_true,List.all_eq_true] at h
   have:=h.1 fdOb (by unfold callG;simp)
   unfold inBd at this
   simp only[Bool.and_eq_true,decide_eq_true_eq] at this
   exact this
theorem all_step {α:Type} {p:α→Bool} {l:List α} {i:Nat} {x:α} (h:∀y ∈ l.take i,p y=true) (hx:l[i]?=some x) (hp:p x=true):∀y ∈ l.take (i+1),p y=true:=fun y hy=>by
 rw[List.take_add_one,hx] at hy
 rcases List.mem_append.1 hy with hy|hy
 ·exact h y hy
 ·simp at hy;rw[hy];exact hp
theorem all_bad {α:Type} {p:α→Bool} {l:List α} {i:Nat} {x:α} (hx:l[i]?=some x) (hp:p x=false):l.all p=false:=by
 rw[List.all_eq_false]
 exact⟨x,List.mem_of_getElem? hx,by rw[hp];decide⟩
theorem all_done {α:Type} {p:α→Bool} {l:List α} (h:∀y ∈ l.take l.length,p y=true):l.all p=true:=by
 rw[List.take_length] at h
 rw[List.all_eq_true]
 exact h
theorem NilIff.err {b:Bool} {w w':World} {t:TypeId} {x:Value} (hb:b=false) (h:Below w.heap.size w w'):NilIff b w (.returned (.iface t x)) w':=⟨⟨_,rfl,fun h=>absurd (hb.symm.trans h) (by decide),fun _=>⟨_,_,rfl⟩⟩,h⟩
theorem NilIff.nil {b:Bool} {w w':World} (hb:b=true) (h:Below w.heap.size w w'):NilIff b w (.returned .nilIface) w':=⟨⟨_,rfl,fun _=>rfl,fun h=>absurd (hb.symm.trans h) (by decide)⟩,h⟩
theorem g_hValid (ov vv:Value) (os:List Ob) (es:List Ev) (w:World) (ho:Sl w w.heap.size 2 ov os.length (os.flatMap Ob.cells)) (he:Sl w w.heap.size 8 vv es.length (es.flatMap Ev.cells)) (hod:∀o ∈ os,dI o.kind) (hed:∀e ∈ es,dI e.ret) (hW:WordsG w) (hG:ErrsG w):
  Calls Tryz.prog 46 #[.agg #[ov,vv]] w (NilIff (histB os es) w):=by
 obtain⟨ao,co,rfl,mo⟩:=ho.ex
 obtain⟨ae,ce,rfl,me⟩:=he.ex
 have HO:=hid ho
 have HE:=hid he
 have HOD:=hid hod
 have HED:=hid hed
 have HW:=hid hW
 have HG:=hid hG
 have b0:Below w.heap.size w (w.alloc (.cells #[.slice ao os.length co,.slice ae es.length ce] 25)):=(Below.refl _ w).alloc (Nat.le_refl _) _
 have r0:=row_new w (.cells #[.slice ao os.length co,.slice ae es.length ce] 25)
 clear ho he hod hed hW hG
 by_cases hr8:os.length≤8∧es.length≤400
 case neg=>
  have hf:histB os es=false:=by
   unfold histB
   rcases Decidable.not_and_iff_or_not.1 hr8 with h|h <;> simp[h]
  obtain⟨hgm,t,x,hm⟩:=(HG.out.below b0).many
  have hgm0:=HG.out.many.1
  by_cases h8:os.length≤8
  ·have q1:decide (8 < os.length)=false:=by simp;omega
   have q2:decide (400 < es.length)=true:=by simp;omega
   go_enter Tryz.func46,Tryz.ntmps46
   go_wp2_with fail
   refine bodyPost_ret (v:=.iface t x) (by simp[results,Tryz.results46,go_sem]) rfl (.err (by first|exact hf|rfl) b0)
  ·have q1:decide (8 < os.length)=true:=by simp;omega
   go_enter Tryz.func46,Tryz.ntmps46
   go_wp2_with fail
   refine bodyPost_ret (v:=.iface t x) (by simp[results,Tryz.results46,go_sem]) rfl (.err (by first|exact hf|rfl) b0)
 obtain⟨hr8,hr4⟩:=hr8
 have q1:decide (8 < os.length)=false:=by simp;omega
 have q2:decide (400 < es.length)=false:=by simp;omega
 go_enter Tryz.func46,Tryz.ntmps46
 go_wp2_with fail
 have hz0:w.heap.size < (w.alloc (.cells #[.slice ao os.length co,.slice ae es.length ce] 25)).heap.size:=by simp
 generalize w.alloc (.cells #[.slice ao os.length co,.slice ae es.length ce] 25)=W at *
 have R0:=hid r0
 have B0:=hid b0
 clear r0 b0
 go_loopw [23] (fun p wr=>∃i:Nat,i≤os.length∧p=.int .i64 i∧(∀o ∈ os.take i,validO o=true)∧Below W.heap.size W wr) (fun p _=>os.length - (intOf p).toNat)
 case atStart=>exact⟨0,by omega,by go_num,by simp,Below.refl _ _⟩
 case round=>
  obtain⟨i,hi,rfl,hpre,hB⟩:=hrel
  have HPRE:=hid hpre
  have hz:=hB.size
  have HB:=hid hB
  clear hB hpre
  by_cases hlt:i < os.length
  ·obtain ⟨b,off,x,hat,hb,hx,hc⟩:=HO.out.atF Ob.len rfl hlt
   have c0:=cell_below ((B0.out.trans (HB.out.mono (by omega)))) hb (hc 0 (by decide))
   have c1:=cell_below ((B0.out.trans (HB.out.mono (by omega)))) hb (hc 1 (by decide))
   have hdx:=HOD.out x (List.mem_of_getElem? hx)
   obtain⟨xk,xn⟩:=x
   simp only at hdx
   simp at c0 c1
   have hbw:b < wr.heap.size:=by omega
   subst hat
   have HX:=hid hx
   clear hx hc
   have bz:Below wr.heap.size wr (wr.alloc (.cells #[.int .i64 xk,.int .i64 xn] 62)):=(Below.refl _ wr).alloc (Nat.le_refl _) _
   obtain⟨hgo,te,xe,heo⟩:=(((HG.out.below B0.out).below (HB.out.trans (bz.mono hz)))).object
   have hv:=hid (g_ValidObject xk xn hdx (wr.alloc (.cells #[.int .i64 xk,.int .i64 xn] 62)) ((HW.out.below B0.out).below (HB.out.trans (bz.mono hz))) _ hgo heo)
   have BZ:=hid bz
   clear bz hgo heo
   cases hval:validO ⟨xk,xn⟩ with
   |true=>
    rw[hval] at hv
    go_wp2_with fail
    generalize wr.alloc (.cells #[.int .i64 xk,.int .i64 xn] 62)=W1 at *
    refine(hv.out).mono ?_
    rintro e W2 ⟨he,b2⟩
    subst he
    have B2:=hid ((HB.out.trans (BZ.out.mono hz)).trans (b2.mono (by have:=BZ.out.size;omega)))
    clear b2 hv
    go_wp2_with fail
    go_roundw
    case rel=>exact⟨i+1,by omega,by go_num,all_step HPRE.out HX.out hval,B2.out⟩
    case measure=>simp[intOf];omega
   |false=>
    rw[hval] at hv
    have hf:histB os es=false:=by unfold histB;rw[all_bad HX.out hval];simp
    go_wp2_with fail
    generalize wr.alloc (.cells #[.int .i64 xk,.int .i64 xn] 62)=W1 at *
    refine(hv.out).mono ?_
    rintro e W2 ⟨he,b2⟩
    subst he
    have B2:=hid ((HB.out.trans (BZ.out.mono hz)).trans (b2.mono (by have:=BZ.out.size;omega)))
    clear b2 hv
    simp only[Bool.false_eq_true,if_false]
    go_wp2_with fail
    refine(hist_at i te xe W2).mono ?_
    rintro e W5 ⟨⟨t5,x5,rfl⟩,b5⟩
    go_wp2_with fail
    refine bodyPost_ret (v:=.iface t5 x5) (by simp[results,Tryz.results46,go_sem]) rfl (.err hf ?_)
    exact B0.out.trans (((B2.out.trans (b5.mono B2.out.size))).mono B0.out.size)
  ·obtain rfl:i=os.length:=by omega
   have hallo:=all_done HPRE.out
   have r0:=row_below R0.out HB.out hz0
   have y0:=row_cell r0 0
   have y1:=row_cell r0 1
   simp at y0 y1
   have l0:=row_lt r0
   clear r0
   go_wp2_with fail
   have B1:=hid (B0.out.trans (HB.out.mono (by omega)))
   have hz1:W.heap.size≤wr.heap.size:=hz
   obtain⟨W2,rfl⟩:∃W2,W2=wr:=⟨_,rfl⟩
   have R1:=hid (row_below R0.out HB.out hz0)
   clear y0 y1 l0 R0 HB hz hi B0 HPRE
   go_loopw [39] (fun p wr=>∃i:Nat,i≤es.length∧p=.int .i64 i∧(∀e ∈ es.take i,evB os e=true)∧Below W2.heap.size W2 wr) (fun p _=>es.length - (intOf p).toNat)
   case atStart=>exact⟨0,by omega,by go_num,by simp,Below.refl _ _⟩
   case round=>
    obtain⟨i,hi,rfl,hpre,hB⟩:=hrel
    have HPRE:=hid hpre
    have hz:=hB.size
    have HB:=hid hB
    clear hB hpre
    by_cases hlt:i < es.length
    ·obtain ⟨b,off,x,hat,hb,hx,hc⟩:=HE.out.atF Ev.len rfl hlt
     have BW:=hid (B1.out.trans (HB.out.mono (by omega)))
     have c0:=cell_below BW.out hb (hc 0 (by decide))
     have c1:=cell_below BW.out hb (hc 1 (by decide))
     have c2:=cell_below BW.out hb (hc 2 (by decide))
     have c3:=cell_below BW.out hb (hc 3 (by decide))
     have c4:=cell_below BW.out hb (hc 4 (by decide))
     have c5:=cell_below BW.out hb (hc 5 (by decide))
     have c6:=cell_below BW.out hb (hc 6 (by decide))
     have c7:=cell_below BW.out hb (hc 7 (by decide))
     have hdx:=HED.out x (List.mem_of_getElem? hx)
     have HX:=hid hx
     obtain⟨xk,xx,xh,xj,xo,xy,xv,xr⟩:=x
     simp only at hdx
     simp at c0 c1 c2 c3 c4 c5 c6 c7
     have hbw:b < wr.heap.size:=by omega
     subst hat
     clear hx hc
     have bz:Below wr.heap.size wr (wr.alloc (.cells #[.int .i64 xk,.int .i64 xx,.int .i64 xh,.int .i64 xj,.int .i64 xo,.int .i64 xy,.int .i64 xv,.int .i64 xr] 69)):=(Below.refl _ wr).alloc (Nat.le_refl _) _
     have rz:=row_new wr (.cells #[.int .i64 xk,.int .i64 xx,.int .i64 xh,.int .i64 xj,.int .i64 xo,.int .i64 xy,.int .i64 xv,.int .i64 xr] 69)
     have hgz:=(HG.out.below B1.out).below (HB.out.trans (bz.mono hz))
     obtain⟨hgc,tc,xc,hec⟩:=hgz.code
     obtain⟨hge,te,xe,hee⟩:=hgz.event
     have hv:=hid (g_Valid ⟨xk,xx,xh,xj,xo,xy,xv,xr⟩ hdx (wr.alloc (.cells #[.int .i64 xk,.int .i64 xx,.int .i64 xh,.int .i64 xj,.int .i64 xo,.int .i64 xy,.int .i64 xv,.int .i64 xr] 69)) ((HW.out.below B1.out).below (HB.out.trans (bz.mono hz))) _ _ hgc hec hge hee)
     have BZ:=hid bz
     have RZ:=hid rz
     clear bz rz hgc hec hge hee hgz
     cases hval:validB ⟨xk,xx,xh,xj,xo,xy,xv,xr⟩ with
     |false=>
      rw[hval] at hv
      have hf:histB os es=false:=by unfold histB;rw[all_bad (p:=evB os) HX.out (by unfold evB;rw[hval];rfl)];simp
      obtain⟨tv,xv',hvv⟩:∃t x,(if false=true then Value.nilIface else if (listG ⟨xk,xx,xh,xj,xo,xy,xv,xr⟩).isSome=true then .iface te xe else .iface tc xc)=.iface t x:=by
       cases (listG ⟨xk,xx,xh,xj,xo,xy,xv,xr⟩).isSome
       ·exact ⟨_,_,rfl⟩
       ·exact ⟨_,_,rfl⟩
      rw[hvv] at hv
      go_wp2_with fail
      generalize wr.alloc (.cells #[.int .i64 xk,.int .i64 xx,.int .i64 xh,.int .i64 xj,.int .i64 xo,.int .i64 xy,.int .i64 xv,.int .i64 xr] 69)=W3 at *
      refine(hv.out).mono ?_
      rintro e W4 ⟨he,b2⟩
      subst he
      have hz3:=BZ.out.size
      have B2:=hid ((HB.out.trans (BZ.out.mono hz)).trans (b2.mono (by omega)))
      clear b2 hv
      go_wp2_with fail
      refine(hist_at i tv xv' W4).mono ?_
      rintro e W5 ⟨⟨t5,x5,rfl⟩,b5⟩
      go_wp2_with fail
      refine bodyPost_ret (v:=.iface t5 x5) (by simp[results,Tryz.results46,go_sem]) rfl (.err hf ?_)
      exact B1.out.trans (((B2.out.trans (b5.mono B2.out.size))).mono B1.out.size)
     |true=>
      rw[hval] at hv
      go_wp2_with fail
      generalize wr.alloc (.cells #[.int .i64 xk,.int .i64 xx,.int .i64 xh,.int .i64 xj,.int .i64 xo,.int .i64 xy,.int .i64 xv,.int .i64 xr] 69)=W3 at *
      refine(hv.out).mono ?_
      rintro e W4 ⟨he,b2⟩
      subst he
      have hz3:=BZ.out.size
      have B2:=hid ((HB.out.trans (BZ.out.mono hz)).trans (b2.mono (by omega)))
      have BX:=hid (BW.out.trans ((BZ.out.trans (b2.mono hz3)).mono (by omega)))
      have r4:=row_below RZ.out b2 (row_lt RZ.out)
      have l4:=row_lt r4
      have y:=row_cell r4
      have y0:=y 0
      have y3:=y 3
      have y4:=y 4
      simp at y0 y3 y4
      have rh:=row_below R1.out B2.out (row_lt R1.out)
      have lh:=row_lt rh
      have h0:=row_cell rh 0
      simp at h0
      clear y r4 b2 hv c0 c1 c2 c3 c4 c5 c6 c7 rh
      by_cases hk:xk=2
      ·subst hk
       obtain⟨hj0,hj7⟩:=valid_obj hval rfl
       simp only at hj0 hj7
       obtain⟨c,rfl⟩:∃c:Nat,xj=c:=⟨xj.toNat,by omega⟩
       obtain⟨hgo,tq,xq,heq⟩:=(HG.out.below B1.out).below B2.out |>.object
       obtain⟨hgp,tp,xp,hep⟩:=(HG.out.below B1.out).below B2.out |>.op
       by_cases hcl:c < os.length
       case neg=>
        have hf:histB os es=false:=by
         unfold histB
         rw[all_bad (p:=evB os) HX.out (by unfold evB;simp only[Int.toNat_natCast];rw[List.getElem?_eq_none (by omega)];simp)]
         simp
        have q5:decide (os.length≤c)=true:=by simp;omega
        go_wp2_with fail
        refine(hist_at i tq xq W4).mono ?_
        rintro e W5 ⟨⟨t5,x5,rfl⟩,b5⟩
        go_wp2_with fail
        refine bodyPost_ret (v:=.iface t5 x5) (by simp[results,Tryz.results46,go_sem]) rfl (.err hf ?_)
        exact B1.out.trans (((B2.out.trans (b5.mono B2.out.size))).mono B1.out.size)
       obtain⟨b',off',o,hat',hb',hx',hc'⟩:=HO.out.atF Ob.len rfl hcl
       have k0:=cell_below BX.out hb' (hc' 0 (by decide))
       obtain⟨ok,on⟩:=o
       simp at k0
       have hzB:=BX.out.size
       have hbw':b' < W4.heap.size:=by omega
       have q5:decide (os.length≤c)=false:=by simp;omega
       subst hat'
       have HX':=hid hx'
       clear hx' hc'
       go_wp2_with fail
       have Z4:=hid (Below.refl W4.heap.size W4)
       have HDR:=hid B2.out.drew
       refine wp_rN (W4.heap.size) [0,1,3,0,1,0,1,0,0,1,0] (.fin [0,1,3,4,5,6,7,8,9,2,10]) (by kernel_rfl) ?_
       simp only[wpT,selX,guardAt,sD,sE,sF,sG]
       repeat first|(refine wpL_p fun K hK=>?_;go_simp;refine hK _ _ ?_;clear hK K)|(apply wpL_s;(intro w2 hw2;have hk1:=hw2.cell;have hk3:=hw2.1;clear hw2;go_simp;with_reducible rfl);simp only[Act.put,sA,sB,sC])
       refine wpL_k (fun K hK=>?_)
       go_simp
       refine(g_Of xo _).mono ?_
       rintro e W5 ⟨he,hw5⟩
       subst he
       refine hK _ _ (by rw[hw5];exact RN.KeepsN.of_below (Below.refl _ _)) ?_
       clear hK K
       rw[hw5]
       clear hw5 W5
       repeat first|(refine wpL_p fun K hK=>?_;go_simp;refine hK _ _ ?_;clear hK K)|refine wpL_nil ?_
       cases hop:(ofOp xo==ok) with
       |true=>
        have q7:(ofOp xo !=ok)=false:=by show(!(ofOp xo==ok))=false;rw[hop];rfl
        go_wp2_with fail
        go_roundw
        case rel=>exact⟨i+1,by omega,by go_num,all_step HPRE.out HX.out (by unfold evB;simp only[Int.toNat_natCast];rw[hval,HX'.out];simp[hop]),HDR.out⟩
        case measure=>simp[intOf];omega
       |false=>
        have q7:(ofOp xo !=ok)=true:=by show(!(ofOp xo==ok))=true;rw[hop];rfl
        have hf:histB os es=false:=by
         unfold histB
         rw[all_bad (p:=evB os) HX.out (by unfold evB;simp only[Int.toNat_natCast];rw[hval,HX'.out];simp[hop])]
         simp
        go_wp2_with fail
        refine(hist_at i tp xp _).mono ?_
        rintro e W5 ⟨⟨t5,x5,rfl⟩,b5⟩
        go_wp2_with fail
        refine bodyPost_ret (v:=.iface t5 x5) (by simp[results,Tryz.results46,go_sem]) rfl (.err hf ?_)
        exact B1.out.trans (((HDR.out.trans (b5.mono HDR.out.size))).mono B1.out.size)
      ·have q5:(xk==2)=false:=by simpa using hk
       have q6:(xk !=2)=true:=by simpa using hk
       go_wp2_with fail
       go_roundw
       case rel=>exact⟨i+1,by omega,by go_num,all_step HPRE.out HX.out (by unfold evB;rw[hval];simp[hk]),B2.out⟩
       case measure=>simp[intOf];omega
    ·obtain rfl:i=es.length:=by omega
     have halle:=all_done HPRE.out
     go_wp2
     go_ret
     refine .nil (by unfold histB;rw[hallo,halle];simp[hr8,hr4]) ?_
     exact B1.out.trans (HB.out.mono B1.out.size)
end
section
attribute [local irreducible] wpL
def fromOf (k:Int):List Int:=if k=3 then[2] else if k=5 then[3] else if k=6 then[1,2,3,4] else[1]
def DoIs (w:World) (B0:Nat) (k:Int) (F:FuncId) (caps:Array Value):Prop:=
 (k=2∧F=172∧caps=#[])∨(k=3∧F=173∧caps=#[])∨(k=4∧F=175∧caps=#[])∨(k=7∧F=176∧caps=#[])∨
 (F=171∧∃c st,(k=5∧st=3∨k=6∧st=4)∧caps=#[.pointer (some ⟨c,0,none⟩)]∧w.heap[c]?=some (.cells #[.int .i64 st] 3 (0,0))∧B0≤c)
def MvOk (w:World) (B0:Nat) (k:Int) (v:Value):Prop:=∃g F caps,v=.agg #[.slice (some ⟨g,0,none⟩) (fromOf k).length (fromOf k).length,.func (.func F) #[] caps]∧w.heap[g]?=some (.cells ((fromOf k).map (.int .i64)).toArray 3 (0,0))∧B0≤g∧DoIs w B0 k F caps
def MvsRet (w:World) (e:Ending) (w':World):Prop:=∃bm M,e=.returned (.map (some bm))∧RawM w' bm M∧(∀k:Int,2≤k→k < 8→∃v,M k=some v∧MvOk w' w.heap.size k v)∧Below w.heap.size w w'
theorem DoIs.row {w w':World} {B0:Nat} {k:Int} {F:FuncId} {caps:Array Value} (h:DoIs w B0 k F caps) (hr:∀(g:Nat) (cs:Array Value) (t:TypeId) (fz:Nat×Nat),w.heap[g]?=some (.cells cs t fz)→w'.heap[g]?=some (.cells cs t fz)):DoIs w' B0 k F caps:=by
 rcases h with h|h|h|h|⟨h1,c,st,h2,h3,h4,h5⟩
 ·exact .inl h
 ·exact .inr (.inl h)
 ·exact .inr (.inr (.inl h))
 ·exact .inr (.inr (.inr (.inl h)))
 ·exact .inr (.inr (.inr (.inr ⟨h1,c,st,h2,h3,hr _ _ _ _ h4,h5⟩)))
theorem MvOk.row {w w':World} {B0:Nat} {k:Int} {v:Value} (h:MvOk w B0 k v) (hr:∀(g:Nat) (cs:Array Value) (t:TypeId) (fz:Nat×Nat),w.heap[g]?=some (.cells cs t fz)→w'.heap[g]?=some (.cells cs t fz)):MvOk w' B0 k v:=
 let ⟨g,F,caps,h1,h2,h3,h4⟩:=h;⟨g,F,caps,h1,hr _ _ _ _ h2,h3,h4.row hr⟩
theorem mv_clos (st:Int) (w:World):Calls Tryz.prog 170 #[.int .i64 st] w fun e w'=>e=.returned (.func (.func 171) #[] #[.pointer (some ⟨w.heap.size,0,none⟩)])∧w'=w.alloc (.cells #[.int .i64 st] 3):=by
 go_enter Tryz.func170,Tryz.ntmps170
 go_wp2
 go_ret
 exact⟨rfl,rfl⟩
structure MvInv (w:World) (bm:Nat) (K:Int→Prop) (X:World):Prop where
 raw:∃M,RawM X bm M∧∀k,K k→∃v,M k=some v∧MvOk X w.heap.size k v
 below:Below w.heap.size w X
 hb:w.heap.size≤bm
theorem MvInv.alloc {w X:World} {bm:Nat} {K:Int→Prop} (h:MvInv w bm K X) (o:Obj):MvInv w bm K (X.alloc o):=by
 obtain⟨⟨M,h1,h2⟩,h3,h4⟩:=h
 have b:Below X.heap.size X (X.alloc o):=(Below.refl _ X).alloc (Nat.le_refl _) _
 exact⟨⟨M,h1.below b h1.lt,fun k hk=>let ⟨v,h5,h6⟩:=h2 k hk;⟨v,h5,h6.row fun g cs t fz hg=>row_old hg⟩⟩,h3.trans (b.mono h3.size),h4⟩
theorem MvInv.ins {w X:World} {bm:Nat} {K:Int→Prop} {k:Int} {v:Value} (h:MvInv w bm K X) (hv:MvOk X w.heap.size k v):
  ∃Y,Sem.run Tryz.prog (Instr.mapUpdate 251 (.map (some bm)) (.int .i64 k) v) X=.ok () Y∧MvInv w bm (fun j=>K j∨j=k) Y:=by
 obtain⟨⟨M,h1,h2⟩,h3,h4⟩:=h
 obtain⟨Y,hr,hm,ht⟩:=h1.store Tryz.underlying3 Tryz.underlying251 k v
 have hrow:∀(g:Nat) (cs:Array Value) (t:TypeId) (fz:Nat×Nat),X.heap[g]?=some (.cells cs t fz)→Y.heap[g]?=some (.cells cs t fz):=fun g cs t fz hg=>(turned_cells ht hg).trans hg
 refine⟨Y,hr,⟨_,hm,fun j hj=>?_⟩,h3.trans (Below.turned ht h4),h4⟩
 by_cases e:j=k
 ·subst e
  exact⟨v,rup_same,hv.row hrow⟩
 ·obtain ⟨u,h5,h6⟩:=h2 j (hj.resolve_right e)
  exact⟨u,by rw[rup_ne e];exact h5,h6.row hrow⟩
theorem s_moves (w:World):Calls Tryz.prog 128 #[] w (MvsRet w):=by
 have hmk:∀X:World,Sem.run Tryz.prog (Instr.makeMap 251 none) X=.ok (.map (some X.heap.size)) (X.alloc (.map #[] 0)):=fun X=>by kernel_rfl
 have b0:Below w.heap.size w (w.alloc (.map #[] 0)):=(Below.refl _ w).alloc (Nat.le_refl _) _
 have h0:MvInv w w.heap.size (fun _=>False) (w.alloc (.map #[] 0)):=⟨⟨_,RawM.made (row_new w _),fun k hk=>hk.elim⟩,b0,Nat.le_refl _⟩
 have z0:(w.alloc (.map #[] 0)).heap.size=w.heap.size+1:=by simp
 have a1:=h0.alloc (.cells #[.int .i64 1] 3)
 have o1:MvOk ((w.alloc (.map #[] 0)).alloc (.cells #[.int .i64 1] 3)) w.heap.size 2 (.agg #[.slice (some ⟨w.heap.size+1,0,none⟩) 1 1,.func (.func 172) #[] #[]]):=⟨w.heap.size+1,_,_,rfl,row_new' z0.symm,by omega,.inl ⟨rfl,rfl,rfl⟩⟩
 obtain⟨X1,r1,h1⟩:=a1.ins o1
 clear a1 o1 h0 b0
 have a2:=h1.alloc (.cells #[.int .i64 2] 3)
 have o2:MvOk (X1.alloc (.cells #[.int .i64 2] 3)) w.heap.size 3 (.agg #[.slice (some ⟨X1.heap.size,0,none⟩) 1 1,.func (.func 173) #[] #[]]):=⟨X1.heap.size,_,_,rfl,row_new _ _,h1.below.size,.inr (.inl ⟨rfl,rfl,rfl⟩)⟩
 obtain⟨X2,r2,h2⟩:=a2.ins o2
 clear a2 o2 h1
 have a3:=h2.alloc (.cells #[.int .i64 1] 3)
 have o3:MvOk (X2.alloc (.cells #[.int .i64 1] 3)) w.heap.size 4 (.agg #[.slice (some ⟨X2.heap.size,0,none⟩) 1 1,.func (.func 175) #[] #[]]):=⟨X2.heap.size,_,_,rfl,row_new _ _,h2.below.size,.inr (.inr (.inl ⟨rfl,rfl,rfl⟩))⟩
 obtain⟨X3,r3,h3⟩:=a3.ins o3
 clear a3 o3 h2
 have a4:=h3.alloc (.cells #[.int .i64 1] 3)
 have o4:MvOk (X3.alloc (.cells #[.int .i64 1] 3)) w.heap.size 7 (.agg #[.slice (some ⟨X3.heap.size,0,none⟩) 1 1,.func (.func 176) #[] #[]]):=⟨X3.heap.size,_,_,rfl,row_new _ _,h3.below.size,.inr (.inr (.inr (.inl ⟨rfl,rfl,rfl⟩)))⟩
 obtain⟨X4,r4,h4⟩:=a4.ins o4
 clear a4 o4 h3
 have a5:=(h4.alloc (.cells #[.int .i64 3] 3)).alloc (.cells #[.int .i64 3] 3)
 have zz5:(X4.alloc (.cells #[.int .i64 3] 3)).heap.size=X4.heap.size+1:=by simp
 have o5:MvOk ((X4.alloc (.cells #[.int .i64 3] 3)).alloc (.cells #[.int .i64 3] 3)) w.heap.size 5 (.agg #[.slice (some ⟨X4.heap.size,0,none⟩) 1 1,.func (.func 171) #[] #[.pointer (some ⟨X4.heap.size+1,0,none⟩)]]):=
  ⟨X4.heap.size,_,_,rfl,row_old (row_new _ _),h4.below.size,.inr (.inr (.inr (.inr ⟨rfl,X4.heap.size+1,3,.inl ⟨rfl,rfl⟩,rfl,row_new' zz5.symm,by have:=h4.below.size;omega⟩)))⟩
 obtain⟨X5,r5,h5⟩:=a5.ins o5
 clear a5 o5 h4 zz5
 have a6:=(h5.alloc (.cells #[.int .i64 1,.int .i64 2,.int .i64 3,.int .i64 4] 3)).alloc (.cells #[.int .i64 4] 3)
 have zz6:(X5.alloc (.cells #[.int .i64 1,.int .i64 2,.int .i64 3,.int .i64 4] 3)).heap.size=X5.heap.size+1:=by simp
 have o6:MvOk ((X5.alloc (.cells #[.int .i64 1,.int .i64 2,.int .i64 3,.int .i64 4] 3)).alloc (.cells #[.int .i64 4] 3)) w.heap.size 6 (.agg #[.slice (some ⟨X5.heap.size,0,none⟩) 4 4,.func (.func 171) #[] #[.pointer (some ⟨X5.heap.size+1,0,none⟩)]]):=
  ⟨X5.heap.size,_,_,rfl,row_old (row_new _ _),h5.below.size,.inr (.inr (.inr (.inr ⟨rfl,X5.heap.size+1,4,.inr ⟨rfl,rfl⟩,rfl,row_new' zz6.symm,by have:=h5.below.size;omega⟩)))⟩
 obtain⟨X6,r6,h6⟩:=a6.ins o6
 clear a6 o6 h5 zz6
 go_enter Tryz.func128,Tryz.ntmps128
 go_wp2_with fail
 refine(mv_clos 3 _).mono ?_
 rintro e W ⟨rfl,rfl⟩
 go_wp2_with fail
 refine(mv_clos 4 _).mono ?_
 rintro e W ⟨rfl,rfl⟩
 go_wp2_with fail
 go_ret
 obtain⟨⟨M,h1,h2⟩,h3,h4⟩:=h6
 refine⟨_,M,rfl,h1,fun k hk1 hk2=>h2 k ?_,h3⟩
 omega
end
theorem ptr_one (g:Nat):∀u ∈ valC (ptrV g),u.oneCell'=true:=by intro u hu;simp[valC] at hu;subst hu;rfl
theorem infoPs:(Tryz.prog.info? 177).map (fun i=>(i.zero,i.size,i.bytes))=some (some (.pointer none),1,8):=by kernel_rfl
theorem zeroPs (w:World):(zeroValue 177).run Tryz.prog w=.ok (.pointer none) w:=by kernel_rfl
theorem row_map {w w':World} {b:Nat} {g:Nat} {cs:Array Value} {t:TypeId} {fz:Nat×Nat} (h:w.mapTurned w' b) (hg:w.heap[g]?=some (.cells cs t fz)):w'.heap[g]?=some (.cells cs t fz):=(turned_cells h hg).trans hg
section
variable {w w':World} {B bA bY bZ n:Nat} {ov tv:Value} {os:List Ob} {A:Au} {Z:Int→Prop} {bs:List (Nat×Value)}
theorem AuIn.turn (h:AuIn w B bA bY bZ ov tv os n A Z bs) (hc:Chg (fun k=>k=bA∨k=bZ) w w') {n':Nat} {Z':Int→Prop} (hr:w'.heap[bA]?=some (.cells #[ov,.int .i64 n',tv,.map (some bY),.map (some bZ)] 176 (0,0)))
  {M:Int→Option Value} (hm:RawM w' bZ M) (hz:BzIs M Z'):AuIn w' B bA bY bZ ov tv os n' A Z' bs:=by
 obtain⟨MZ,hmz,-⟩:=h.bz.2
 have notA:∀g cs t fz,w.heap[g]?=some (.cells cs t fz)→t≠176→¬(g=bA∨g=bZ):=fun g cs t fz hg ht=>by
  rintro(rfl|rfl)
  ·rw [h.row] at hg
   simp only[Option.some.injEq,Obj.cells.injEq] at hg
   exact ht hg.2.1.symm
  ·obtain ⟨es,c,hh⟩:=hmz.isMap
   rw[hg] at hh;cases hh
 refine⟨hr,h.hB,OwnF.chg h.obs hc fun g hg=>?_,OwnF.chg h.txs hc fun g hg=>?_,h.len,fun k p s hp hs=>(h.sts k p s hp hs).chg hc fun g hg=>?_,h.nod,h.dis,⟨h.by_.1,?_⟩,⟨h.bz.1,M,hm,hz⟩,h.ne⟩
 ·obtain ⟨cs,fz,hh⟩:=OwnF.typ h.obs hg
  exact notA g cs _ fz hh (by decide)
 ·obtain ⟨cs,fz,hh⟩:=OwnF.typ h.txs hg
  exact notA g cs _ fz hh (by decide)
 ·obtain ⟨cs,t,fz,hh,ht⟩:=(h.sts k p s hp hs).typ hg
  refine notA g cs _ fz hh ?_
  rcases ht with rfl|rfl <;> decide
 ·obtain ⟨M1,h1,h2⟩:=h.by_.2
  refine⟨M1,h1.chg hc ?_,h2⟩
  rintro(e|e)
  ·obtain ⟨es,c,hh⟩:=h1.isMap
   rw[e,h.row] at hh;cases hh
  ·exact h.ne e
theorem AuIn.begun (h:AuIn w B bA bY bZ ov tv os n A Z bs) (hc:Chg (fun k=>k=bA∨tv.ownBlock=some k∨k=bY∨k=bZ) w w') {n' p:Nat} {tv':Value} {s:St}
  (hr:w'.heap[bA]?=some (.cells #[ov,.int .i64 n',tv',.map (some bY),.map (some bZ)] 176 (0,0)))
  (ht:OwnF valC 177 1 w' B tv' ((bs++[(p,Value.slice none 0 0)]).map fun q=>ptrV q.1)) (hs:StAt w' B (p,.slice none 0 0) s) (hp:w.heap.size≤p)
  {MY MY' MZ MZ':Int→Option Value} (hY:RawM w' bY MY') (f1:∀(k:Nat) (p:Nat×Value) (s:St),bs[k]?=some p→A[k]?=some s→MY s.id=some (ptrV p.1)) (f2:∀x,¬hasId x A→MY x=none) (f3:∀k,k≠s.id→MY' k=MY k) (f4:MY' s.id=some (ptrV p)) (hno:¬hasId s.id A)
  (hZ:RawM w' bZ MZ') (f5:BzIs MZ Z) (f6:∀k,k≠s.thread→MZ' k=MZ k) (f7:MZ' s.thread=some (ptrV p)) (hsd:s.deeds=[]):
  AuIn w' B bA bY bZ ov tv' os n' (A++[s]) (fun x=>Z x∨x=s.thread) (bs++[(p,.slice none 0 0)]):=by
 obtain⟨M0,hm0,-⟩:=h.bz.2
 obtain⟨M1,hm1,-⟩:=h.by_.2
 have notA:∀g cs t fz,w.heap[g]?=some (.cells cs t fz)→t≠176→t≠177→¬(g=bA∨tv.ownBlock=some g∨g=bY∨g=bZ):=fun g cs t fz hg ht ht2=>by
  rintro(rfl|hk|rfl|rfl)
  ·rw [h.row] at hg
   simp only[Option.some.injEq,Obj.cells.injEq] at hg
   exact ht hg.2.1.symm
  ·obtain ⟨cs',fz',hh⟩:=OwnF.typ h.txs hk
   rw[hg] at hh
   simp only[Option.some.injEq,Obj.cells.injEq] at hh
   exact ht2 hh.2.1
  ·obtain ⟨es,c,hh⟩:=hm1.isMap
   rw[hg] at hh;cases hh
  ·obtain ⟨es,c,hh⟩:=hm0.isMap
   rw[hg] at hh;cases hh
 have old:∀k (q:Nat×Value),bs[k]?=some q→∃t,A[k]?=some t∧StAt w B q t:=fun k q hq=>by
  have hk:=(List.getElem?_eq_some_iff.1 hq).1
  obtain⟨t,ht⟩:∃t,A[k]?=some t:=⟨_,List.getElem?_eq_getElem (by rw[←h.len];exact hk)⟩
  exact⟨t,ht,h.sts k q t hq ht⟩
 have split:∀k (q:Nat×Value),(bs++[(p,Value.slice none 0 0)])[k]?=some q→bs[k]?=some q∨(k=bs.length∧q=(p,.slice none 0 0)):=fun k q hq=>by
  rcases Nat.lt_or_ge k bs.length with hk|hk
  ·rw [List.getElem?_append_left hk] at hq;exact .inl hq
  ·have hl:=(List.getElem?_eq_some_iff.1 hq).1
   simp only[List.length_append,List.length_cons,List.length_nil] at hl
   obtain rfl:k=bs.length:=by omega
   simp only[List.getElem?_concat_length,Option.some.injEq] at hq
   exact .inr ⟨rfl,hq.symm⟩
 have splitA:∀k (t:St),(A++[s])[k]?=some t→A[k]?=some t∨(k=bs.length∧t=s):=fun k t hq=>by
  rcases Nat.lt_or_ge k A.length with hk|hk
  ·rw [List.getElem?_append_left hk] at hq;exact .inl hq
  ·have hl:=(List.getElem?_eq_some_iff.1 hq).1
   simp only[List.length_append,List.length_cons,List.length_nil] at hl
   have:=h.len
   obtain rfl:k=A.length:=by omega
   simp only[List.getElem?_concat_length,Option.some.injEq] at hq
   exact .inr ⟨by omega,hq.symm⟩
 have both:∀k (q:Nat×Value) (t:St),(bs++[(p,Value.slice none 0 0)])[k]?=some q→(A++[s])[k]?=some t→(bs[k]?=some q∧A[k]?=some t)∨(q=(p,.slice none 0 0)∧t=s):=fun k q t hq ht=>by
  rcases split k q hq with h1|⟨h1,h2⟩
  ·rcases splitA k t ht with h3|⟨h3,h4⟩
   ·exact .inl ⟨h1,h3⟩
   ·have:=(List.getElem?_eq_some_iff.1 h1).1;omega
  ·rcases splitA k t ht with h3|⟨h3,h4⟩
   ·have:=(List.getElem?_eq_some_iff.1 h3).1
    have:=h.len
    omega
   ·exact .inr ⟨h2,h4⟩
 refine⟨hr,h.hB,OwnF.chg h.obs hc fun g hg=>?_,ht,by simp[h.len],fun k q t hq ht=>?_,?_,fun j k q r hq hr hne g hg=>?_,⟨h.by_.1,MY',hY,fun k q t hq ht=>?_,fun x hx=>?_⟩,⟨h.bz.1,MZ',hZ,fun x hx=>?_,fun x hx=>?_⟩,h.ne⟩
 ·obtain ⟨cs,fz,hh⟩:=OwnF.typ h.obs hg
  exact notA g cs _ fz hh (by decide) (by decide)
 ·rcases both k q t hq ht with⟨h1,h2⟩|⟨rfl,rfl⟩
  ·refine (h.sts k q t h1 h2).chg hc fun g hg=>?_
   obtain⟨cs,t',fz,hh,ht'⟩:=(h.sts k q t h1 h2).typ hg
   rcases ht' with rfl|rfl
   ·exact notA g cs _ fz hh (by decide) (by decide)
   ·exact notA g cs _ fz hh (by decide) (by decide)
  ·exact hs
 ·rw [List.map_append]
  refine List.nodup_append.2 ⟨h.nod,by simp,?_⟩
  intro a ha b hb
  simp only[List.map_cons,List.map_nil,List.mem_singleton] at hb
  subst hb
  obtain⟨q,hq,rfl⟩:=List.mem_map.1 ha
  obtain⟨k,hk⟩:=List.mem_iff_getElem?.1 hq
  obtain⟨t,-,hst⟩:=old k q hk
  have:=row_lt hst.row
  exact fun e=>by omega
 ·rcases split j q hq with h1|⟨-,rfl⟩
  ·rcases split k r hr with h2|⟨-,rfl⟩
   ·exact h.dis j k q r h1 h2 hne g hg
   ·simp [Value.ownBlock]
  ·simp [Value.ownBlock] at hg
 ·rcases both k q t hq ht with⟨h1,h2⟩|⟨rfl,rfl⟩
  ·rw [f3 t.id ?_]
   ·exact f1 k q t h1 h2
   ·intro e
    exact hno ⟨t,List.mem_of_getElem? h2,e⟩
  ·exact f4
 ·rw [f3 x ?_]
  ·exact f2 x fun⟨t,ht,e⟩=>hx ⟨t,by simp[ht],e⟩
  ·rintro rfl
   exact hx ⟨s,by simp,rfl⟩
 ·rw [f6 x fun e=>hx (.inr e)]
  exact f5.1 x fun e=>hx (.inl e)
 ·by_cases e:x=s.thread
  ·rw [e];exact⟨p,f7⟩
  ·rw [f6 x e]
   rcases hx with hx|hx
   ·exact f5.2 x hx
   ·exact absurd hx e
theorem busy_snoc_iff {s:St} {x:Int} (hs:s.stand≠5):(isBusy x A∨x=s.thread)↔isBusy x (A++[s]):=by
 constructor
 ·rintro (⟨t,ht,h⟩|rfl)
  ·exact ⟨t,by simp[ht],h⟩
  ·exact ⟨s,by simp,rfl,hs⟩
 ·rintro ⟨t,ht,h,h5⟩
  rcases List.mem_append.1 ht with ht|ht
  ·exact .inl ⟨t,ht,h,h5⟩
  ·rw [List.mem_singleton.1 ht] at h;exact .inr h.symm
end
