/- Parts of the proof; the first: The values that a register has, one behind the other. Conditions: those of each theorem, as typed. -/
import Derived.Test.YtcpfbphcldocpaaGreatDoorQC18
import Derived.Test.YtcpfbphcldocpaaGreatDoorQC23
import Derived.Test.YtcpfbphcldocpaaGreatDoorQC02
import Derived.Test.YtcpfbphcldocpaaGreatDoorQC24
set_option linter.unusedVariables false
set_option linter.unusedSimpArgs false
set_option linter.unusedSectionVars false
set_option maxRecDepth 100000
set_option maxHeartbeats 4000000
namespace Go.Proofs.YtcpfbphcldocpaaGreatDoor
open Go.Maps Go.RowKit
section
attribute [local irreducible] xL
theorem Wi {v:Value} {l:List xz} {B:Nat} (w:World) (h:qj xz.cells 133 1 w B v l) (hl:l.length<=400):
  Calls Tryz.prog 51 #[v] w fun e w'=>∃v',e=.returned v'/\qj xz.cells 133 1 w' w.heap.size v' l/\Below w.heap.size w w':=by
 have eq1:∀X:World,Sem.run Tryz.prog (binOp BinOp.eql 131 (.slice none 0 0) (.slice none 0 0)) X=.ok (.bool true) X:=fun X=>by kernel_rfl
 have eq2:∀(X:World) (g n c:Nat),Sem.run Tryz.prog (binOp BinOp.eql 131 (.slice (some ⟨g,0,none⟩) n c) (.slice none 0 0)) X=.ok (.bool false) X:=fun X g n c=>by kernel_rfl
 rcases qj.form h with⟨rfl,rfl⟩|⟨g,cap,rfl,hg,hgl⟩
 ·go_enter Tryz.func51,Tryz.ntmps51
  go_wp2;go_ret;exact⟨_,rfl,qj.nil _ _,Below.refl _ _⟩
 ·have H:=qd h
  have o0:=qj.lit (f:=xz.cells) (e:=133) (sz:=1) w w.heap.size (Nat.le_refl _) [] xz.len (by simp);have b0:Below w.heap.size w (w.alloc (.cells (([]:List xz).flatMap xz.cells).toArray 133)):=(Below.refl _ w).alloc (Nat.le_refl _) _;have O0:=qd o0;have B0:=qd b0;have hs:=qd ((qj.sl h).below b0);clear h o0 b0;go_enter Tryz.func51,Tryz.ntmps51;go_wp2_with (at_builtin;refine yN rfl _ _ _ rfl _ 8 Tryz.underlying131 Vc rfl O0.o l rfl hs.o (by first|omega|(simp <;> omega)) rfl rfl xz.len UT (by first|omega|(simp <;> omega)) (by first|omega|(simp <;> omega)) ?_;refine qH.halt ?_)
  refine qH.go ?_;intro v' w2 o2 g2;have O2:=qd o2;have B2:=qd (B0.o.trans (g2.below (by simp) fun k hk=>(qj.lt O0.o k hk).1));clear o2 g2;go_wp2;go_ret;exact⟨_,rfl,O2.o,B2.o⟩
def UU (ms:List xz) (L:List Nat):List xz:=L.filterMap fun i=>ms[i]?
def ixP (ms:List xz) (q:Nat->Bool) (m:xz):Bool:=(List.range ms.length).any fun i=>(match ms[i]? with
 |some m'=>m'.p==m.p
 |none=>false)&&q i
def isW (A:Au) (o:Int) (i:Nat):Bool:=match A[i]? with
 |some s=>(fnd o (zb s)).isSome
 |none=>false
def isR (A:Au) (o v:Int) (i:Nat):Bool:=match A[i]? with
 |some s=>fnd o (yG s)==some v
 |none=>false
section
variable {ms:List xz} {L:List Nat} {q:Nat->Bool}
theorem Vb (inj:∀(j k:Nat) (m m':xz),ms[j]?=some m->ms[k]?=some m'->m.p=m'.p->j=k) {i:Nat} {m:xz} (hi:ms[i]?=some m):ixP ms q m=q i:=by
 have hil:=(List.getElem?_eq_some_iff.1 hi).1;cases hq:q i with
 |true=>
  unfold ixP;rw[List.any_eq_true];exact⟨i,List.mem_range.2 hil,by rw[hi,hq];simp⟩
 |false=>
  unfold ixP;rw[List.any_eq_false];intro j hj;have hjl:=List.mem_range.1 hj;have hj':ms[j]?=some ms[j]:=List.getElem?_eq_getElem hjl;rw[hj'];by_cases e:ms[j].p=m.p
  ·obtain rfl:=inj j i _ _ hj' hi e
   simp[hq]
  ·simp [e]
theorem Xr {i:Nat} (hi:i < ms.length):UU ms (i::L)=ms[i]::UU ms L:=by
 unfold UU;rw[List.filterMap_cons,List.getElem?_eq_getElem hi]
theorem uZ (inj:∀(j k:Nat) (m m':xz),ms[j]?=some m->ms[k]?=some m'->m.p=m'.p->j=k):∀{L:List Nat},(∀i ∈ L,i < ms.length)->(UU ms L).filter (fun m=>!ixP ms q m)=UU ms (L.filter fun i=>!q i)
 |[],_=>rfl
 |i::L,h=>by
  have hi:=h i (by simp);rw[Xr hi,List.filter_cons,List.filter_cons,Vb inj (List.getElem?_eq_getElem hi),uZ inj fun j hj=>h j (by simp[hj])]
  split
  ·rw [Xr hi]
  ·rfl
theorem Xq:∀{L:List Nat},(∀i ∈ L,i < ms.length)->(UU ms L).length=L.length
 |[],_=>rfl
 |i::L,h=>by rw[Xr (h i (by simp)),List.length_cons,List.length_cons,Xq fun j hj=>h j (by simp[hj])]
theorem Rs {m:xz} (h:m ∈ UU ms L):∃i ∈ L,ms[i]?=some m:=List.mem_filterMap.1 h
theorem mvL_all:UU ms (List.range ms.length)=ms:=by
 apply List.ext_getElem
 ·rw [Xq fun i hi=>List.mem_range.1 hi,List.length_range]
 ·intro k h1 h2
  have hk:(UU ms (List.range ms.length))[k]?=ms[k]?:=by
   have:∀(n:Nat),n<=ms.length->UU ms (List.range n)=ms.take n:=by
    intro n
    induction n with
    |zero=>intro _;rfl
    |succ n ih=>
     intro hn;have:=ih (by omega);unfold UU at this ⊢;rw[List.range_succ,List.filterMap_append,this,List.take_add_one,List.filterMap_cons,List.getElem?_eq_getElem (by omega)];rfl
   rw[this _ (Nat.le_refl _),List.take_length]
  rw[List.getElem?_eq_getElem h1,List.getElem?_eq_getElem h2] at hk;exact Option.some.inj hk
end
section
variable {W:World} {lo hi pW bB pO:Nat} {lev o:Int} {ov vv lv:Value} {ms:List xz} {A:Au} {T:List Bool}
theorem v_1 (hF:xN W lo hi pW bB lev ov vv ms lv A T) (hd:vB A) (ho:dI o) (hO:W.heap[pO]?=some (.cells #[.int .i64 o] 3 (0,0))) {i:Nat} {m:xz} (hi':ms[i]?=some m):
  Calls Tryz.prog 52 #[xE m.p,.pointer (some ⟨pO,0,none⟩)] W fun e w'=>e=.returned (.bool (!(T.getD i false&&isW A o i)))/\Below W.heap.size W w':=by
 have hil:=(List.getElem?_eq_some_iff.1 hi').1;obtain⟨m0,s,h1,h2,q⟩:=hF.get (k:=i) (by have:=hF.len;omega);rw[hi'] at h1;obtain rfl:=Option.some.inj h1;have r:=q.row;have hwl:=q.wr.lt;have LK:=qd (show ∀X:World,X.heap[m.wm]?=W.heap[m.wm]?->(Instr.lookup 138 (.map (some m.wm)) (.int .i64 o) true).run Tryz.prog X=.ok (.tuple #[.int .i64 ((fnd o (zb s)).getD 0),.bool (fnd o (zb s)).isSome]) X from fun X hX=>Xt (q.wr.obj hX) (hd s (List.mem_of_getElem? h2)).2 ho rfl);have ew:isW A o i=(fnd o (zb s)).isSome:=by unfold isW;rw[h2]
 rw[ew];obtain⟨tk,htk⟩:∃tk,T.getD i false=tk:=⟨_,rfl⟩
 obtain⟨sw,hsw⟩:∃sw,(fnd o (zb s)).isSome=sw:=⟨_,rfl⟩
 obtain⟨gw,hgw⟩:∃gw,(fnd o (zb s)).getD 0=gw:=⟨_,rfl⟩
 rw[htk] at r;rw[htk,hsw];rw[hsw,hgw] at LK;have ym:=qa r;have ym8:=ym 8;have ym10:=ym 10;simp at ym8 ym10;have yml:=qe r;have yo:=qa hO 0;simp at yo;have yol:=qe hO;clear ym r q hF hd ho hO ew htk hsw hgw h2;unfold xE;go_enter Tryz.func52,Tryz.ntmps52;go_wp2_with fail;refine qD (W.heap.size) [0,0,0,1,1,1,0,0,0,0,0] (.fin [0,1,2,3,4,5,6,7,8,9,10]) (by kernel_rfl) ?_;simp only[xC,qJ,qu,sD,sE,sF,sG]
 repeat first|(refine qq fun K hK=>?_;go_simp;refine hK _ _ ?_;clear hK K)|(apply qx;(intro w2 hw2;have hk1:=hw2.cell;have hk3:=hw2.1;clear hw2;go_simp;with_reducible rfl);simp only[Act.put,sA,sB,sC])
 refine xO (fun K hK=>?_);refine⟨.tuple #[.int .i64 gw,.bool sw],fun w2 hw2=>?_,?_⟩
 ·have lk:=LK.o w2 (hw2.2 m.wm hwl)
  go_simp
 refine hK _ _ ?_;clear hK K
 repeat first|(refine qq fun K hK=>?_;go_simp;refine hK _ _ ?_;clear hK K)|refine qm ?_
 cases tk <;> cases sw
 all_goals
  go_wp2_with fail;go_ret;exact⟨rfl,(Below.refl _ W).drew⟩
theorem v_2 (hF:xN W lo hi pW bB lev ov vv ms lv A T) (hd:vB A) (ho:dI o) (hO:W.heap[pO]?=some (.cells #[.int .i64 o] 3 (0,0))) {pT B:Nat} {vo:Value} {O:List Int} (hT:W.heap[pT]?=some (.cells #[vo] 30 (0,0))) (hvo:yF W B vo O) (hne:0 < O.length) (hOl:O.length<=1000) {i:Nat} {m:xz} (hi':ms[i]?=some m):
  Calls Tryz.prog 53 #[xE m.p,.pointer (some ⟨pO,0,none⟩),.pointer (some ⟨pT,0,none⟩)] W fun e w'=>e=.returned (.bool (!isR A o (O.getLastD 0) i))/\Below W.heap.size W w':=by
 have hil:=(List.getElem?_eq_some_iff.1 hi').1;obtain⟨m0,s,h1,h2,q⟩:=hF.get (k:=i) (by have:=hF.len;omega);rw[hi'] at h1;obtain rfl:=Option.some.inj h1;have r:=q.row;have hwl:=q.rd.lt;have LK:=qd (show ∀X:World,X.heap[m.r]?=W.heap[m.r]?->(Instr.lookup 138 (.map (some m.r)) (.int .i64 o) true).run Tryz.prog X=.ok (.tuple #[.int .i64 ((fnd o (yG s)).getD 0),.bool (fnd o (yG s)).isSome]) X from fun X hX=>Xt (q.rd.obj hX) (hd s (List.mem_of_getElem? h2)).1 ho rfl);have ew:isR A o (O.getLastD 0) i=(fnd o (yG s)==some (O.getLastD 0)):=by unfold isR;rw[h2]
 rw[ew];obtain⟨x,hx⟩:∃x,fnd o (yG s)=x:=⟨_,rfl⟩
 rw[hx];rw[hx] at LK;obtain⟨z,hz⟩:∃z,O.getLastD 0=z:=⟨_,rfl⟩
 rw[hz];obtain⟨c,hc⟩:∃n:Nat,O.length=n+1:=⟨O.length - 1,by omega⟩
 have hlast:O[c]?=some z:=by
  rw[←hz,List.getLastD_eq_getLast?,List.getLast?_eq_getElem?];have:O.length - 1=c:=by omega
  rw[this,List.getElem?_eq_getElem (by omega)];rfl
 obtain⟨av,cv,e1⟩:=qj.sli hvo;subst e1;have hsl:=(show Sl W W.heap.size 1 (.slice av O.length cv) O.length (O.map (.int .i64)) by rw[←vV];exact qj.sl hvo).intAt (k:=c) (by omega);obtain⟨b2,o2,z2,hav,hb2,hz2,hcc⟩:=hsl;subst hav;rw[hlast] at hz2;obtain rfl:=Option.some.inj hz2;rw[hc] at hT;have ym:=qa r;have ym7:=ym 7;simp at ym7;have yml:=qe r;have yo:=qa hO 0;have yt:=qa hT 0;simp at yo yt;have yol:=qe hO;have ytl:=qe hT;have hc1:((c+1:Nat):Int) - 1=c:=by omega
 have hcl:c<=1000:=by omega
 have hw1:wrap64 (((c+1:Nat):Int) - 1)=c:=by rw[hc1];unfold wrap64;omega
 clear ym r q hF hd ho hO hT hvo ew h2 hz hlast hne hOl hc hx;unfold xE;go_enter Tryz.func53,Tryz.ntmps53;go_wp2_with fail;refine qD (W.heap.size) [0,0,0,1,1,1,0,0,0,0,0] (.fin [0,1,2,3,4,5,6,7,8,9,10]) (by kernel_rfl) ?_;simp only[xC,qJ,qu,sD,sE,sF,sG]
 repeat first|(refine qq fun K hK=>?_;go_simp;refine hK _ _ ?_;clear hK K)|(apply qx;(intro w2 hw2;have hk1:=hw2.cell;have hk3:=hw2.1;clear hw2;go_simp;with_reducible rfl);simp only[Act.put,sA,sB,sC])
 refine xO (fun K hK=>?_);refine⟨.tuple #[.int .i64 (x.getD 0),.bool x.isSome],fun w2 hw2=>?_,?_⟩
 ·have lk:=LK.o w2 (hw2.2 m.r hwl)
  go_simp
 refine hK _ _ ?_;clear hK K
 repeat first|(refine qq fun K hK=>?_;go_simp;refine hK _ _ ?_;clear hK K)|refine qm ?_
 cases x with
 |none=>
  simp only[Option.isSome_none,Option.getD_none];go_wp2_with fail;go_ret;exact⟨rfl,(Below.refl _ W).drew⟩
 |some x=>
  simp only[Option.isSome_some,Option.getD_some];go_wp2_with fail;go_ret;refine⟨?_,(Below.refl _ W).drew⟩;by_cases e:x=z
  ·subst e;simp
  ·have:(some x==some z)=false:=by simpa using e
   rw[this];simp[e]
theorem v_3 (hF:xN W lo hi pW bB lev ov vv ms lv A T) {pN B:Nat} {vn:Value} {j:Nat} {mj:xz} (hj:ms[j]?=some mj) (hN:W.heap[pN]?=some (.cells #[vn] 131 (0,0))) (hvn:qj xz.cells 133 1 W B vn [mj]) {i:Nat} {m:xz} (hi':ms[i]?=some m):
  Calls Tryz.prog 54 #[xE m.p,.pointer (some ⟨pN,0,none⟩)] W fun e w'=>e=.returned (.bool (decide (i=j)))/\Below W.heap.size W w':=by
 have hil:=(List.getElem?_eq_some_iff.1 hi').1;have hjl:=(List.getElem?_eq_some_iff.1 hj).1;obtain⟨m0,s,h1,h2,q⟩:=hF.get (k:=i) (by have:=hF.len;omega);rw[hi'] at h1;obtain rfl:=Option.some.inj h1;obtain⟨m1,s1,h3,h4,q1⟩:=hF.get (k:=j) (by have:=hF.len;omega);rw[hj] at h3;obtain rfl:=Option.some.inj h3;have hpe:=ptr_eql q.row q1.row;have hdec:decide (m.p=mj.p)=decide (i=j):=by
  by_cases e:m.p=mj.p
  ·obtain rfl:=hF.inj _ _ _ _ hi' hj e
   simp[e]
  ·have:i≠j:=by
    rintro rfl;rw[hi'] at hj;exact e (by rw[Option.some.inj hj])
   simp[e,this]
 rw[hdec] at hpe;obtain⟨a,c,e1⟩:=qj.sli hvn;subst e1;simp only[List.length_cons,List.length_nil,Nat.zero_add] at hvn hN;obtain⟨b,off,m2,hat,hb,hmk,hc⟩:=(qj.sl hvn).atF xz.len rfl (k:=0) (by simp);subst hat;simp at hmk;subst hmk;have c0:=hc 0 (by decide);simp[xz.cells,xE] at c0;have yt:=qa hN 0;simp at yt;have ytl:=qe hN;clear hc hvn hN q q1 hF h2 h4 hdec;unfold xE;go_enter Tryz.func54,Tryz.ntmps54;go_wp2_with fail;go_ret;exact⟨rfl,Below.refl _ _⟩
theorem pred_1 {w:World} (hF:xN w lo hi pW bB lev ov vv ms lv A T) (hh:hi<=w.heap.size) (hd:vB A) (ho:dI o) (hO:w.heap[pO]?=some (.cells #[.int .i64 o] 3 (0,0))) {B:Nat} {v:Value} {l:List xz} (hv:qj xz.cells 133 1 w B v l) (hB:hi<=B) (hp:pO < B) (hL:∀m ∈ l,∃i:Nat,ms[i]?=some m):
  Yx Tryz.prog 52 #[.pointer (some ⟨pO,0,none⟩)] (fun m:xz=>xE m.p) (ixP ms fun i=>!(T.getD i false&&isW A o i)) (· ∈ l) w v.ownBlock:=by
 intro W x hx hg;obtain⟨i,hi'⟩:=hL x hx;have ne:∀k,k < B->some k≠v.ownBlock:=fun k hk e=>by have:=(qj.lt hv k e.symm).1;omega
 have hF':=hF.keep (w':=W) (hi':=hi) (Nat.le_refl _) fun k _ hk=>hg.block k (by omega) (ne k (by omega));have hO':=(hg.block pO (qe hO) (ne pO hp)).trans hO;rw[Vb hF.inj hi'];exact v_1 hF' hd ho hO' hi'
theorem pred_2 {w:World} (hF:xN w lo hi pW bB lev ov vv ms lv A T) (hh:hi<=w.heap.size) (hd:vB A) (ho:dI o) (hO:w.heap[pO]?=some (.cells #[.int .i64 o] 3 (0,0))) {pT C:Nat} {vo:Value} {O:List Int} (hT:w.heap[pT]?=some (.cells #[vo] 30 (0,0))) (hvo:yF w C vo O) (hne:0 < O.length) (hOl:O.length<=1000)
  {B:Nat} {v:Value} {l:List xz} (hv:qj xz.cells 133 1 w B v l) (hB:hi<=B) (hp:pO < B) (hpT:pT < B) (hvB:∀k,vo.ownBlock=some k->k < B) (hL:∀m ∈ l,∃i:Nat,ms[i]?=some m):
  Yx Tryz.prog 53 #[.pointer (some ⟨pO,0,none⟩),.pointer (some ⟨pT,0,none⟩)] (fun m:xz=>xE m.p) (ixP ms fun i=>!isR A o (O.getLastD 0) i) (· ∈ l) w v.ownBlock:=by
 intro W x hx hg;obtain⟨i,hi'⟩:=hL x hx;have ne:∀k,k < B->some k≠v.ownBlock:=fun k hk e=>by have:=(qj.lt hv k e.symm).1;omega
 have hF':=hF.keep (w':=W) (hi':=hi) (Nat.le_refl _) fun k _ hk=>hg.block k (by omega) (ne k (by omega));have hO':=(hg.block pO (qe hO) (ne pO hp)).trans hO;have hT':=(hg.block pT (qe hT) (ne pT hpT)).trans hT;have hvo':yF W C vo O:=qj.sameB hvo fun k hk=>hg.block k (qj.lt hvo k hk).2 (ne k (hvB k hk));rw[Vb hF.inj hi'];exact v_2 hF' hd ho hO' hT' hvo' hne hOl hi'
theorem pred_3 {w:World} (hF:xN w lo hi pW bB lev ov vv ms lv A T) (hh:hi<=w.heap.size) {pN C:Nat} {vn:Value} {j:Nat} {mj:xz} (hj:ms[j]?=some mj) (hN:w.heap[pN]?=some (.cells #[vn] 131 (0,0))) (hvn:qj xz.cells 133 1 w C vn [mj])
  {B:Nat} {v:Value} {l:List xz} (hv:qj xz.cells 133 1 w B v l) (hB:hi<=B) (hpN:v.ownBlock≠some pN) (hvC:∀k,v.ownBlock=some k->k < C) (hL:∀m ∈ l,∃i:Nat,ms[i]?=some m):
  Yx Tryz.prog 54 #[.pointer (some ⟨pN,0,none⟩)] (fun m:xz=>xE m.p) (ixP ms fun i=>decide (i=j)) (· ∈ l) w v.ownBlock:=by
 intro W x hx hg;obtain⟨i,hi'⟩:=hL x hx;have ne:∀k,k < B->some k≠v.ownBlock:=fun k hk e=>by have:=(qj.lt hv k e.symm).1;omega
 have hF':=hF.keep (w':=W) (hi':=hi) (Nat.le_refl _) fun k _ hk=>hg.block k (by omega) (ne k (by omega));have hN':=(hg.block pN (qe hN) fun e=>hpN e.symm).trans hN;have hvn':qj xz.cells 133 1 W C vn [mj]:=qj.sameB hvn fun k hk=>hg.block k (qj.lt hvn k hk).2 fun e=>by have:=hvC k e.symm;have:=(qj.lt hvn k hk).1;omega
 rw[Vb hF.inj hi'];exact v_3 hF' hj hN' hvn' hi'
end
theorem Zw {A:Au} {T:List Bool} {o:Int}:uc A T o=(List.range A.length).filter fun i=>!!(T.getD i false&&isW A o i):=by
 unfold uc;congr 1;funext i;unfold isW;rw[Bool.not_not];cases A[i]? <;> rfl
theorem Zo {A:Au} {o v:Int} {L:List Nat}:Zp A o v L=L.filter fun i=>!!isR A o v i:=by
 unfold Zp;congr 1;funext i;unfold isR;rw[Bool.not_not];cases A[i]? <;> rfl
theorem wrV_eq {A:Au} {o:Int} {j:Nat} {s:St} (h:A[j]?=some s):wrV A o j=(fnd o (zb s)).getD 0:=by unfold wrV;rw[h]
theorem MB {A:Au} {o:Int} {n:Nat} {O:List Int}:zH A o n [] O=(O,true):=by cases n <;> rfl
theorem MA {A:Au} {o:Int} {n j:Nat} {L:List Nat} {O:List Int} (hL:L≠[]) (hN:Zp A o (O.getLastD 0) L=[j]):zH A o (n+1) L O=zH A o n (L.filter fun i=>!decide (i=j)) (O++[wrV A o j]):=by
 obtain⟨x,L,rfl⟩:=List.exists_cons_of_ne_nil hL;have hf:(fun i=>!decide (i=j))=(fun i:Nat=>i !=j):=by
  funext i;rw[Bool.eq_iff_iff];simp
 rw[zH,hN,hf];exact fun h=>by cases h
theorem vers_no {A:Au} {o:Int} {n:Nat} {L:List Nat} {O:List Int} (hL:L≠[]) (hN:(Zp A o (O.getLastD 0) L).length≠1):zH A o (n+1) L O=(O,false):=by
 obtain⟨x,L,rfl⟩:=List.exists_cons_of_ne_nil hL;rw[zH]
 ·split
  ·rename_i j e
   rw[e] at hN;exact absurd rfl hN
  ·rfl
 ·exact fun h=>by cases h
section
variable {w:World} {ov vv:Value} {os:List Ob} {r:Option Au} {A:Au} {lev o:Int}
theorem ZL (h:Jk w ov vv os r) (e:xQ os r=some A) (hl:lev=1\/lev=2\/lev=3) (hal:A.length<=200) (ho:0<=o/\o < os.length):Calls Tryz.prog 20 #[.agg #[ov,vv],.int .i64 lev,.int .i64 o] w fun e w'=>
  ∃v b,e=.returned (.tuple #[v,.bool b,.nilIface])/\yF w' w.heap.size v (jQ lev (os.map (·.init)) A o).1/\b=(jQ lev (os.map (·.init)) A o).2/\Below w.heap.size w w':=by
 obtain⟨ao,co,hov,-⟩:=h.ho.ex;obtain⟨av,nv,cv,hvv⟩:=h.hvv;have HD:=qd (h.hD A (qW e).1);have hol:=HD.o.ol;obtain⟨c,rfl⟩:∃c:Nat,o=c:=⟨o.toNat,by omega⟩
 have hcl:c < os.length:=by omega
 have hdo:dI (c:Int):=by
  unfold dI Lit.wf;simp[IntKind.min,IntKind.max,IntKind.bits,IntKind.signed];omega
 have b0:Below w.heap.size w ((w.alloc (.cells #[ov,vv] 25)).alloc (.cells #[.int .i64 (c:Int)] 3)):=((Below.refl _ w).alloc (Nat.le_refl _) _).alloc (by simp) _;have PC:=qd (f_atS (lev:=lev) (h.below b0) e hl);have r0:=qy (o:=.cells #[.int .i64 (c:Int)] 3) (qs w (.cells #[ov,vv] 25));have r1:=qs (w.alloc (.cells #[ov,vv] 25)) (.cells #[.int .i64 (c:Int)] 3);have z0:((w.alloc (.cells #[ov,vv] 25)).alloc (.cells #[.int .i64 (c:Int)] 3)).heap.size=w.heap.size+2:=by simp
 simp only[World.size_alloc] at r1;have HH:=qd h;have R0:=qd r0;have R1:=qd r1;have B0:=qd b0;have Z0:=qd z0;have HDO:=qd hdo;subst hov hvv;have hq1:decide ((c:Int) < 0)=false:=by simp
 have hq2:decide ((os.length:Int)<=(c:Int))=false:=by simp;omega
 clear h b0 e r0 r1 z0 hdo;go_enter Tryz.func20,Tryz.ntmps20;go_wp2_with fail;generalize (w.alloc (.cells #[.slice ao os.length co,.slice av nv cv] 25)).alloc (.cells #[.int .i64 (c:Int)] 3)=Wb at *;refine PC.o.mono ?_;rintro e W1 ⟨pW,bB,ms,lv,rfl,hF,b1⟩;have B1:=qd (B0.o.trans (b1.mono B0.o.size));obtain⟨T,hT⟩:∃T,qT lev A=T:=⟨_,rfl⟩
 obtain⟨al,cl,hlv0⟩:=qj.sli hF.lst;subst hlv0;have hml:ms.length=A.length:=hF.len;have HML:=qd hml;have hms:ms.length<=200:=by omega
 have R0:=qd (qh R0.o b1 (qe R0.o));have R1:=qd (qh R1.o b1 (qe R1.o));have y0:=qa R0.o 0;have y1:=qa R1.o 0;simp at y0 y1;have yl0:=qe R0.o;have yl1:=qe R1.o;have yq:=qa hF.row 3;simp at yq;have yql:=qe hF.row;rw[hT] at hF;have F1:=qd hF;have HT:=qd hT;have CL:=qd (Wi W1 hF.lst (by omega));have hsz:=b1.size;have hz2:=Z0.o;have hw1:w.heap.size+2<=W1.heap.size:=by omega
 clear b1 hF hT hml hz2;go_wp2_with fail;refine CL.o.mono ?_;rintro e W2 ⟨v1,rfl,o1,b2⟩;have F2:=qd (F1.o.below b2 (Nat.le_refl _) (Nat.le_refl _));have R02:=qd (qh R0.o b2 yl0);have R12:=qd (qh R1.o b2 yl1);have hz2:=b2.size;have P1:=qd (pred_1 F2.o hz2 HD.o.mv HDO.o R12.o o1 (Nat.le_refl _) yl1 fun m hm=>(List.mem_iff_getElem?.1 hm));have DL:=qd (XS W2 o1 (by omega) (enters_of Tryz.func52 (by kernel_rfl) rfl) P1.o);have B2:=qd b2;have O1:=qd o1;obtain⟨a1,c1,e1⟩:=qj.sli o1;subst e1;clear o1 b2 P1;go_wp2_with fail;refine DL.o.mono ?_;rintro e W3 ⟨v3,rfl,o3,g3⟩;have hz3:=g3.size;have F3:=qd (F2.o.keep (w':=W3) (hi':=W1.heap.size) (Nat.le_refl _) fun k _ hk=>g3.grown.block k (by omega) (fun e=>by have:=(qj.lt O1.o k e.symm).1;omega));have B3:=qd (B2.o.trans ((g3.below (B:=W1.heap.size) hz2 fun k hk=>(qj.lt O1.o k hk).1)));have BW:=qd (B1.o.trans (B3.o.mono (by omega)));have R03:=qd (qh R0.o B3.o yl0);have R13:=qd (qh R1.o B3.o yl1);have e3:=uZ (q:=fun i=>!(T.getD i false&&isW A c i)) F3.o.inj (L:=List.range ms.length) (fun i hi=>List.mem_range.1 hi);rw[mvL_all,HML.o,←Zw] at e3;have O3:=qd (show qj xz.cells 133 1 W3 W1.heap.size v3 (UU ms (uc A T c)) by rw[←e3];exact o3);obtain⟨a3,c3,e4⟩:=qj.sli O3.o;subst e4;obtain⟨b5,o5,ob,hat,hb5,hob,hcc⟩:=((HH.o.ho.below BW.o).atF Ob.len rfl hcl)
 subst hat;have z0:=hcc 0 (by decide);have z1:=hcc 1 (by decide);simp only[Ob.cells,Nat.add_zero,List.getElem?_cons_zero,List.getElem?_cons_succ] at z0 z1;have y0:=qa R03.o 0;have y1:=qa R13.o 0;simp at y0 y1;have yl0:=qe R03.o;have yl1:=qe R13.o;have hb5':b5 < W3.heap.size:=by omega
 have HOB:=qd hob;clear e3 o3 g3 DL hob hcc CL;obtain⟨res,hres0⟩:∃res,jQ lev (os.map (·.init)) A c=res:=⟨_,rfl⟩
 have HR0:=qd hres0;have hres:zH A c ((uc A T c).length+1) (uc A T c) [ob.init]=res:=by
  rw[←hres0];unfold jQ;rw[HT.o];have:(os.map (·.init)).getD ((c:Int)).toNat 0=ob.init:=by
   rw[Int.toNat_natCast,List.getD_eq_getElem?_getD,List.getElem?_map,HOB.o];rfl
  rw[this]
 have HRES:=qd hres;have lt4:yF ((W3.alloc (.cells #[.int .i64 ob.init] 3)).alloc (.cells #[.slice (some ⟨W3.heap.size,0,none⟩) 1 1] 30)) W3.heap.size (.slice (some ⟨W3.heap.size,0,none⟩) 1 1) [ob.init]:=by
  have:=qj.lit (f:=jF) (e:=3) (sz:=1) W3 W3.heap.size (Nat.le_refl _) [ob.init] (fun _=>rfl) (by simp);exact qj.alloc (by simpa[jF] using this) _
 have rt4:=qs (W3.alloc (.cells #[.int .i64 ob.init] 3)) (.cells #[.slice (some ⟨W3.heap.size,0,none⟩) 1 1] 30);simp only[World.size_alloc] at rt4;have b4:Below W3.heap.size W3 ((W3.alloc (.cells #[.int .i64 ob.init] 3)).alloc (.cells #[.slice (some ⟨W3.heap.size,0,none⟩) 1 1] 30)):=((Below.refl _ W3).alloc (Nat.le_refl _) _).alloc (by simp) _;have LT4:=qd lt4;have RT4:=qd rt4;have O4:=qd (qj.below O3.o b4);have hz13:W1.heap.size<=W3.heap.size:=B3.o.size;have B4:=qd (B3.o.trans (b4.mono hz13));have hlv:(uc A T c).length<=200:=by
  rw[Zw];exact Nat.le_trans (List.length_filter_le _ _) (by simp;exact hal)
 have HLV:=qd (show ∀i ∈ uc A T c,i < ms.length from fun i hi=>by rw[Zw] at hi;have:=List.mem_range.1 (List.mem_filter.1 hi).1;rw[HML.o];exact this);clear hres0 hres lt4 rt4 b4;go_wp2_with fail;generalize (W3.alloc (.cells #[.int .i64 ob.init] 3)).alloc (.cells #[.slice (some ⟨W3.heap.size,0,none⟩) 1 1] 30)=W4 at *;clear y0 y1 z0 z1 yq yql
 go_loopw [11] (fun p wr=>∃(L:List Nat) (O:List Int) (vo:Value) (n:Nat),qj xz.cells 133 1 wr W1.heap.size p (UU ms L)/\(∀i ∈ L,i < ms.length)/\L.length<=n/\O.length+L.length<=201/\0 < O.length/\wr.heap[W3.heap.size+1]?=some (.cells #[vo] 30 (0,0))/\yF wr W3.heap.size vo O/\zH A c (n+1) L O=res/\Below W1.heap.size W1 wr)
  (fun p _=>match p with|.slice _ n _=>n|_=>0)
 case atStart=>exact⟨_,[ob.init],_,_,O4.o,HLV.o,Nat.le_refl _,by simp;omega,by simp,RT4.o,LT4.o,HRES.o,B4.o⟩
 case round=>
  obtain⟨L,O,vo,n,hp,hL,hn,hOL,hO0,hT,hvo,hres,hB⟩:=hrel;obtain⟨a5,c5,e5⟩:=qj.sli hp;subst e5;obtain⟨a6,c6,e6⟩:=qj.sli hvo;subst e6;have hlen:(UU ms L).length=L.length:=Xq hL;obtain⟨m5,hm5⟩:∃m,(UU ms L).length=m:=⟨_,rfl⟩
  have hwz:=hB.size;have HP:=qd hp;have HL:=qd hL;have HLEN:=qd hlen;have HM5:=qd hm5;have HT':=qd hT;have HVO:=qd hvo;have HRS:=qd hres;have HB:=qd hB;have yt:=qa hT 0;simp at yt;have ytl:=qe hT;have hm5l:m5<=201:=by rw[←hm5,hlen];omega
  have hOl:O.length<=201:=by omega
  have yl1':w.heap.size+1 < W1.heap.size:=by omega
  rw[hm5] at hp ⊢;by_cases hne:L=[]
  ·have hm0:m5=0:=by rw[←hm5,hlen,hne];rfl
   subst hm0;have HE:=qd (show res=(O,true) by rw[←hres,hne,MB]);have BZ:=qd (B1.o.trans (hB.mono (by omega)));have hz9:w.heap.size<=W3.heap.size:=by omega
   clear hp hL hlen hm5 hT hvo hres hB;go_wp2_with fail;refine bodyPost_ret (v:=.tuple #[.slice a6 O.length c6,.bool true,.nilIface]) (by simp[results,Tryz.results20,go_sem]) rfl ⟨_,_,rfl,?_,?_,BZ.o⟩
   ·rw [HR0.o,HE.o];exact qj.base HVO.o hz9
   ·rw [HR0.o,HE.o]
  ·have hmp:0 < m5:=by rw[←hm5,hlen];exact List.length_pos_iff.2 hne
   have hq5:decide ((0:Int) < (m5:Int))=true:=by simp;omega
   have HNE:=qd hne;have CL:=qd (Wi wr HP.o (by rw[HM5.o];omega));rw[hm5] at CL;clear hp hL hlen hm5 hT hvo hres hB hne;go_wp2_with fail;refine CL.o.mono ?_;rintro e w5 ⟨v5,rfl,o5,b5⟩;have hz5:=b5.size;have B5:=qd (HB.o.trans (b5.mono hwz));have F5:=qd (F1.o.below B5.o (Nat.le_refl _) (Nat.le_refl _));have R5:=qd (qh R1.o B5.o yl1');have T5:=qd (qh HT'.o b5 ytl);have V5:=qd (qj.below HVO.o b5);have L5:=qd (qj.below HP.o b5);have P2:=qd (pred_2 F5.o B5.o.size HD.o.mv HDO.o R5.o T5.o V5.o hO0 (by omega) o5 hwz (by omega) ytl (fun k hk=>(qj.lt HVO.o k hk).2) fun m hm=>by obtain⟨i,-,h⟩:=Rs hm;exact⟨i,h⟩);have DL:=qd (XS w5 o5 (by rw[HM5.o];omega) (enters_of Tryz.func53 (by kernel_rfl) rfl) P2.o);have O5:=qd o5;have BB5:=qd b5;obtain⟨a7,c7,e7⟩:=qj.sli o5;rw[HM5.o] at e7;subst e7;clear o5 b5 P2;go_wp2_with fail;refine DL.o.mono ?_;rintro e w6 ⟨v6,rfl,o6,g6⟩;have hz6:=g6.size;have e6:=uZ (q:=fun i=>!isR A c (O.getLastD 0) i) F5.o.inj HL.o;rw[←Zo] at e6;obtain⟨N,hN⟩:∃N,Zp A c (O.getLastD 0) L=N:=⟨_,rfl⟩
   rw[hN] at e6;have O6:=qd (show qj xz.cells 133 1 w6 wr.heap.size v6 (UU ms N) by rw[←e6];exact o6);have hNL:∀i ∈ N,i < ms.length/\i ∈ L:=fun i hi=>by
    rw[←hN,Zo] at hi;have:=(List.mem_filter.1 hi).1;exact⟨HL.o i this,this⟩
   have HN:=qd hN;have HNL:=qd hNL;have hN6:(UU ms N).length=N.length:=Xq fun i hi=>(hNL i hi).1;obtain⟨a8,c8,e8⟩:=qj.sli o6;rw[e6,hN6] at e8;subst e8;have B6:=qd ((BB5.o.trans (g6.below (B:=wr.heap.size) hz5 fun k hk=>(qj.lt O5.o k hk).1)));obtain⟨k6,hk6⟩:∃k,N.length=k:=⟨_,rfl⟩
   have T6:=qd (qh HT'.o B6.o ytl);have V6:=qd (qj.below HVO.o B6.o);have L6:=qd (qj.below HP.o B6.o);have y6:=qa T6.o 0;simp at y6;have y6l:=qe T6.o;have hk6l:k6<=201:=by
    rw[←hk6,←hN,Zo];exact Nat.le_trans (List.length_filter_le _ _) (by omega)
   rw[hk6];have HK6:=qd hk6;clear o6 g6 e6 hN hNL hN6 hk6 DL CL yt;by_cases h1:k6=1
   ·subst h1
    obtain⟨j,rfl⟩:=List.length_eq_one_iff.1 HK6.o;have hjl:j < ms.length:=(HNL.o j (by simp)).1;have HJL:=qd (HNL.o j (by simp)).2;have hmj:UU ms [j]=[ms[j]]:=Xr (L:=[]) hjl;obtain⟨mj,hmj2⟩:∃m,ms[j]=m:=⟨_,rfl⟩
    have HMJ:=qd (show ms[j]?=some mj by rw[List.getElem?_eq_getElem hjl,hmj2]);have o6:=O6.o;rw[hmj,hmj2] at o6;have B7:=qd (B6.o.alloc B6.o.size (.cells #[.slice a8 1 c8] 131));have O7:=qd (qj.alloc o6 (.cells #[.slice a8 1 c8] 131));have N7:=qd (qs w6 (.cells #[.slice a8 1 c8] 131));have T7:=qd (qy (o:=.cells #[.slice a8 1 c8] 131) T6.o);have V7:=qd (qj.alloc V6.o (.cells #[.slice a8 1 c8] 131));have L7:=qd (qj.alloc L6.o (.cells #[.slice a8 1 c8] 131));have hz7:w6.heap.size < (w6.alloc (.cells #[.slice a8 1 c8] 131)).heap.size:=by simp
    clear o6 hmj hmj2 y6 y6l;go_wp2_with fail;generalize w6.alloc (.cells #[.slice a8 1 c8] 131)=w7 at *;have F7:=qd (F1.o.below (HB.o.trans (B7.o.mono hwz)) (Nat.le_refl _) (Nat.le_refl _));have R7:=qd (qh R1.o (HB.o.trans (B7.o.mono hwz)) yl1');obtain⟨b8,o8,m8,h81,h82,h83,h84⟩:=(qj.sl O7.o).atF xz.len rfl (k:=0) (by simp);subst h81;simp at h83;subst h83;have c0:=h84 0 (by decide);simp only[xz.cells,Nat.add_zero,Nat.zero_mul,List.getElem?_cons_zero,xE] at c0;obtain⟨m9,s,g91,g92,q9⟩:=F7.o.get (k:=j) (by rw[←HML.o];exact hjl);rw[HMJ.o] at g91;obtain rfl:=Option.some.inj g91;have ym:=qa q9.row 8;simp at ym;have yml:=qe q9.row;have hwl:=q9.wr.lt;have LK:=qd (show ∀X:World,X.heap[mj.wm]?=w7.heap[mj.wm]?->(Instr.lookup 138 (.map (some mj.wm)) (.int .i64 (c:Int)) false).run Tryz.prog X=.ok (.int .i64 ((fnd (c:Int) (zb s)).getD 0)) X from fun X hX=>Ru (q9.wr.obj hX) (HD.o.mv s (List.mem_of_getElem? g92)).2 HDO.o);have HWV:=qd (wrV_eq (o:=(c:Int)) g92);have yo:=qa R7.o 0;have yt:=qa T7.o 0;have yn:=qa N7.o 0;simp at yo yt yn;have yol:=qe R7.o;have ytl7:=qe T7.o;have ynl:=qe N7.o;have ytf:=qt T7.o 0;have h82':b8 < w7.heap.size:=h82;clear h84 q9 g91 g92 h82;obtain⟨gw,hgw⟩:∃gw,(fnd (c:Int) (zb s)).getD 0=gw:=⟨_,rfl⟩
    rw[hgw] at LK HWV;clear hgw;refine up [1,1,0,1,0,0,1,1,1,3,2,2] [0,1,2,3,4,5,6,7,8,9,10,11] (by kernel_rfl) ?_;simp only[qJ,qu,sD,sE,sF,sG]
    repeat first|(refine qq fun K hK=>?_;go_simp;refine hK _ _ ?_;clear hK K)|(apply qx;(intro w2 hw2;have hk1:=hw2.cell;have hk3:=hw2.heap;clear hw2;go_simp;with_reducible rfl);simp only[Act.put,sA,sB,sC])|refine qz rfl rfl ?_|(refine qE rfl rfl fun K hK=>?_;simp only[Act.put,sA,sB,sC];refine hK _ _ ?_;clear hK K)|refine qm ?_
    refine xO (fun K hK=>?_);refine⟨.int .i64 gw,fun w2 hw2=>?_,?_⟩
    ·have lk:=LK.o w2 (hw2.heap mj.wm (show w7.heap[mj.wm]?.isSome=true by rw[Array.getElem?_eq_getElem hwl];rfl))
     go_simp
    refine hK _ _ ?_;clear hK K;refine qC (fun K hK=>?_);go_simp;refine hK _ _ (jg.alloc _ _) ?_;clear hK K;refine qF (fun K' hK=>?_);rw[ZS];refine QY _ _ _ rfl _ 8 Tryz.underlying30 Yt rfl V7.o.drew gw (by first|omega|(simp <;> omega)) (by rfl) (by rfl) (by first|rfl|simp) rfl (QT _) (by first|omega|(simp only[List.length_append,List.length_cons,List.length_nil,List.length_replicate];omega)) (by first|omega|(simp only[List.length_append,List.length_cons,List.length_nil,List.length_replicate];omega)) ?_;intro g9 c9 w8 o8' G8;have hne:=qj.neT V7.o T7.o (by decide);have rt8:=qS (zS T7.o) G8 hne;have hne8:=qj.neT o8' rt8 (by decide);have T9:=qd (qn rt8 0 (.slice (some ⟨g9,0,none⟩) (O.length+1) c9));have V9:=qd (qj.other (j:=0) o8' hne8 (.slice (some ⟨g9,0,none⟩) (O.length+1) c9));have B9:=qd ((((Below.refl W3.heap.size w7).drew.trans (G8.below (B:=W3.heap.size) (by exact Nat.le_of_lt (Nat.lt_of_succ_lt ytl7)) fun j hj=>(qj.lt V7.o j hj).1)).setCell (p:=⟨W3.heap.size+1,0,none⟩) (show W3.heap.size<=W3.heap.size+1 by omega) (.slice (some ⟨g9,0,none⟩) (O.length+1) c9)));have neL:∀k,(Value.slice a5 m5 c5).ownBlock=some k->(Value.slice a6 O.length c6).ownBlock≠some k:=fun k hk=>by
     obtain⟨cs,hcs⟩:=qj.keepObj L7.o k (by rw[HM5.o];exact hk);exact qj.neT V7.o hcs (by decide)
    have neN:∀k,(Value.slice (some ⟨b8,o8,none⟩) 1 c8).ownBlock=some k->(Value.slice a6 O.length c6).ownBlock≠some k:=fun k hk=>by
     obtain⟨cs,hcs⟩:=qj.keepObj O7.o k hk;exact qj.neT V7.o hcs (by decide)
    have l8:=qj.grw (qj.drew L7.o) G8 (by rw[HM5.o];exact neL);have n8:=qj.grw (qj.drew O7.o) G8 neN;have L9:=qd (qj.other (j:=0) l8 (qj.neT l8 rt8 (by decide)) (.slice (some ⟨g9,0,none⟩) (O.length+1) c9));have O9:=qd (qj.other (j:=0) n8 (qj.neT n8 rt8 (by decide)) (.slice (some ⟨g9,0,none⟩) (O.length+1) c9));have rn8:=qS (zS N7.o) G8 (qj.neT V7.o N7.o (by decide));have N9:=qd (qI rn8 (show W3.heap.size+1≠w6.heap.size by omega) (j:=0) (v:=.slice (some ⟨g9,0,none⟩) (O.length+1) c9));have y8l:=qe rt8;have y8:=qa rt8 0;simp at y8;have y8f:=qt rt8 0;clear rt8 o8' G8 hne hne8 neL neN l8 n8 rn8 ym yml yo yt yn yol ytl7 ynl ytf c0;refine hK _ _ ?_;clear hK K'
    repeat first|(refine qq fun K hK=>?_;go_simp;refine hK _ _ ?_;clear hK K)|(apply qx;(intro w2 hw2;have hk1:=hw2.cell;have hk3:=hw2.heap;clear hw2;go_simp;with_reducible rfl);simp only[Act.put,sA,sB,sC])|refine qz rfl rfl ?_|(refine qE rfl rfl fun K hK=>?_;simp only[Act.put,sA,sB,sC];refine hK _ _ ?_;clear hK K)|refine qm ?_
    refine qF (fun K' hK=>?_);go_simp;refine hK _ _ ?_;clear hK K'
    repeat first|(refine qq fun K hK=>?_;go_simp;refine hK _ _ ?_;clear hK K)|(apply qx;(intro w2 hw2;have hk1:=hw2.cell;have hk3:=hw2.heap;clear hw2;go_simp;with_reducible rfl);simp only[Act.put,sA,sB,sC])|refine qz rfl rfl ?_|(refine qE rfl rfl fun K hK=>?_;simp only[Act.put,sA,sB,sC];refine hK _ _ ?_;clear hK K)|refine qm ?_
    go_wp2_with fail;generalize w8.setCell ⟨W3.heap.size+1,0,none⟩ (.slice (some ⟨g9,0,none⟩) (O.length+1) c9)=w9 at *;have BF:=qd ((HB.o.trans (B7.o.mono hwz)).trans (B9.o.mono hz13));have F9:=qd (F1.o.below BF.o (Nat.le_refl _) (Nat.le_refl _));have hw79:=B9.o.size;have hw67:=B7.o.size;have L9':=qd (show qj xz.cells 133 1 w9 W1.heap.size (.slice a5 m5 c5) (UU ms L) by have:=L9.o;rw[HM5.o] at this;exact this);have hlo:∀k,(Value.slice a5 m5 c5).ownBlock=some k->k < wr.heap.size:=fun k hk=>(qj.lt HP.o k (by rw[HM5.o];exact hk)).2;have hr6:wr.heap.size<=w6.heap.size:=by have:=BB5.o.size;omega
    have P3:=qd (pred_3 F9.o BF.o.size HMJ.o N9.o O9.o L9'.o (Nat.le_refl _) (fun e=>by have:=hlo _ e;omega) hlo fun m hm=>by obtain⟨i,-,h⟩:=Rs hm;exact⟨i,h⟩);have DL:=qd (XS w9 L9'.o (by rw[HM5.o];omega) (enters_of Tryz.func54 (by kernel_rfl) rfl) P3.o);clear P3;refine DL.o.mono ?_;rintro e w10 ⟨v10,rfl,o10,g10⟩;have e10:=uZ (q:=fun i=>decide (i=j)) F9.o.inj HL.o;rw[e10] at o10;obtain⟨a10,c10,e11⟩:=qj.sli o10;have hL':∀i ∈ L.filter (fun i=>!decide (i=j)),i < ms.length:=fun i hi=>HL.o i (List.mem_filter.1 hi).1;rw[Xq hL'] at e11;subst e11;have hlt:(L.filter fun i=>!decide (i=j)).length < L.length:=by
     refine List.length_filter_lt_length_iff_exists.2 ⟨j,HJL.o,by simp⟩
    obtain⟨n',rfl⟩:∃n',n=n'+1:=⟨n - 1,by omega⟩
    have HRS':=qd (show zH A c (n'+1) (L.filter fun i=>!decide (i=j)) (O++[gw])=res by rw[←HRS.o,MA HNE.o HN.o,HWV.o]);have B10:=qd (BF.o.trans (g10.below BF.o.size fun k hk=>(qj.lt L9'.o k hk).1));have T10:=qd (qS T9.o g10 (qj.neT L9'.o T9.o (by decide)));have V10:=qd (qj.grwT V9.o L9'.o (by decide) g10);have O10:=qd o10;have hml':L.length=m5:=by rw[←HLEN.o,HM5.o]
    have HLM:=qd hml';clear o10 g10 DL e10 hml';go_wp2_with fail;go_roundw
    case rel=>exact⟨_,O++[gw],_,n',O10.o,hL',by omega,by simp;omega,by simp,by simpa using T10.o,by simpa using V10.o,HRS'.o,B10.o⟩
    case measure=>have:=HLM.o;simp only;omega
   ·have hq6:((k6:Int) !=1)=true:=by simp;omega
    have HE:=qd (show res=(O,false) by rw[←HRS.o,vers_no HNE.o (by rw[HN.o,HK6.o];exact h1)]);have BZ:=qd (B1.o.trans ((HB.o.trans (B6.o.mono hwz)).mono (by omega)));have hz9:w.heap.size<=W3.heap.size:=by omega
    clear h1;go_wp2_with fail;refine bodyPost_ret (v:=.tuple #[.slice a6 O.length c6,.bool false,.nilIface]) (by simp[results,Tryz.results20,go_sem]) rfl ⟨_,_,rfl,?_,?_,BZ.o.alloc BZ.o.size _⟩
    ·rw [HR0.o,HE.o];exact qj.alloc (qj.base V6.o hz9) _
    ·rw [HR0.o,HE.o]
end
end
section
attribute [local irreducible] xL
structure GlF (w:World):Prop where
 wd:xg w
 er:jn w
 pr:jh w 6
theorem GlF.below {w w':World} (h:GlF w) (hb:Below w.heap.size w w'):GlF w':=⟨h.wd.below hb,h.er.below hb,h.pr.below hb⟩
theorem NI (ov vv:Value) (os:List Ob) (es:List Ev) (w:World) (ho:Sl w w.heap.size 2 ov os.length (os.flatMap Ob.cells)) (he:Sl w w.heap.size 8 vv es.length (es.flatMap Ev.cells)):
  Calls Tryz.prog 8 #[.agg #[ov,vv]] w fun e w'=>e=.returned (.bool (decide (os.length<=100)&&decide (es.length<=120)))/\Below w.heap.size w w':=by
 obtain⟨ao,co,rfl,mo⟩:=ho.ex;obtain⟨ae,ce,rfl,me⟩:=he.ex;have b0:Below w.heap.size w (w.alloc (.cells #[.slice ao os.length co,.slice ae es.length ce] 25)):=(Below.refl _ w).alloc (Nat.le_refl _) _;have B0:=qd b0;clear ho he b0;by_cases h1:os.length<=100
 ·have q1:decide ((os.length:Int)<=100)=true:=by simp;omega
  by_cases h2:es.length<=120
  ·have q2:decide ((es.length:Int)<=120)=true:=by simp;omega
   have hR:(decide (os.length<=100)&&decide (es.length<=120))=true:=by simp[h1,h2]
   rw[hR];clear h1 h2 hR;go_enter Tryz.func8,Tryz.ntmps8;go_wp2;go_ret;exact⟨rfl,B0.o⟩
  ·have q2:decide ((es.length:Int)<=120)=false:=by simp;omega
   have hR:(decide (os.length<=100)&&decide (es.length<=120))=false:=by simp[h2]
   rw[hR];clear h1 h2 hR;go_enter Tryz.func8,Tryz.ntmps8;go_wp2;go_ret;exact⟨rfl,B0.o⟩
 ·have q1:decide ((os.length:Int)<=100)=false:=by simp;omega
  have hR:(decide (os.length<=100)&&decide (es.length<=120))=false:=by simp[h1]
  rw[hR];clear h1 hR;go_enter Tryz.func8,Tryz.ntmps8;go_wp2;go_ret;exact⟨rfl,B0.o⟩
theorem ex_hist:xJ [⟨1,0⟩] ZN=true:=by decide+kernel
theorem RG:ye [] 0 (ZN.take 13)=some (um 13)/\ye [] 0 (ZN.take 14)=some (um 14):=by
 have h1:=ex_run 13 (by decide);have h2:=ex_run 14 (by decide);unfold um;exact⟨by cases e:ye [] 0 (ZN.take 13) with|none=>rw[e] at h1;cases h1|some A=>rfl,by cases e:ye [] 0 (ZN.take 14) with|none=>rw[e] at h2;cases h2|some A=>rfl⟩
theorem ex_histE:xJ [⟨1,0⟩] KP=true:=by decide+kernel
theorem WF:qU [⟨1,0⟩] [] (um 13)=true/\qU [⟨1,0⟩] [] (um 14)=true:=by decide+kernel
theorem Yc:xQ [⟨1,0⟩] (qN [⟨1,0⟩] KP)=some (um 13):=by
 unfold qN;rw[if_pos ex_histE,←exK_take,RG.1];unfold xQ;simp only;rw[if_pos WF.1]
theorem exK_all:ZN.take 14=ZN:=rfl
theorem NV:xQ [⟨1,0⟩] (qN [⟨1,0⟩] ZN)=some (um 14):=by
 unfold qN;rw[if_pos ex_hist,←exK_all,RG.2];unfold xQ;simp only;rw[if_pos WF.2]
theorem ex_pre {i:Nat} {a:WW} (h:QE [⟨1,0⟩] ZN i a):∃A,A=um i/\yB 3 [0] A a:=by
 obtain⟨A,h1,h2⟩:=h;have h3:=(yh (qW h1).1).2.2.2;have:um i=A:=by unfold um;rw[h3];rfl
 exact⟨A,this.symm,h2⟩
theorem ex_ids:((um 13).map (·.id)).Nodup:=by decide+kernel
theorem WE:zR (um 13) (qT 1 (um 13)) (um 13).length=[1]:=by decide+kernel
theorem ex_len:(um 13).length=2:=by decide+kernel
theorem RI:∀o ∈ ([⟨1,0⟩]:List Ob),dI o.kind:=fun o ho=>by
 simp at ho;subst ho;exact Qm ⟨by decide,by decide⟩
theorem ex_dE:∀e ∈ KP,dI e.ret:=fun e he=>Qm ((by decide+kernel:∀e ∈ KP,-1000000000<=e.ret/\e.ret<=1000000000) e he)
theorem ex_dK:∀e ∈ ZN,dI e.ret:=fun e he=>Qm ((by decide+kernel:∀e ∈ ZN,-1000000000<=e.ret/\e.ret<=1000000000) e he)
theorem QG {w:World} {B n:Nat} {v:Value} {l:List Int} (h:yF w B v l) (hn:l.length=n):Sl w w.heap.size 1 v n (l.map (.int .i64)):=by
 subst hn;rw[←vV];exact qj.sl h
theorem exK_len:ZN.length=14:=rfl
theorem RH {a:WW} (hp:QE [⟨1,0⟩] ZN 14 a):a.kind=3/\a.cyc=[1,2]:=by
 obtain⟨A,hA,h⟩:=ex_pre hp;rw[hA] at h;exact ex_judge h
theorem ex_yes14 {j:Nat} {a:WW} (h:j < 14) (hp:QE [⟨1,0⟩] ZN j a):a.kind=1:=by
 obtain⟨A,hA,hj⟩:=ex_pre hp;rw[hA] at hj;exact Vn h hj
theorem ex_j4 {w w':World} {e:Ending} (hr:(∃va,e=.returned (.tuple #[.agg #[.int .i64 1,.slice none 0 0,va,.int .i64 0,.int .i64 0,.int .i64 0,.slice none 0 0],.nilIface])/\(∃a n c,va=.slice a n c)/\∀j,j<=ZN.length->∃a,QE [⟨1,0⟩] ZN j a/\a.kind=1)\/
  ∃(j:Nat) (a:WW) (vs vc:Value),j<=ZN.length/\QE [⟨1,0⟩] ZN j a/\a.kind≠1/\e=.returned (.tuple #[uR {a with pre:=j} vs vc,.nilIface])/\UE w' w.heap.size vs vc a):
  ∃(a2:WW) (vs vc:Value),a2.kind=3/\a2.cyc=[1,2]/\e=.returned (.tuple #[uR {a2 with pre:=14} vs vc,.nilIface])/\UE w' w.heap.size vs vc a2:=by
 rw[exK_len] at hr;rcases hr with⟨va,-,-,hall⟩|⟨j,a2,vs,vc,hj,hp,hk,he,hA⟩
 ·obtain ⟨a2,hp,hk⟩:=hall 14 (Nat.le_refl _)
  have:=(RH hp).1;omega
 ·by_cases h:j < 14
  ·exact absurd (ex_yes14 h hp) hk
  ·obtain rfl:j=14:=by omega
   have:=RH hp;exact⟨a2,vs,vc,this.1,this.2,he,hA⟩
theorem NJ (w:World) (hG:GlF w):Calls Tryz.prog 7 #[] w fun e w'=>e=.returned (.bool true)/\Below w.heap.size w w':=by
 have HG:=qd hG;clear hG;go_enter Tryz.func7,Tryz.ntmps7;go_wp2_with fail;refine(Ng _).mono ?_;rintro e W1 ⟨ov,vv,rfl,ho,hv,b1⟩;obtain⟨ao,co,e1⟩:∃a c,ov=.slice a 1 c:=qj.sli ho;obtain⟨av,cv,e2⟩:∃a c,vv=.slice a 13 c:=qj.sli hv;subst e1 e2;have b2:Below w.heap.size w ((W1.alloc (.cells #[.slice ao 1 co,.slice av 13 cv] 25)).alloc (.cells #[.slice ao 1 co,.slice av 13 cv] 25)):=(b1.alloc b1.size _).alloc (by have:=b1.size;simp;omega) _;have r1:=qy (o:=.cells #[.slice ao 1 co,.slice av 13 cv] 25) (qs W1 (.cells #[.slice ao 1 co,.slice av 13 cv] 25));have r2:=qs (W1.alloc (.cells #[.slice ao 1 co,.slice av 13 cv] 25)) (.cells #[.slice ao 1 co,.slice av 13 cv] 25);have ho2:=qj.alloc (qj.alloc ho (.cells #[.slice ao 1 co,.slice av 13 cv] 25)) (.cells #[.slice ao 1 co,.slice av 13 cv] 25);have hv2:=qj.alloc (qj.alloc hv (.cells #[.slice ao 1 co,.slice av 13 cv] 25)) (.cells #[.slice ao 1 co,.slice av 13 cv] 25);simp only[World.size_alloc] at r2;have B2:=qd b2;have R1:=qd r1;have R2:=qd r2;have O2:=qd ho2;have V2:=qd hv2;have hz1:w.heap.size<=W1.heap.size:=b1.size;clear ho hv b1 b2 r1 r2 ho2 hv2;go_wp2_with fail;generalize (W1.alloc (.cells #[.slice ao 1 co,.slice av 13 cv] 25)).alloc (.cells #[.slice ao 1 co,.slice av 13 cv] 25)=W2 at *;have h12:=qe R2.o;refine(MD _ KP _ (qj.sl V2.o) (by decide)).mono ?_;rintro e W3 ⟨u3,rfl,o3,b3⟩;obtain⟨a3,c3,e3⟩:∃a c,u3=.slice a 13 c:=qj.sli o3;subst e3;have hz2:=B2.o.size;have B3:=qd (B2.o.trans (b3.mono hz2));have R1:=qd (qh R1.o b3 (qe R1.o));have R2:=qd (qh R2.o b3 (qe R2.o));have O2:=qd (qj.below O2.o b3);have VLT:=qd (fun k hk=>(qj.lt V2.o k hk).2);have V2:=qd (qj.below V2.o b3);have hz3:=b3.size;have h12:W1.heap.size+1 < W2.heap.size:=h12;have O3:=qd o3;have hxl:KP.length<=13:=Nat.le_refl _;clear o3 b3;go_wp2_with (at_builtin;refine qM rfl _ _ _ rfl _ 64 Tryz.underlying23 ud rfl O3.o ⟨5,2,0,0,0,0,0,0⟩ hz3 (by rfl) (by rfl) (by first|rfl|simp) rfl (ug _) (by first|omega|(simp only[List.length_append,List.length_cons,List.length_nil,List.length_replicate];omega)) (by first|omega|(simp only[List.length_append,List.length_cons,List.length_nil,List.length_replicate];omega)) ?_;refine qH.halt ?_)
 refine qH.go ?_;intro g4 c4 W4 o4 G4;have hx14:KP.length+1=14:=rfl;rw[hx14] at o4 G4 ⊢;clear hx14 hxl;have hw3:w.heap.size<=W3.heap.size:=by omega
 have K4:=qd (show qj Ev.cells 69 8 W4 w.heap.size (.slice (some ⟨g4,0,none⟩) 14 c4) ZN from qj.base o4 (by omega));have B4:=qd (B3.o.trans (G4.below hw3 fun k hk=>by have:=(qj.lt O3.o k hk).1;omega));have R1:=qd (qS R1.o G4 (qj.neT O3.o R1.o (by decide)));have R2:=qd (qS R2.o G4 (qj.neT O3.o R2.o (by decide)));have O4:=qd (qj.grwT O2.o O3.o (by decide) G4);have V4:=qd (qj.grw V2.o G4 fun k hk e=>by
  have h1:=(qj.lt O3.o k e).1;have h2:=VLT.o k hk;omega)
 have l2:=qe R2.o;have f2:=qt R2.o 1;have y2:=qa R2.o;have y20:=y2 0;have y21:=y2 1;have y1:=qa R1.o;have y10:=y1 0;have y11:=y1 1;simp at y20 y21 y10 y11;have l1:=qe R1.o;have R25:=qd (qn R2.o 1 (.slice (some ⟨g4,0,none⟩) 14 c4));have R15:=qd (qI R1.o (show W1.heap.size+1≠W1.heap.size by omega) (j:=1) (v:=(.slice (some ⟨g4,0,none⟩) 14 c4)));have O5:=qd (qj.other (j:=1) O4.o (qj.neT O4.o R2.o (by decide)) (.slice (some ⟨g4,0,none⟩) 14 c4));have V5:=qd (qj.other (j:=1) V4.o (qj.neT V4.o R2.o (by decide)) (.slice (some ⟨g4,0,none⟩) 14 c4));have K5:=qd (qj.other (j:=1) K4.o (qj.neT K4.o R2.o (by decide)) (.slice (some ⟨g4,0,none⟩) 14 c4));have B5:=qd (B4.o.setCell (p:=⟨W1.heap.size+1,1,none⟩) (show w.heap.size<=W1.heap.size+1 by omega) (.slice (some ⟨g4,0,none⟩) 14 c4));clear o4 G4 y2 y1 R1 R2 O4 V4 K4 B4 VLT O2 V2 O3;go_wp2_with fail;generalize W4.setCell ⟨W1.heap.size+1,1,none⟩ (.slice (some ⟨g4,0,none⟩) 14 c4)=W5 at *;have R2:=qd (show W5.heap[W1.heap.size+1]?=some (.cells #[.slice ao 1 co,.slice (some ⟨g4,0,none⟩) 14 c4] 25 (0,0)) by simpa using R25.o);have R1:=R15;clear R25 R15 y20 y21 y10 y11 l1 l2 f2;have HE5:vI W5 (.slice ao 1 co) (.slice av 13 cv) [⟨1,0⟩] KP:=⟨qj.sl O5.o,qj.sl V5.o,RI,ex_dE,HG.o.wd.below B5.o,HG.o.er.below B5.o,HG.o.pr.below B5.o⟩
 refine(WD HE5.toT Yc (.inr (.inr rfl)) (by rw[ex_len];omega) ex_ids).mono ?_;rintro e W6 ⟨a,vs,vc,rfl,hJ,hA,b6⟩;obtain⟨hk1,hst⟩:=KO hJ;have hS:=hA.1;rw[hst] at hS;obtain⟨aS,cS,e1⟩:∃x y,vs=.slice x 2 y:=qj.sli hS;obtain⟨aC,cC,e2⟩:=qj.sli hA.2;subst e1 e2;have B6:=qd (B5.o.trans (b6.mono B5.o.size));have S6:=qd (qj.base hS B5.o.size);clear hA hS hJ hst HE5;have R1:=qd (qh R1.o b6 (qe R1.o));have R2:=qd (qh R2.o b6 (qe R2.o));have O5:=qd (qj.below O5.o b6);have V5:=qd (qj.below V5.o b6);have K5:=qd (qj.below K5.o b6);clear b6;have y1:=qa R2.o 0;have y2:=qa R2.o 1;simp at y1 y2;have l2:=qe R2.o;unfold uR;rw[hk1];go_wp2_with fail;have b7:Below W6.heap.size W6 (W6.alloc (.cells #[.int .i64 1,.slice aS 2 cS,.slice none 0 0,.int .i64 a.pre,.int .i64 a.tx,.int .i64 a.deed,.slice aC a.cyc.length cC] 32)):=(Below.refl _ W6).alloc (Nat.le_refl _) _;have R3:=qd (qs W6 (.cells #[.int .i64 1,.slice aS 2 cS,.slice none 0 0,.int .i64 a.pre,.int .i64 a.tx,.int .i64 a.deed,.slice aC a.cyc.length cC] 32));have B7:=qd (B6.o.trans (b7.mono B6.o.size));have S6:=qd (qj.below S6.o b7);have R1:=qd (qh R1.o b7 (qe R1.o));have R2:=qd (qh R2.o b7 (qe R2.o));have O5:=qd (qj.below O5.o b7);have V5:=qd (qj.below V5.o b7);have K5:=qd (qj.below K5.o b7);clear b7 y1 y2 l2;generalize W6.alloc (.cells #[.int .i64 1,.slice aS 2 cS,.slice none 0 0,.int .i64 a.pre,.int .i64 a.tx,.int .i64 a.deed,.slice aC a.cyc.length cC] 32)=W7 at *;have HK7:vI W7 (.slice ao 1 co) (.slice (some ⟨g4,0,none⟩) 14 c4) [⟨1,0⟩] ZN:=⟨qj.sl O5.o,qj.sl K5.o,RI,ex_dK,HG.o.wd.below B7.o,HG.o.er.below B7.o,HG.o.pr.below B7.o⟩
 refine(f_Judge4 HK7 NV (by decide)).mono ?_;rintro e W8 ⟨hr,b8⟩;obtain⟨a2,vs,vc,hk3,hcy,rfl,hA⟩:=ex_j4 hr;have hC:=hA.2;rw[hcy] at hC;obtain⟨aS2,cS2,e1⟩:=qj.sli hA.1;obtain⟨aC2,cC2,e2⟩:∃x y,vc=.slice x 2 y:=qj.sli hC;subst e1 e2;have hz7:=B7.o.size;have B8:=qd (B7.o.trans (b8.mono hz7));have C8:=qd (qj.base hC hz7);clear hA hC hr HK7 hcy;have R1:=qd (qh R1.o b8 (qe R1.o));have R2:=qd (qh R2.o b8 (qe R2.o));have R3:=qd (qh R3.o b8 (qe R3.o));have O5:=qd (qj.below O5.o b8);have V5:=qd (qj.below V5.o b8);have K5:=qd (qj.below K5.o b8);have S6:=qd (qj.below S6.o b8);clear b8;have y1:=qa R1.o;have y10:=y1 0;have y11:=y1 1;simp at y10 y11;have l1:=qe R1.o;unfold uR;simp only[hk3];go_wp2_with fail;have b9:Below W8.heap.size W8 (W8.alloc (.cells #[.int .i64 3,.slice aS2 a2.steps.length cS2,.slice none 0 0,.int .i64 14,.int .i64 a2.tx,.int .i64 a2.deed,.slice aC2 2 cC2] 32)):=(Below.refl _ W8).alloc (Nat.le_refl _) _;have R5:=qd (qs W8 (.cells #[.int .i64 3,.slice aS2 a2.steps.length cS2,.slice none 0 0,.int .i64 14,.int .i64 a2.tx,.int .i64 a2.deed,.slice aC2 2 cC2] 32));have B9:=qd (B8.o.trans (b9.mono B8.o.size));have C8:=qd (qj.below C8.o b9);have R1:=qd (qh R1.o b9 (qe R1.o));have R2:=qd (qh R2.o b9 (qe R2.o));have R3:=qd (qh R3.o b9 (qe R3.o));have O5:=qd (qj.below O5.o b9);have V5:=qd (qj.below V5.o b9);have K5:=qd (qj.below K5.o b9);have S6:=qd (qj.below S6.o b9);clear b9 y1 y10 y11 l1;generalize W8.alloc (.cells #[.int .i64 3,.slice aS2 a2.steps.length cS2,.slice none 0 0,.int .i64 14,.int .i64 a2.tx,.int .i64 a2.deed,.slice aC2 2 cC2] 32)=W9 at *;have HE9:vI W9 (.slice ao 1 co) (.slice av 13 cv) [⟨1,0⟩] KP:=⟨qj.sl O5.o,qj.sl V5.o,RI,ex_dE,HG.o.wd.below B9.o,HG.o.er.below B9.o,HG.o.pr.below B9.o⟩
 refine(f_TakenS HE9.toT Yc (.inl rfl)).mono ?_;rintro e W10 ⟨vt,rfl,hT,b10⟩;rw[WE] at hT;obtain⟨aT,cT,e1⟩:∃x y,vt=.slice x 1 y:=qj.sli hT;subst e1;have T10:=qd hT;have B10:=qd (B9.o.trans (b10.mono B9.o.size));clear hT HE9;have R1:=qd (qh R1.o b10 (qe R1.o));have R2:=qd (qh R2.o b10 (qe R2.o));have R3:=qd (qh R3.o b10 (qe R3.o));have R5:=qd (qh R5.o b10 (qe R5.o));have O5:=qd (qj.below O5.o b10);have V5:=qd (qj.below V5.o b10);have K5:=qd (qj.below K5.o b10);have S6:=qd (qj.below S6.o b10);have C8:=qd (qj.below C8.o b10);clear b10;have y1:=qa R1.o;have y10:=y1 0;have y11:=y1 1;simp at y10 y11;have l1:=qe R1.o;have HE10:vI W10 (.slice ao 1 co) (.slice av 13 cv) [⟨1,0⟩] KP:=⟨qj.sl O5.o,qj.sl V5.o,RI,ex_dE,HG.o.wd.below B10.o,HG.o.er.below B10.o,HG.o.pr.below B10.o⟩
 have VC:=qd (ZL (o:=0) HE10.toT Yc (.inl rfl) (by rw[ex_len];omega) ⟨by omega,by decide⟩);clear HE10 y1;go_wp2_with fail;refine VC.o.mono ?_;rintro e W11 ⟨vv,b,rfl,hV,hb,b11⟩;have hvx:jQ 1 (([⟨1,0⟩]:List Ob).map (·.init)) (um 13) 0=([0,1],true):=ex_vers;rw[hvx] at hV hb;subst hb;obtain⟨aV,cV,e1⟩:∃x y,vv=.slice x 2 y:=qj.sli hV;subst e1;have U11:=qd hV;have B11:=qd (B10.o.trans (b11.mono B10.o.size));clear hV hvx VC y10 y11 l1;have R1:=qd (qh R1.o b11 (qe R1.o));have R2:=qd (qh R2.o b11 (qe R2.o));have R3:=qd (qh R3.o b11 (qe R3.o));have R5:=qd (qh R5.o b11 (qe R5.o));have O5:=qd (qj.below O5.o b11);have V5:=qd (qj.below V5.o b11);have K5:=qd (qj.below K5.o b11);have S6:=qd (qj.below S6.o b11);have C8:=qd (qj.below C8.o b11);have T10:=qd (qj.below T10.o b11);clear b11;have y3:=qa R3.o 1;simp at y3;have l3:=qe R3.o;go_wp2_with fail;clear y3 l3;have bl11:Below W11.heap.size W11 (W11.alloc (.cells #[.int .i64 2,.bool false,.int .i64 1,.bool true] 87)):=(Below.refl _ W11).alloc (Nat.le_refl _) _;have ll11:qj vL 87 2 (W11.alloc (.cells #[.int .i64 2,.bool false,.int .i64 1,.bool true] 87)) W11.heap.size (.slice (some ⟨W11.heap.size,0,none⟩) 2 2) [(2,false),(1,true)]:=by
  have:=qj.lit (f:=vL) (e:=87) (sz:=2) W11 W11.heap.size (Nat.le_refl _) [(2,false),(1,true)] (fun _=>rfl) (by simp);simpa[vL] using this
 have S6:=qd (qj.below S6.o bl11);have LL:=qd ll11;have B12:=qd (B11.o.trans (bl11.mono B11.o.size));have R2:=qd (qh R2.o bl11 (qe R2.o));have R3:=qd (qh R3.o bl11 (qe R3.o));have R5:=qd (qh R5.o bl11 (qe R5.o));have C8:=qd (qj.below C8.o bl11);have T10:=qd (qj.below T10.o bl11);have U11:=qd (qj.below U11.o bl11);clear bl11 ll11;generalize W11.alloc (.cells #[.int .i64 2,.bool false,.int .i64 1,.bool true] 87)=W12 at *;refine(UM _ _ [(2,false),(1,true)] 2 _ rfl (qj.sl S6.o) (qj.sl LL.o)).mono ?_;rintro e W13 ⟨rfl,b13⟩;have B13:=qd (B12.o.trans (b13.mono B12.o.size));have R2:=qd (qh R2.o b13 (qe R2.o));have R3:=qd (qh R3.o b13 (qe R3.o));have R5:=qd (qh R5.o b13 (qe R5.o));have C8:=qd (qj.below C8.o b13);have T10:=qd (qj.below T10.o b13);have U11:=qd (qj.below U11.o b13);clear b13 LL S6;have y5:=qa R5.o 6;simp at y5;have l5:=qe R5.o;go_wp2_with fail;have bl13:Below W13.heap.size W13 (W13.alloc (.cells #[.int .i64 1,.int .i64 2] 3)):=(Below.refl _ W13).alloc (Nat.le_refl _) _;have ll13:qj jF 3 1 (W13.alloc (.cells #[.int .i64 1,.int .i64 2] 3)) W13.heap.size (.slice (some ⟨W13.heap.size,0,none⟩) 2 2) [1,2]:=by
  have:=qj.lit (f:=jF) (e:=3) (sz:=1) W13 W13.heap.size (Nat.le_refl _) [1,2] (fun _=>rfl) (by simp);simpa[jF] using this
 have C8:=qd (qj.below C8.o bl13);have LL:=qd ll13;have B14:=qd (B13.o.trans (bl13.mono B13.o.size));have R2:=qd (qh R2.o bl13 (qe R2.o));have R3:=qd (qh R3.o bl13 (qe R3.o));have R5:=qd (qh R5.o bl13 (qe R5.o));have T10:=qd (qj.below T10.o bl13);have U11:=qd (qj.below U11.o bl13);clear bl13 ll13;generalize W13.alloc (.cells #[.int .i64 1,.int .i64 2] 3)=W14 at *;refine(vN _ _ [1,2] 2 _ (QG C8.o rfl) (QG LL.o rfl)).mono ?_;rintro e W15 ⟨rfl,b15⟩;have B15:=qd (B14.o.trans (b15.mono B14.o.size));have R2:=qd (qh R2.o b15 (qe R2.o));have R3:=qd (qh R3.o b15 (qe R3.o));have R5:=qd (qh R5.o b15 (qe R5.o));have T10:=qd (qj.below T10.o b15);have U11:=qd (qj.below U11.o b15);clear b15 LL C8;clear y5 l5;go_wp2_with fail;have bl15:Below W15.heap.size W15 (W15.alloc (.cells #[.int .i64 1] 3)):=(Below.refl _ W15).alloc (Nat.le_refl _) _;have ll15:qj jF 3 1 (W15.alloc (.cells #[.int .i64 1] 3)) W15.heap.size (.slice (some ⟨W15.heap.size,0,none⟩) 1 1) [1]:=by
  have:=qj.lit (f:=jF) (e:=3) (sz:=1) W15 W15.heap.size (Nat.le_refl _) [1] (fun _=>rfl) (by simp);simpa[jF] using this
 have T10:=qd (qj.below T10.o bl15);have LL:=qd ll15;have B16:=qd (B15.o.trans (bl15.mono B15.o.size));have R2:=qd (qh R2.o bl15 (qe R2.o));have R3:=qd (qh R3.o bl15 (qe R3.o));have R5:=qd (qh R5.o bl15 (qe R5.o));have U11:=qd (qj.below U11.o bl15);clear bl15 ll15;generalize W15.alloc (.cells #[.int .i64 1] 3)=W16 at *;refine(vN _ _ [1] 1 _ (QG T10.o rfl) (QG LL.o rfl)).mono ?_;rintro e W17 ⟨rfl,b17⟩;have B17:=qd (B16.o.trans (b17.mono B16.o.size));have R2:=qd (qh R2.o b17 (qe R2.o));have R3:=qd (qh R3.o b17 (qe R3.o));have R5:=qd (qh R5.o b17 (qe R5.o));have U11:=qd (qj.below U11.o b17);clear b17 LL T10;go_wp2_with fail;have bl17:Below W17.heap.size W17 (W17.alloc (.cells #[.int .i64 0,.int .i64 1] 3)):=(Below.refl _ W17).alloc (Nat.le_refl _) _;have ll17:qj jF 3 1 (W17.alloc (.cells #[.int .i64 0,.int .i64 1] 3)) W17.heap.size (.slice (some ⟨W17.heap.size,0,none⟩) 2 2) [0,1]:=by
  have:=qj.lit (f:=jF) (e:=3) (sz:=1) W17 W17.heap.size (Nat.le_refl _) [0,1] (fun _=>rfl) (by simp);simpa[jF] using this
 have U11:=qd (qj.below U11.o bl17);have LL:=qd ll17;have B18:=qd (B17.o.trans (bl17.mono B17.o.size));have R2:=qd (qh R2.o bl17 (qe R2.o));have R3:=qd (qh R3.o bl17 (qe R3.o));have R5:=qd (qh R5.o bl17 (qe R5.o));clear bl17 ll17;generalize W17.alloc (.cells #[.int .i64 0,.int .i64 1] 3)=W18 at *;refine(vN _ _ [0,1] 2 _ (QG U11.o rfl) (QG LL.o rfl)).mono ?_;rintro e W19 ⟨rfl,b19⟩;have B19:=qd (B18.o.trans (b19.mono B18.o.size));have R2:=qd (qh R2.o b19 (qe R2.o));have R3:=qd (qh R3.o b19 (qe R3.o));have R5:=qd (qh R5.o b19 (qe R5.o));clear b19 LL U11;have y30:=qa R3.o 0;have y50:=qa R5.o 0;have y53:=qa R5.o 3;have y21:=qa R2.o 1;simp at y30 y50 y53 y21;have l2:=qe R2.o;have l3:=qe R3.o;have l5:=qe R5.o;go_wp2_with fail;refine bodyPost_ret (v:=.bool true) (by simp[results,Tryz.results7,go_sem]) rfl ⟨rfl,B19.o⟩
end
