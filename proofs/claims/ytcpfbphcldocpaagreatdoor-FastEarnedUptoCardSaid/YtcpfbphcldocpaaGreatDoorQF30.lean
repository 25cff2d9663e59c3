/- Parts of the proof, merged by program out of 2 texts (FtS, GrZ): the first: The values that a register has, one behind the other. Conditions: those of each theorem, as typed. -/
import Derived.Test.YtcpfbphcldocpaaGreatDoorQF18
import Derived.Test.YtcpfbphcldocpaaGreatDoorQF29
import Derived.Test.YtcpfbphcldocpaaGreatDoorQF02
import Derived.Test.YtcpfbphcldocpaaGreatDoorQF23
set_option linter.unusedVariables false
set_option linter.unusedSimpArgs false
set_option linter.unusedSectionVars false
set_option maxRecDepth 100000
set_option maxHeartbeats 4000000
namespace Go.Proofs.YtcpfbphcldocpaaGreatDoor
open Go.Maps Go.RowKit
section
attribute [local irreducible] wpL
theorem mv_Clone {v:Value} {l:List Mvr} {B:Nat} (w:World) (h:OwnF Mvr.cells 133 1 w B v l) (hl:l.length≤400):
  Calls Tryz.prog 51 #[v] w fun e w'=>∃v',e=.returned v'∧OwnF Mvr.cells 133 1 w' w.heap.size v' l∧Below w.heap.size w w':=by
 have eq1:∀X:World,Sem.run Tryz.prog (binOp BinOp.eql 131 (.slice none 0 0) (.slice none 0 0)) X=.ok (.bool true) X:=fun X=>by kernel_rfl
 have eq2:∀(X:World) (g n c:Nat),Sem.run Tryz.prog (binOp BinOp.eql 131 (.slice (some ⟨g,0,none⟩) n c) (.slice none 0 0)) X=.ok (.bool false) X:=fun X g n c=>by kernel_rfl
 rcases OwnF.form h with⟨rfl,rfl⟩|⟨g,cap,rfl,hg,hgl⟩
 ·go_enter Tryz.func51,Tryz.ntmps51
  go_wp2
  go_ret
  exact⟨_,rfl,OwnF.nil _ _,Below.refl _ _⟩
 ·have H:=hid h
  have o0:=OwnF.lit (f:=Mvr.cells) (e:=133) (sz:=1) w w.heap.size (Nat.le_refl _) [] Mvr.len (by simp)
  have b0:Below w.heap.size w (w.alloc (.cells (([]:List Mvr).flatMap Mvr.cells).toArray 133)):=(Below.refl _ w).alloc (Nat.le_refl _) _
  have O0:=hid o0
  have B0:=hid b0
  have hs:=hid ((OwnF.sl h).below b0)
  clear h o0 b0
  go_enter Tryz.func51,Tryz.ntmps51
  go_wp2_with (at_builtin;refine wpList_appA rfl _ _ _ rfl _ 8 Tryz.underlying131 infoMv rfl O0.out l rfl hs.out (by first|omega|(simp <;> omega)) rfl rfl Mvr.len mv_one (by first|omega|(simp <;> omega)) (by first|omega|(simp <;> omega)) ?_;refine Stop.halt ?_)
  refine Stop.go ?_
  intro v' w2 o2 g2
  have O2:=hid o2
  have B2:=hid (B0.out.trans (g2.below (by simp) fun k hk=>(OwnF.lt O0.out k hk).1))
  clear o2 g2
  go_wp2
  go_ret
  exact⟨_,rfl,O2.out,B2.out⟩
def mvL (ms:List Mvr) (L:List Nat):List Mvr:=L.filterMap fun i=>ms[i]?
def ixP (ms:List Mvr) (q:Nat→Bool) (m:Mvr):Bool:=(List.range ms.length).any fun i=>(match ms[i]? with
 |some m'=>m'.p==m.p
 |none=>false)&&q i
def isW (A:Au) (o:Int) (i:Nat):Bool:=match A[i]? with
 |some s=>(fnd o (wrM s)).isSome
 |none=>false
def isR (A:Au) (o v:Int) (i:Nat):Bool:=match A[i]? with
 |some s=>fnd o (rdM s)==some v
 |none=>false
section
variable {ms:List Mvr} {L:List Nat} {q:Nat→Bool}
theorem ixP_at (inj:∀(j k:Nat) (m m':Mvr),ms[j]?=some m→ms[k]?=some m'→m.p=m'.p→j=k) {i:Nat} {m:Mvr} (hi:ms[i]?=some m):ixP ms q m=q i:=by
 have hil:=(List.getElem?_eq_some_iff.1 hi).1
 cases hq:q i with
 |true=>
  unfold ixP
  rw[List.any_eq_true]
  exact⟨i,List.mem_range.2 hil,by rw[hi,hq];simp⟩
 |false=>
  unfold ixP
  rw[List.any_eq_false]
  intro j hj
  have hjl:=List.mem_range.1 hj
  have hj':ms[j]?=some ms[j]:=List.getElem?_eq_getElem hjl
  rw[hj']
  by_cases e:ms[j].p=m.p
  ·obtain rfl:=inj j i _ _ hj' hi e
   simp[hq]
  ·simp [e]
theorem mvL_cons {i:Nat} (hi:i < ms.length):mvL ms (i::L)=ms[i]::mvL ms L:=by
 unfold mvL
 rw[List.filterMap_cons,List.getElem?_eq_getElem hi]
theorem mvL_filter (inj:∀(j k:Nat) (m m':Mvr),ms[j]?=some m→ms[k]?=some m'→m.p=m'.p→j=k):∀{L:List Nat},(∀i ∈ L,i < ms.length)→(mvL ms L).filter (fun m=>!ixP ms q m)=mvL ms (L.filter fun i=>!q i)
 |[],_=>rfl
 |i::L,h=>by
  have hi:=h i (by simp)
  rw[mvL_cons hi,List.filter_cons,List.filter_cons,ixP_at inj (List.getElem?_eq_getElem hi),mvL_filter inj fun j hj=>h j (by simp[hj])]
  split
  ·rw [mvL_cons hi]
  ·rfl
theorem mvL_len:∀{L:List Nat},(∀i ∈ L,i < ms.length)→(mvL ms L).length=L.length
 |[],_=>rfl
 |i::L,h=>by rw[mvL_cons (h i (by simp)),List.length_cons,List.length_cons,mvL_len fun j hj=>h j (by simp[hj])]
theorem mvL_mem {m:Mvr} (h:m ∈ mvL ms L):∃i ∈ L,ms[i]?=some m:=List.mem_filterMap.1 h
theorem mvL_all:mvL ms (List.range ms.length)=ms:=by
 apply List.ext_getElem
 ·rw [mvL_len fun i hi=>List.mem_range.1 hi,List.length_range]
 ·intro k h1 h2
  have hk:(mvL ms (List.range ms.length))[k]?=ms[k]?:=by
   have:∀(n:Nat),n≤ms.length→mvL ms (List.range n)=ms.take n:=by
    intro n
    induction n with
    |zero=>intro _;rfl
    |succ n ih=>
     intro hn
     have:=ih (by omega)
     unfold mvL at this ⊢
     rw[List.range_succ,List.filterMap_append,this,List.take_add_one,List.filterMap_cons,List.getElem?_eq_getElem (by omega)]
     rfl
   rw[this _ (Nat.le_refl _),List.take_length]
  rw[List.getElem?_eq_getElem h1,List.getElem?_eq_getElem h2] at hk
  exact Option.some.inj hk
end
section
variable {W:World} {lo hi pW bB pO:Nat} {lev o:Int} {ov vv lv:Value} {ms:List Mvr} {A:Au} {T:List Bool}
theorem v_1 (hF:FwAt W lo hi pW bB lev ov vv ms lv A T) (hd:MvDom A) (ho:dI o) (hO:W.heap[pO]?=some (.cells #[.int .i64 o] 3 (0,0))) {i:Nat} {m:Mvr} (hi':ms[i]?=some m):
  Calls Tryz.prog 52 #[ptrV m.p,.pointer (some ⟨pO,0,none⟩)] W fun e w'=>e=.returned (.bool (!(T.getD i false&&isW A o i)))∧Below W.heap.size W w':=by
 have hil:=(List.getElem?_eq_some_iff.1 hi').1
 obtain⟨m0,s,h1,h2,q⟩:=hF.get (k:=i) (by have:=hF.len;omega)
 rw[hi'] at h1
 obtain rfl:=Option.some.inj h1
 have r:=q.row
 have hwl:=q.wr.lt
 have LK:=hid (show ∀X:World,X.heap[m.wm]?=W.heap[m.wm]?→(Instr.lookup 138 (.map (some m.wm)) (.int .i64 o) true).run Tryz.prog X=.ok (.tuple #[.int .i64 ((fnd o (wrM s)).getD 0),.bool (fnd o (wrM s)).isSome]) X from fun X hX=>lookOkI (q.wr.obj hX) (hd s (List.mem_of_getElem? h2)).2 ho rfl)
 have ew:isW A o i=(fnd o (wrM s)).isSome:=by unfold isW;rw[h2]
 rw[ew]
 obtain⟨tk,htk⟩:∃tk,T.getD i false=tk:=⟨_,rfl⟩
 obtain⟨sw,hsw⟩:∃sw,(fnd o (wrM s)).isSome=sw:=⟨_,rfl⟩
 obtain⟨gw,hgw⟩:∃gw,(fnd o (wrM s)).getD 0=gw:=⟨_,rfl⟩
 rw[htk] at r
 rw[htk,hsw]
 rw[hsw,hgw] at LK
 have ym:=row_cell r
 have ym8:=ym 8
 have ym10:=ym 10
 simp at ym8 ym10
 have yml:=row_lt r
 have yo:=row_cell hO 0
 simp at yo
 have yol:=row_lt hO
 clear ym r q hF hd ho hO ew htk hsw hgw h2
 unfold ptrV
 go_enter Tryz.func52,Tryz.ntmps52
 go_wp2_with fail
 refine wp_rN (W.heap.size) [0,0,0,1,1,1,0,0,0,0,0] (.fin [0,1,2,3,4,5,6,7,8,9,10]) (by kernel_rfl) ?_
 simp only[wpT,selX,guardAt,sD,sE,sF,sG]
 repeat first|(refine wpL_p fun K hK=>?_;go_simp;refine hK _ _ ?_;clear hK K)|(apply wpL_s;(intro w2 hw2;have hk1:=hw2.cell;have hk3:=hw2.1;clear hw2;go_simp;with_reducible rfl);simp only[Act.put,sA,sB,sC])
 refine wpL_r (fun K hK=>?_)
 refine⟨.tuple #[.int .i64 gw,.bool sw],fun w2 hw2=>?_,?_⟩
 ·have lk:=LK.out w2 (hw2.2 m.wm hwl)
  go_simp
 refine hK _ _ ?_
 clear hK K
 repeat first|(refine wpL_p fun K hK=>?_;go_simp;refine hK _ _ ?_;clear hK K)|refine wpL_nil ?_
 cases tk <;> cases sw
 all_goals
  go_wp2_with fail
  go_ret
  exact⟨rfl,(Below.refl _ W).drew⟩
theorem v_2 (hF:FwAt W lo hi pW bB lev ov vv ms lv A T) (hd:MvDom A) (ho:dI o) (hO:W.heap[pO]?=some (.cells #[.int .i64 o] 3 (0,0))) {pT B:Nat} {vo:Value} {O:List Int} (hT:W.heap[pT]?=some (.cells #[vo] 30 (0,0))) (hvo:OwnI W B vo O) (hne:0 < O.length) (hOl:O.length≤1000) {i:Nat} {m:Mvr} (hi':ms[i]?=some m):
  Calls Tryz.prog 53 #[ptrV m.p,.pointer (some ⟨pO,0,none⟩),.pointer (some ⟨pT,0,none⟩)] W fun e w'=>e=.returned (.bool (!isR A o (O.getLastD 0) i))∧Below W.heap.size W w':=by
 have hil:=(List.getElem?_eq_some_iff.1 hi').1
 obtain⟨m0,s,h1,h2,q⟩:=hF.get (k:=i) (by have:=hF.len;omega)
 rw[hi'] at h1
 obtain rfl:=Option.some.inj h1
 have r:=q.row
 have hwl:=q.rd.lt
 have LK:=hid (show ∀X:World,X.heap[m.r]?=W.heap[m.r]?→(Instr.lookup 138 (.map (some m.r)) (.int .i64 o) true).run Tryz.prog X=.ok (.tuple #[.int .i64 ((fnd o (rdM s)).getD 0),.bool (fnd o (rdM s)).isSome]) X from fun X hX=>lookOkI (q.rd.obj hX) (hd s (List.mem_of_getElem? h2)).1 ho rfl)
 have ew:isR A o (O.getLastD 0) i=(fnd o (rdM s)==some (O.getLastD 0)):=by unfold isR;rw[h2]
 rw[ew]
 obtain⟨x,hx⟩:∃x,fnd o (rdM s)=x:=⟨_,rfl⟩
 rw[hx]
 rw[hx] at LK
 obtain⟨z,hz⟩:∃z,O.getLastD 0=z:=⟨_,rfl⟩
 rw[hz]
 obtain⟨c,hc⟩:∃n:Nat,O.length=n+1:=⟨O.length - 1,by omega⟩
 have hlast:O[c]?=some z:=by
  rw[←hz,List.getLastD_eq_getLast?,List.getLast?_eq_getElem?]
  have:O.length - 1=c:=by omega
  rw[this,List.getElem?_eq_getElem (by omega)]
  rfl
 obtain⟨av,cv,e1⟩:=OwnF.sli hvo
 subst e1
 have hsl:=(show Sl W W.heap.size 1 (.slice av O.length cv) O.length (O.map (.int .i64)) by rw[←flat_int];exact OwnF.sl hvo).intAt (k:=c) (by omega)
 obtain⟨b2,o2,z2,hav,hb2,hz2,hcc⟩:=hsl
 subst hav
 rw[hlast] at hz2
 obtain rfl:=Option.some.inj hz2
 rw[hc] at hT
 have ym:=row_cell r
 have ym7:=ym 7
 simp at ym7
 have yml:=row_lt r
 have yo:=row_cell hO 0
 have yt:=row_cell hT 0
 simp at yo yt
 have yol:=row_lt hO
 have ytl:=row_lt hT
 have hc1:((c+1:Nat):Int) - 1=c:=by omega
 have hcl:c≤1000:=by omega
 have hw1:wrap64 (((c+1:Nat):Int) - 1)=c:=by rw[hc1];unfold wrap64;omega
 clear ym r q hF hd ho hO hT hvo ew h2 hz hlast hne hOl hc hx
 unfold ptrV
 go_enter Tryz.func53,Tryz.ntmps53
 go_wp2_with fail
 refine wp_rN (W.heap.size) [0,0,0,1,1,1,0,0,0,0,0] (.fin [0,1,2,3,4,5,6,7,8,9,10]) (by kernel_rfl) ?_
 simp only[wpT,selX,guardAt,sD,sE,sF,sG]
 repeat first|(refine wpL_p fun K hK=>?_;go_simp;refine hK _ _ ?_;clear hK K)|(apply wpL_s;(intro w2 hw2;have hk1:=hw2.cell;have hk3:=hw2.1;clear hw2;go_simp;with_reducible rfl);simp only[Act.put,sA,sB,sC])
 refine wpL_r (fun K hK=>?_)
 refine⟨.tuple #[.int .i64 (x.getD 0),.bool x.isSome],fun w2 hw2=>?_,?_⟩
 ·have lk:=LK.out w2 (hw2.2 m.r hwl)
  go_simp
 refine hK _ _ ?_
 clear hK K
 repeat first|(refine wpL_p fun K hK=>?_;go_simp;refine hK _ _ ?_;clear hK K)|refine wpL_nil ?_
 cases x with
 |none=>
  simp only[Option.isSome_none,Option.getD_none]
  go_wp2_with fail
  go_ret
  exact⟨rfl,(Below.refl _ W).drew⟩
 |some x=>
  simp only[Option.isSome_some,Option.getD_some]
  go_wp2_with fail
  go_ret
  refine⟨?_,(Below.refl _ W).drew⟩
  by_cases e:x=z
  ·subst e;simp
  ·have:(some x==some z)=false:=by simpa using e
   rw[this]
   simp[e]
theorem v_3 (hF:FwAt W lo hi pW bB lev ov vv ms lv A T) {pN B:Nat} {vn:Value} {j:Nat} {mj:Mvr} (hj:ms[j]?=some mj) (hN:W.heap[pN]?=some (.cells #[vn] 131 (0,0))) (hvn:OwnF Mvr.cells 133 1 W B vn [mj]) {i:Nat} {m:Mvr} (hi':ms[i]?=some m):
  Calls Tryz.prog 54 #[ptrV m.p,.pointer (some ⟨pN,0,none⟩)] W fun e w'=>e=.returned (.bool (decide (i=j)))∧Below W.heap.size W w':=by
 have hil:=(List.getElem?_eq_some_iff.1 hi').1
 have hjl:=(List.getElem?_eq_some_iff.1 hj).1
 obtain⟨m0,s,h1,h2,q⟩:=hF.get (k:=i) (by have:=hF.len;omega)
 rw[hi'] at h1
 obtain rfl:=Option.some.inj h1
 obtain⟨m1,s1,h3,h4,q1⟩:=hF.get (k:=j) (by have:=hF.len;omega)
 rw[hj] at h3
 obtain rfl:=Option.some.inj h3
 have hpe:=ptr_eql q.row q1.row
 have hdec:decide (m.p=mj.p)=decide (i=j):=by
  by_cases e:m.p=mj.p
  ·obtain rfl:=hF.inj _ _ _ _ hi' hj e
   simp[e]
  ·have:i≠j:=by
    rintro rfl
    rw[hi'] at hj
    exact e (by rw[Option.some.inj hj])
   simp[e,this]
 rw[hdec] at hpe
 obtain⟨a,c,e1⟩:=OwnF.sli hvn
 subst e1
 simp only[List.length_cons,List.length_nil,Nat.zero_add] at hvn hN
 obtain⟨b,off,m2,hat,hb,hmk,hc⟩:=(OwnF.sl hvn).atF Mvr.len rfl (k:=0) (by simp)
 subst hat
 simp at hmk
 subst hmk
 have c0:=hc 0 (by decide)
 simp[Mvr.cells,ptrV] at c0
 have yt:=row_cell hN 0
 simp at yt
 have ytl:=row_lt hN
 clear hc hvn hN q q1 hF h2 h4 hdec
 unfold ptrV
 go_enter Tryz.func54,Tryz.ntmps54
 go_wp2_with fail
 go_ret
 exact⟨rfl,Below.refl _ _⟩
theorem pred_1 {w:World} (hF:FwAt w lo hi pW bB lev ov vv ms lv A T) (hh:hi≤w.heap.size) (hd:MvDom A) (ho:dI o) (hO:w.heap[pO]?=some (.cells #[.int .i64 o] 3 (0,0))) {B:Nat} {v:Value} {l:List Mvr} (hv:OwnF Mvr.cells 133 1 w B v l) (hB:hi≤B) (hp:pO < B) (hL:∀m ∈ l,∃i:Nat,ms[i]?=some m):
  PredP Tryz.prog 52 #[.pointer (some ⟨pO,0,none⟩)] (fun m:Mvr=>ptrV m.p) (ixP ms fun i=>!(T.getD i false&&isW A o i)) (· ∈ l) w v.ownBlock:=by
 intro W x hx hg
 obtain⟨i,hi'⟩:=hL x hx
 have ne:∀k,k < B→some k≠v.ownBlock:=fun k hk e=>by have:=(OwnF.lt hv k e.symm).1;omega
 have hF':=hF.keep (w':=W) (hi':=hi) (Nat.le_refl _) fun k _ hk=>hg.block k (by omega) (ne k (by omega))
 have hO':=(hg.block pO (row_lt hO) (ne pO hp)).trans hO
 rw[ixP_at hF.inj hi']
 exact v_1 hF' hd ho hO' hi'
theorem pred_2 {w:World} (hF:FwAt w lo hi pW bB lev ov vv ms lv A T) (hh:hi≤w.heap.size) (hd:MvDom A) (ho:dI o) (hO:w.heap[pO]?=some (.cells #[.int .i64 o] 3 (0,0))) {pT C:Nat} {vo:Value} {O:List Int} (hT:w.heap[pT]?=some (.cells #[vo] 30 (0,0))) (hvo:OwnI w C vo O) (hne:0 < O.length) (hOl:O.length≤1000)
  {B:Nat} {v:Value} {l:List Mvr} (hv:OwnF Mvr.cells 133 1 w B v l) (hB:hi≤B) (hp:pO < B) (hpT:pT < B) (hvB:∀k,vo.ownBlock=some k→k < B) (hL:∀m ∈ l,∃i:Nat,ms[i]?=some m):
  PredP Tryz.prog 53 #[.pointer (some ⟨pO,0,none⟩),.pointer (some ⟨pT,0,none⟩)] (fun m:Mvr=>ptrV m.p) (ixP ms fun i=>!isR A o (O.getLastD 0) i) (· ∈ l) w v.ownBlock:=by
 intro W x hx hg
 obtain⟨i,hi'⟩:=hL x hx
 have ne:∀k,k < B→some k≠v.ownBlock:=fun k hk e=>by have:=(OwnF.lt hv k e.symm).1;omega
 have hF':=hF.keep (w':=W) (hi':=hi) (Nat.le_refl _) fun k _ hk=>hg.block k (by omega) (ne k (by omega))
 have hO':=(hg.block pO (row_lt hO) (ne pO hp)).trans hO
 have hT':=(hg.block pT (row_lt hT) (ne pT hpT)).trans hT
 have hvo':OwnI W C vo O:=OwnF.sameB hvo fun k hk=>hg.block k (OwnF.lt hvo k hk).2 (ne k (hvB k hk))
 rw[ixP_at hF.inj hi']
 exact v_2 hF' hd ho hO' hT' hvo' hne hOl hi'
theorem pred_3 {w:World} (hF:FwAt w lo hi pW bB lev ov vv ms lv A T) (hh:hi≤w.heap.size) {pN C:Nat} {vn:Value} {j:Nat} {mj:Mvr} (hj:ms[j]?=some mj) (hN:w.heap[pN]?=some (.cells #[vn] 131 (0,0))) (hvn:OwnF Mvr.cells 133 1 w C vn [mj])
  {B:Nat} {v:Value} {l:List Mvr} (hv:OwnF Mvr.cells 133 1 w B v l) (hB:hi≤B) (hpN:v.ownBlock≠some pN) (hvC:∀k,v.ownBlock=some k→k < C) (hL:∀m ∈ l,∃i:Nat,ms[i]?=some m):
  PredP Tryz.prog 54 #[.pointer (some ⟨pN,0,none⟩)] (fun m:Mvr=>ptrV m.p) (ixP ms fun i=>decide (i=j)) (· ∈ l) w v.ownBlock:=by
 intro W x hx hg
 obtain⟨i,hi'⟩:=hL x hx
 have ne:∀k,k < B→some k≠v.ownBlock:=fun k hk e=>by have:=(OwnF.lt hv k e.symm).1;omega
 have hF':=hF.keep (w':=W) (hi':=hi) (Nat.le_refl _) fun k _ hk=>hg.block k (by omega) (ne k (by omega))
 have hN':=(hg.block pN (row_lt hN) fun e=>hpN e.symm).trans hN
 have hvn':OwnF Mvr.cells 133 1 W C vn [mj]:=OwnF.sameB hvn fun k hk=>hg.block k (OwnF.lt hvn k hk).2 fun e=>by have:=hvC k e.symm;have:=(OwnF.lt hvn k hk).1;omega
 rw[ixP_at hF.inj hi']
 exact v_3 hF' hj hN' hvn' hi'
end
theorem leftV_eq {A:Au} {T:List Bool} {o:Int}:leftV A T o=(List.range A.length).filter fun i=>!!(T.getD i false&&isW A o i):=by
 unfold leftV
 congr 1
 funext i
 unfold isW
 rw[Bool.not_not]
 cases A[i]? <;> rfl
theorem nextV_eq {A:Au} {o v:Int} {L:List Nat}:nextV A o v L=L.filter fun i=>!!isR A o v i:=by
 unfold nextV
 congr 1
 funext i
 unfold isR
 rw[Bool.not_not]
 cases A[i]? <;> rfl
theorem wrV_eq {A:Au} {o:Int} {j:Nat} {s:St} (h:A[j]?=some s):wrV A o j=(fnd o (wrM s)).getD 0:=by unfold wrV;rw[h]
theorem vers_nil {A:Au} {o:Int} {n:Nat} {O:List Int}:versGo A o n [] O=(O,true):=by cases n <;> rfl
theorem vers_one {A:Au} {o:Int} {n j:Nat} {L:List Nat} {O:List Int} (hL:L≠[]) (hN:nextV A o (O.getLastD 0) L=[j]):versGo A o (n+1) L O=versGo A o n (L.filter fun i=>!decide (i=j)) (O++[wrV A o j]):=by
 obtain⟨x,L,rfl⟩:=List.exists_cons_of_ne_nil hL
 have hf:(fun i=>!decide (i=j))=(fun i:Nat=>i !=j):=by
  funext i
  rw[Bool.eq_iff_iff]
  simp
 rw[versGo,hN,hf]
 exact fun h=>by cases h
theorem vers_no {A:Au} {o:Int} {n:Nat} {L:List Nat} {O:List Int} (hL:L≠[]) (hN:(nextV A o (O.getLastD 0) L).length≠1):versGo A o (n+1) L O=(O,false):=by
 obtain⟨x,L,rfl⟩:=List.exists_cons_of_ne_nil hL
 rw[versGo]
 ·split
  ·rename_i j e
   rw[e] at hN
   exact absurd rfl hN
  ·rfl
 ·exact fun h=>by cases h
section
variable {w:World} {ov vv:Value} {os:List Ob} {r:Option Au} {A:Au} {lev o:Int}
theorem f_Versions (h:HisT w ov vv os r) (e:premR os r=some A) (hl:lev=1∨lev=2∨lev=3) (hal:A.length≤200) (ho:0≤o∧o < os.length):Calls Tryz.prog 20 #[.agg #[ov,vv],.int .i64 lev,.int .i64 o] w fun e w'=>
  ∃v b,e=.returned (.tuple #[v,.bool b,.nilIface])∧OwnI w' w.heap.size v (versF lev (os.map (·.init)) A o).1∧b=(versF lev (os.map (·.init)) A o).2∧Below w.heap.size w w':=by
 obtain⟨ao,co,hov,-⟩:=h.ho.ex
 obtain⟨av,nv,cv,hvv⟩:=h.hvv
 have HD:=hid (h.hD A (premR_some e).1)
 have hol:=HD.out.ol
 obtain⟨c,rfl⟩:∃c:Nat,o=c:=⟨o.toNat,by omega⟩
 have hcl:c < os.length:=by omega
 have hdo:dI (c:Int):=by
  unfold dI Lit.wf
  simp[IntKind.min,IntKind.max,IntKind.bits,IntKind.signed]
  omega
 have b0:Below w.heap.size w ((w.alloc (.cells #[ov,vv] 25)).alloc (.cells #[.int .i64 (c:Int)] 3)):=((Below.refl _ w).alloc (Nat.le_refl _) _).alloc (by simp) _
 have PC:=hid (f_atS (lev:=lev) (h.below b0) e hl)
 have r0:=row_old (o:=.cells #[.int .i64 (c:Int)] 3) (row_new w (.cells #[ov,vv] 25))
 have r1:=row_new (w.alloc (.cells #[ov,vv] 25)) (.cells #[.int .i64 (c:Int)] 3)
 have z0:((w.alloc (.cells #[ov,vv] 25)).alloc (.cells #[.int .i64 (c:Int)] 3)).heap.size=w.heap.size+2:=by simp
 simp only[World.size_alloc] at r1
 have HH:=hid h
 have R0:=hid r0
 have R1:=hid r1
 have B0:=hid b0
 have Z0:=hid z0
 have HDO:=hid hdo
 subst hov hvv
 have hq1:decide ((c:Int) < 0)=false:=by simp
 have hq2:decide ((os.length:Int)≤(c:Int))=false:=by simp;omega
 clear h b0 e r0 r1 z0 hdo
 go_enter Tryz.func20,Tryz.ntmps20
 go_wp2_with fail
 generalize (w.alloc (.cells #[.slice ao os.length co,.slice av nv cv] 25)).alloc (.cells #[.int .i64 (c:Int)] 3)=Wb at *
 refine PC.out.mono ?_
 rintro e W1 ⟨pW,bB,ms,lv,rfl,hF,b1⟩
 have B1:=hid (B0.out.trans (b1.mono B0.out.size))
 obtain⟨T,hT⟩:∃T,takenF lev A=T:=⟨_,rfl⟩
 obtain⟨al,cl,hlv0⟩:=OwnF.sli hF.lst
 subst hlv0
 have hml:ms.length=A.length:=hF.len
 have HML:=hid hml
 have hms:ms.length≤200:=by omega
 have R0:=hid (row_below R0.out b1 (row_lt R0.out))
 have R1:=hid (row_below R1.out b1 (row_lt R1.out))
 have y0:=row_cell R0.out 0
 have y1:=row_cell R1.out 0
 simp at y0 y1
 have yl0:=row_lt R0.out
 have yl1:=row_lt R1.out
 have yq:=row_cell hF.row 3
 simp at yq
 have yql:=row_lt hF.row
 rw[hT] at hF
 have F1:=hid hF
 have HT:=hid hT
 have CL:=hid (mv_Clone W1 hF.lst (by omega))
 have hsz:=b1.size
 have hz2:=Z0.out
 have hw1:w.heap.size+2≤W1.heap.size:=by omega
 clear b1 hF hT hml hz2
 go_wp2_with fail
 refine CL.out.mono ?_
 rintro e W2 ⟨v1,rfl,o1,b2⟩
 have F2:=hid (F1.out.below b2 (Nat.le_refl _) (Nat.le_refl _))
 have R02:=hid (row_below R0.out b2 yl0)
 have R12:=hid (row_below R1.out b2 yl1)
 have hz2:=b2.size
 have P1:=hid (pred_1 F2.out hz2 HD.out.mv HDO.out R12.out o1 (Nat.le_refl _) yl1 fun m hm=>(List.mem_iff_getElem?.1 hm))
 have DL:=hid (mv_Delete W2 o1 (by omega) (enters_of Tryz.func52 (by kernel_rfl) rfl) P1.out)
 have B2:=hid b2
 have O1:=hid o1
 obtain⟨a1,c1,e1⟩:=OwnF.sli o1
 subst e1
 clear o1 b2 P1
 go_wp2_with fail
 refine DL.out.mono ?_
 rintro e W3 ⟨v3,rfl,o3,g3⟩
 have hz3:=g3.size
 have F3:=hid (F2.out.keep (w':=W3) (hi':=W1.heap.size) (Nat.le_refl _) fun k _ hk=>g3.grown.block k (by omega) (fun e=>by have:=(OwnF.lt O1.out k e.symm).1;omega))
 have B3:=hid (B2.out.trans ((g3.below (B:=W1.heap.size) hz2 fun k hk=>(OwnF.lt O1.out k hk).1)))
 have BW:=hid (B1.out.trans (B3.out.mono (by omega)))
 have R03:=hid (row_below R0.out B3.out yl0)
 have R13:=hid (row_below R1.out B3.out yl1)
 have e3:=mvL_filter (q:=fun i=>!(T.getD i false&&isW A c i)) F3.out.inj (L:=List.range ms.length) (fun i hi=>List.mem_range.1 hi)
 rw[mvL_all,HML.out,←leftV_eq] at e3
 have O3:=hid (show OwnF Mvr.cells 133 1 W3 W1.heap.size v3 (mvL ms (leftV A T c)) by rw[←e3];exact o3)
 obtain⟨a3,c3,e4⟩:=OwnF.sli O3.out
 subst e4
 obtain⟨b5,o5,ob,hat,hb5,hob,hcc⟩:=((HH.out.ho.below BW.out).atF Ob.len rfl hcl)
 subst hat
 have z0:=hcc 0 (by decide)
 have z1:=hcc 1 (by decide)
 simp only[Ob.cells,Nat.add_zero,List.getElem?_cons_zero,List.getElem?_cons_succ] at z0 z1
 have y0:=row_cell R03.out 0
 have y1:=row_cell R13.out 0
 simp at y0 y1
 have yl0:=row_lt R03.out
 have yl1:=row_lt R13.out
 have hb5':b5 < W3.heap.size:=by omega
 have HOB:=hid hob
 clear e3 o3 g3 DL hob hcc CL
 obtain⟨res,hres0⟩:∃res,versF lev (os.map (·.init)) A c=res:=⟨_,rfl⟩
 have HR0:=hid hres0
 have hres:versGo A c ((leftV A T c).length+1) (leftV A T c) [ob.init]=res:=by
  rw[←hres0]
  unfold versF
  rw[HT.out]
  have:(os.map (·.init)).getD ((c:Int)).toNat 0=ob.init:=by
   rw[Int.toNat_natCast,List.getD_eq_getElem?_getD,List.getElem?_map,HOB.out]
   rfl
  rw[this]
 have HRES:=hid hres
 have lt4:OwnI ((W3.alloc (.cells #[.int .i64 ob.init] 3)).alloc (.cells #[.slice (some ⟨W3.heap.size,0,none⟩) 1 1] 30)) W3.heap.size (.slice (some ⟨W3.heap.size,0,none⟩) 1 1) [ob.init]:=by
  have:=OwnF.lit (f:=intC) (e:=3) (sz:=1) W3 W3.heap.size (Nat.le_refl _) [ob.init] (fun _=>rfl) (by simp)
  exact OwnF.alloc (by simpa[intC] using this) _
 have rt4:=row_new (W3.alloc (.cells #[.int .i64 ob.init] 3)) (.cells #[.slice (some ⟨W3.heap.size,0,none⟩) 1 1] 30)
 simp only[World.size_alloc] at rt4
 have b4:Below W3.heap.size W3 ((W3.alloc (.cells #[.int .i64 ob.init] 3)).alloc (.cells #[.slice (some ⟨W3.heap.size,0,none⟩) 1 1] 30)):=((Below.refl _ W3).alloc (Nat.le_refl _) _).alloc (by simp) _
 have LT4:=hid lt4
 have RT4:=hid rt4
 have O4:=hid (OwnF.below O3.out b4)
 have hz13:W1.heap.size≤W3.heap.size:=B3.out.size
 have B4:=hid (B3.out.trans (b4.mono hz13))
 have hlv:(leftV A T c).length≤200:=by
  rw[leftV_eq]
  exact Nat.le_trans (List.length_filter_le _ _) (by simp;exact hal)
 have HLV:=hid (show ∀i ∈ leftV A T c,i < ms.length from fun i hi=>by rw[leftV_eq] at hi;have:=List.mem_range.1 (List.mem_filter.1 hi).1;rw[HML.out];exact this)
 clear hres0 hres lt4 rt4 b4
 go_wp2_with fail
 generalize (W3.alloc (.cells #[.int .i64 ob.init] 3)).alloc (.cells #[.slice (some ⟨W3.heap.size,0,none⟩) 1 1] 30)=W4 at *
 clear y0 y1 z0 z1 yq yql
 go_loopw [11] (fun p wr=>∃(L:List Nat) (O:List Int) (vo:Value) (n:Nat),OwnF Mvr.cells 133 1 wr W1.heap.size p (mvL ms L)∧(∀i ∈ L,i < ms.length)∧L.length≤n∧O.length+L.length≤201∧0 < O.length∧wr.heap[W3.heap.size+1]?=some (.cells #[vo] 30 (0,0))∧OwnI wr W3.heap.size vo O∧versGo A c (n+1) L O=res∧Below W1.heap.size W1 wr)
  (fun p _=>match p with|.slice _ n _=>n|_=>0)
 case atStart=>exact⟨_,[ob.init],_,_,O4.out,HLV.out,Nat.le_refl _,by simp;omega,by simp,RT4.out,LT4.out,HRES.out,B4.out⟩
 case round=>
  obtain⟨L,O,vo,n,hp,hL,hn,hOL,hO0,hT,hvo,hres,hB⟩:=hrel
  obtain⟨a5,c5,e5⟩:=OwnF.sli hp
  subst e5
  obtain⟨a6,c6,e6⟩:=OwnF.sli hvo
  subst e6
  have hlen:(mvL ms L).length=L.length:=mvL_len hL
  obtain⟨m5,hm5⟩:∃m,(mvL ms L).length=m:=⟨_,rfl⟩
  have hwz:=hB.size
  have HP:=hid hp
  have HL:=hid hL
  have HLEN:=hid hlen
  have HM5:=hid hm5
  have HT':=hid hT
  have HVO:=hid hvo
  have HRS:=hid hres
  have HB:=hid hB
  have yt:=row_cell hT 0
  simp at yt
  have ytl:=row_lt hT
  have hm5l:m5≤201:=by rw[←hm5,hlen];omega
  have hOl:O.length≤201:=by omega
  have yl1':w.heap.size+1 < W1.heap.size:=by omega
  rw[hm5] at hp ⊢
  by_cases hne:L=[]
  ·have hm0:m5=0:=by rw[←hm5,hlen,hne];rfl
   subst hm0
   have HE:=hid (show res=(O,true) by rw[←hres,hne,vers_nil])
   have BZ:=hid (B1.out.trans (hB.mono (by omega)))
   have hz9:w.heap.size≤W3.heap.size:=by omega
   clear hp hL hlen hm5 hT hvo hres hB
   go_wp2_with fail
   refine bodyPost_ret (v:=.tuple #[.slice a6 O.length c6,.bool true,.nilIface]) (by simp[results,Tryz.results20,go_sem]) rfl ⟨_,_,rfl,?_,?_,BZ.out⟩
   ·rw [HR0.out,HE.out];exact OwnF.base HVO.out hz9
   ·rw [HR0.out,HE.out]
  ·have hmp:0 < m5:=by rw[←hm5,hlen];exact List.length_pos_iff.2 hne
   have hq5:decide ((0:Int) < (m5:Int))=true:=by simp;omega
   have HNE:=hid hne
   have CL:=hid (mv_Clone wr HP.out (by rw[HM5.out];omega))
   rw[hm5] at CL
   clear hp hL hlen hm5 hT hvo hres hB hne
   go_wp2_with fail
   refine CL.out.mono ?_
   rintro e w5 ⟨v5,rfl,o5,b5⟩
   have hz5:=b5.size
   have B5:=hid (HB.out.trans (b5.mono hwz))
   have F5:=hid (F1.out.below B5.out (Nat.le_refl _) (Nat.le_refl _))
   have R5:=hid (row_below R1.out B5.out yl1')
   have T5:=hid (row_below HT'.out b5 ytl)
   have V5:=hid (OwnF.below HVO.out b5)
   have L5:=hid (OwnF.below HP.out b5)
   have P2:=hid (pred_2 F5.out B5.out.size HD.out.mv HDO.out R5.out T5.out V5.out hO0 (by omega) o5 hwz (by omega) ytl (fun k hk=>(OwnF.lt HVO.out k hk).2) fun m hm=>by obtain⟨i,-,h⟩:=mvL_mem hm;exact⟨i,h⟩)
   have DL:=hid (mv_Delete w5 o5 (by rw[HM5.out];omega) (enters_of Tryz.func53 (by kernel_rfl) rfl) P2.out)
   have O5:=hid o5
   have BB5:=hid b5
   obtain⟨a7,c7,e7⟩:=OwnF.sli o5
   rw[HM5.out] at e7
   subst e7
   clear o5 b5 P2
   go_wp2_with fail
   refine DL.out.mono ?_
   rintro e w6 ⟨v6,rfl,o6,g6⟩
   have hz6:=g6.size
   have e6:=mvL_filter (q:=fun i=>!isR A c (O.getLastD 0) i) F5.out.inj HL.out
   rw[←nextV_eq] at e6
   obtain⟨N,hN⟩:∃N,nextV A c (O.getLastD 0) L=N:=⟨_,rfl⟩
   rw[hN] at e6
   have O6:=hid (show OwnF Mvr.cells 133 1 w6 wr.heap.size v6 (mvL ms N) by rw[←e6];exact o6)
   have hNL:∀i ∈ N,i < ms.length∧i ∈ L:=fun i hi=>by
    rw[←hN,nextV_eq] at hi
    have:=(List.mem_filter.1 hi).1
    exact⟨HL.out i this,this⟩
   have HN:=hid hN
   have HNL:=hid hNL
   have hN6:(mvL ms N).length=N.length:=mvL_len fun i hi=>(hNL i hi).1
   obtain⟨a8,c8,e8⟩:=OwnF.sli o6
   rw[e6,hN6] at e8
   subst e8
   have B6:=hid ((BB5.out.trans (g6.below (B:=wr.heap.size) hz5 fun k hk=>(OwnF.lt O5.out k hk).1)))
   obtain⟨k6,hk6⟩:∃k,N.length=k:=⟨_,rfl⟩
   have T6:=hid (row_below HT'.out B6.out ytl)
   have V6:=hid (OwnF.below HVO.out B6.out)
   have L6:=hid (OwnF.below HP.out B6.out)
   have y6:=row_cell T6.out 0
   simp at y6
   have y6l:=row_lt T6.out
   have hk6l:k6≤201:=by
    rw[←hk6,←hN,nextV_eq]
    exact Nat.le_trans (List.length_filter_le _ _) (by omega)
   rw[hk6]
   have HK6:=hid hk6
   clear o6 g6 e6 hN hNL hN6 hk6 DL CL yt
   by_cases h1:k6=1
   ·subst h1
    obtain⟨j,rfl⟩:=List.length_eq_one_iff.1 HK6.out
    have hjl:j < ms.length:=(HNL.out j (by simp)).1
    have HJL:=hid (HNL.out j (by simp)).2
    have hmj:mvL ms [j]=[ms[j]]:=mvL_cons (L:=[]) hjl
    obtain⟨mj,hmj2⟩:∃m,ms[j]=m:=⟨_,rfl⟩
    have HMJ:=hid (show ms[j]?=some mj by rw[List.getElem?_eq_getElem hjl,hmj2])
    have o6:=O6.out
    rw[hmj,hmj2] at o6
    have B7:=hid (B6.out.alloc B6.out.size (.cells #[.slice a8 1 c8] 131))
    have O7:=hid (OwnF.alloc o6 (.cells #[.slice a8 1 c8] 131))
    have N7:=hid (row_new w6 (.cells #[.slice a8 1 c8] 131))
    have T7:=hid (row_old (o:=.cells #[.slice a8 1 c8] 131) T6.out)
    have V7:=hid (OwnF.alloc V6.out (.cells #[.slice a8 1 c8] 131))
    have L7:=hid (OwnF.alloc L6.out (.cells #[.slice a8 1 c8] 131))
    have hz7:w6.heap.size < (w6.alloc (.cells #[.slice a8 1 c8] 131)).heap.size:=by simp
    clear o6 hmj hmj2 y6 y6l
    go_wp2_with fail
    generalize w6.alloc (.cells #[.slice a8 1 c8] 131)=w7 at *
    have F7:=hid (F1.out.below (HB.out.trans (B7.out.mono hwz)) (Nat.le_refl _) (Nat.le_refl _))
    have R7:=hid (row_below R1.out (HB.out.trans (B7.out.mono hwz)) yl1')
    obtain⟨b8,o8,m8,h81,h82,h83,h84⟩:=(OwnF.sl O7.out).atF Mvr.len rfl (k:=0) (by simp)
    subst h81
    simp at h83
    subst h83
    have c0:=h84 0 (by decide)
    simp only[Mvr.cells,Nat.add_zero,Nat.zero_mul,List.getElem?_cons_zero,ptrV] at c0
    obtain⟨m9,s,g91,g92,q9⟩:=F7.out.get (k:=j) (by rw[←HML.out];exact hjl)
    rw[HMJ.out] at g91
    obtain rfl:=Option.some.inj g91
    have ym:=row_cell q9.row 8
    simp at ym
    have yml:=row_lt q9.row
    have hwl:=q9.wr.lt
    have LK:=hid (show ∀X:World,X.heap[mj.wm]?=w7.heap[mj.wm]?→(Instr.lookup 138 (.map (some mj.wm)) (.int .i64 (c:Int)) false).run Tryz.prog X=.ok (.int .i64 ((fnd (c:Int) (wrM s)).getD 0)) X from fun X hX=>look_rd (q9.wr.obj hX) (HD.out.mv s (List.mem_of_getElem? g92)).2 HDO.out)
    have HWV:=hid (wrV_eq (o:=(c:Int)) g92)
    have yo:=row_cell R7.out 0
    have yt:=row_cell T7.out 0
    have yn:=row_cell N7.out 0
    simp at yo yt yn
    have yol:=row_lt R7.out
    have ytl7:=row_lt T7.out
    have ynl:=row_lt N7.out
    have ytf:=row_free T7.out 0
    have h82':b8 < w7.heap.size:=h82
    clear h84 q9 g91 g92 h82
    obtain⟨gw,hgw⟩:∃gw,(fnd (c:Int) (wrM s)).getD 0=gw:=⟨_,rfl⟩
    rw[hgw] at LK HWV
    clear hgw
    refine wp_region_x [1,1,0,1,0,0,1,1,1,3,2,2] [0,1,2,3,4,5,6,7,8,9,10,11] (by kernel_rfl) ?_
    simp only[selX,guardAt,sD,sE,sF,sG]
    repeat first|(refine wpL_p fun K hK=>?_;go_simp;refine hK _ _ ?_;clear hK K)|(apply wpL_s;(intro w2 hw2;have hk1:=hw2.cell;have hk3:=hw2.heap;clear hw2;go_simp;with_reducible rfl);simp only[Act.put,sA,sB,sC])|refine wpL_yes rfl rfl ?_|(refine wpL_no rfl rfl fun K hK=>?_;simp only[Act.put,sA,sB,sC];refine hK _ _ ?_;clear hK K)|refine wpL_nil ?_
    refine wpL_r (fun K hK=>?_)
    refine⟨.int .i64 gw,fun w2 hw2=>?_,?_⟩
    ·have lk:=LK.out w2 (hw2.heap mj.wm (show w7.heap[mj.wm]?.isSome=true by rw[Array.getElem?_eq_getElem hwl];rfl))
     go_simp
    refine hK _ _ ?_
    clear hK K
    refine wpL_k (fun K hK=>?_)
    go_simp
    refine hK _ _ (Keeps.alloc _ _) ?_
    clear hK K
    refine wpL_e (fun K' hK=>?_)
    rw[drew_alloc]
    refine wp_appF _ _ _ rfl _ 8 Tryz.underlying30 infoI rfl V7.out.drew gw (by first|omega|(simp <;> omega)) (by rfl) (by rfl) (by first|rfl|simp) rfl (in_one _) (by first|omega|(simp only[List.length_append,List.length_cons,List.length_nil,List.length_replicate];omega)) (by first|omega|(simp only[List.length_append,List.length_cons,List.length_nil,List.length_replicate];omega)) ?_
    intro g9 c9 w8 o8' G8
    have hne:=OwnF.neT V7.out T7.out (by decide)
    have rt8:=row_grw (row_drew T7.out) G8 hne
    have hne8:=OwnF.neT o8' rt8 (by decide)
    have T9:=hid (row_set rt8 0 (.slice (some ⟨g9,0,none⟩) (O.length+1) c9))
    have V9:=hid (OwnF.other (j:=0) o8' hne8 (.slice (some ⟨g9,0,none⟩) (O.length+1) c9))
    have B9:=hid ((((Below.refl W3.heap.size w7).drew.trans (G8.below (B:=W3.heap.size) (by exact Nat.le_of_lt (Nat.lt_of_succ_lt ytl7)) fun j hj=>(OwnF.lt V7.out j hj).1)).setCell (p:=⟨W3.heap.size+1,0,none⟩) (show W3.heap.size≤W3.heap.size+1 by omega) (.slice (some ⟨g9,0,none⟩) (O.length+1) c9)))
    have neL:∀k,(Value.slice a5 m5 c5).ownBlock=some k→(Value.slice a6 O.length c6).ownBlock≠some k:=fun k hk=>by
     obtain⟨cs,hcs⟩:=OwnF.keepObj L7.out k (by rw[HM5.out];exact hk)
     exact OwnF.neT V7.out hcs (by decide)
    have neN:∀k,(Value.slice (some ⟨b8,o8,none⟩) 1 c8).ownBlock=some k→(Value.slice a6 O.length c6).ownBlock≠some k:=fun k hk=>by
     obtain⟨cs,hcs⟩:=OwnF.keepObj O7.out k hk
     exact OwnF.neT V7.out hcs (by decide)
    have l8:=OwnF.grw (OwnF.drew L7.out) G8 (by rw[HM5.out];exact neL)
    have n8:=OwnF.grw (OwnF.drew O7.out) G8 neN
    have L9:=hid (OwnF.other (j:=0) l8 (OwnF.neT l8 rt8 (by decide)) (.slice (some ⟨g9,0,none⟩) (O.length+1) c9))
    have O9:=hid (OwnF.other (j:=0) n8 (OwnF.neT n8 rt8 (by decide)) (.slice (some ⟨g9,0,none⟩) (O.length+1) c9))
    have rn8:=row_grw (row_drew N7.out) G8 (OwnF.neT V7.out N7.out (by decide))
    have N9:=hid (row_other rn8 (show W3.heap.size+1≠w6.heap.size by omega) (j:=0) (v:=.slice (some ⟨g9,0,none⟩) (O.length+1) c9))
    have y8l:=row_lt rt8
    have y8:=row_cell rt8 0
    simp at y8
    have y8f:=row_free rt8 0
    clear rt8 o8' G8 hne hne8 neL neN l8 n8 rn8 ym yml yo yt yn yol ytl7 ynl ytf c0
    refine hK _ _ ?_
    clear hK K'
    repeat first|(refine wpL_p fun K hK=>?_;go_simp;refine hK _ _ ?_;clear hK K)|(apply wpL_s;(intro w2 hw2;have hk1:=hw2.cell;have hk3:=hw2.heap;clear hw2;go_simp;with_reducible rfl);simp only[Act.put,sA,sB,sC])|refine wpL_yes rfl rfl ?_|(refine wpL_no rfl rfl fun K hK=>?_;simp only[Act.put,sA,sB,sC];refine hK _ _ ?_;clear hK K)|refine wpL_nil ?_
    refine wpL_e (fun K' hK=>?_)
    go_simp
    refine hK _ _ ?_
    clear hK K'
    repeat first|(refine wpL_p fun K hK=>?_;go_simp;refine hK _ _ ?_;clear hK K)|(apply wpL_s;(intro w2 hw2;have hk1:=hw2.cell;have hk3:=hw2.heap;clear hw2;go_simp;with_reducible rfl);simp only[Act.put,sA,sB,sC])|refine wpL_yes rfl rfl ?_|(refine wpL_no rfl rfl fun K hK=>?_;simp only[Act.put,sA,sB,sC];refine hK _ _ ?_;clear hK K)|refine wpL_nil ?_
    go_wp2_with fail
    generalize w8.setCell ⟨W3.heap.size+1,0,none⟩ (.slice (some ⟨g9,0,none⟩) (O.length+1) c9)=w9 at *
    have BF:=hid ((HB.out.trans (B7.out.mono hwz)).trans (B9.out.mono hz13))
    have F9:=hid (F1.out.below BF.out (Nat.le_refl _) (Nat.le_refl _))
    have hw79:=B9.out.size
    have hw67:=B7.out.size
    have L9':=hid (show OwnF Mvr.cells 133 1 w9 W1.heap.size (.slice a5 m5 c5) (mvL ms L) by have:=L9.out;rw[HM5.out] at this;exact this)
    have hlo:∀k,(Value.slice a5 m5 c5).ownBlock=some k→k < wr.heap.size:=fun k hk=>(OwnF.lt HP.out k (by rw[HM5.out];exact hk)).2
    have hr6:wr.heap.size≤w6.heap.size:=by have:=BB5.out.size;omega
    have P3:=hid (pred_3 F9.out BF.out.size HMJ.out N9.out O9.out L9'.out (Nat.le_refl _) (fun e=>by have:=hlo _ e;omega) hlo fun m hm=>by obtain⟨i,-,h⟩:=mvL_mem hm;exact⟨i,h⟩)
    have DL:=hid (mv_Delete w9 L9'.out (by rw[HM5.out];omega) (enters_of Tryz.func54 (by kernel_rfl) rfl) P3.out)
    clear P3
    refine DL.out.mono ?_
    rintro e w10 ⟨v10,rfl,o10,g10⟩
    have e10:=mvL_filter (q:=fun i=>decide (i=j)) F9.out.inj HL.out
    rw[e10] at o10
    obtain⟨a10,c10,e11⟩:=OwnF.sli o10
    have hL':∀i ∈ L.filter (fun i=>!decide (i=j)),i < ms.length:=fun i hi=>HL.out i (List.mem_filter.1 hi).1
    rw[mvL_len hL'] at e11
    subst e11
    have hlt:(L.filter fun i=>!decide (i=j)).length < L.length:=by
     refine List.length_filter_lt_length_iff_exists.2 ⟨j,HJL.out,by simp⟩
    obtain⟨n',rfl⟩:∃n',n=n'+1:=⟨n - 1,by omega⟩
    have HRS':=hid (show versGo A c (n'+1) (L.filter fun i=>!decide (i=j)) (O++[gw])=res by rw[←HRS.out,vers_one HNE.out HN.out,HWV.out])
    have B10:=hid (BF.out.trans (g10.below BF.out.size fun k hk=>(OwnF.lt L9'.out k hk).1))
    have T10:=hid (row_grw T9.out g10 (OwnF.neT L9'.out T9.out (by decide)))
    have V10:=hid (OwnF.grwT V9.out L9'.out (by decide) g10)
    have O10:=hid o10
    have hml':L.length=m5:=by rw[←HLEN.out,HM5.out]
    have HLM:=hid hml'
    clear o10 g10 DL e10 hml'
    go_wp2_with fail
    go_roundw
    case rel=>exact⟨_,O++[gw],_,n',O10.out,hL',by omega,by simp;omega,by simp,by simpa using T10.out,by simpa using V10.out,HRS'.out,B10.out⟩
    case measure=>have:=HLM.out;simp only;omega
   ·have hq6:((k6:Int) !=1)=true:=by simp;omega
    have HE:=hid (show res=(O,false) by rw[←HRS.out,vers_no HNE.out (by rw[HN.out,HK6.out];exact h1)])
    have BZ:=hid (B1.out.trans ((HB.out.trans (B6.out.mono hwz)).mono (by omega)))
    have hz9:w.heap.size≤W3.heap.size:=by omega
    clear h1
    go_wp2_with fail
    refine bodyPost_ret (v:=.tuple #[.slice a6 O.length c6,.bool false,.nilIface]) (by simp[results,Tryz.results20,go_sem]) rfl ⟨_,_,rfl,?_,?_,BZ.out.alloc BZ.out.size _⟩
    ·rw [HR0.out,HE.out];exact OwnF.alloc (OwnF.base V6.out hz9) _
    ·rw [HR0.out,HE.out]
end
end
section
variable {P:List Pr} {k a:Int}
theorem chain_dist:∀{n:Nat} {a:Int} {l:List Int},Dist P k n a→Chain P k n a l→∀(i:Nat) (x:Int),(a::l)[i]?=some x→i < n∧Dist P k (n - i) x
 |0,a,l,hd,_,_,_,_=>absurd hd.1 (by omega)
 |1,a,l,hd,hc,i,x,hx=>by
  unfold Chain at hc
  subst hc
  cases i with
  |zero=>simp at hx;subst hx;exact⟨by omega,hd⟩
  |succ i=>simp at hx
 |n+2,a,l,hd,⟨b,r,e,h1,h2,h3,h4,h5⟩,i,x,hx=>by
  subst e
  cases i with
  |zero=>simp at hx;subst hx;exact⟨by omega,hd⟩
  |succ i=>
   obtain⟨h6,h7⟩:=chain_dist h3 h5 i x (by simpa using hx)
   exact⟨by omega,by rw[show n+2 - (i+1)=n+1 - i by omega];exact h7⟩
theorem chain_next:∀{n:Nat} {a:Int} {l:List Int},Chain P k n a l→∀(i:Nat) (x y:Int),(a::l)[i]?=some x→(a::l)[i+1]?=some y→(x,y) ∈ P
 |0,a,l,hc,i,x,y,hx,hy=>by unfold Chain at hc;subst hc;simp at hy
 |1,a,l,hc,i,x,y,hx,hy=>by unfold Chain at hc;subst hc;simp at hy
 |n+2,a,l,⟨b,r,e,h1,h2,h3,h4,h5⟩,i,x,y,hx,hy=>by
  subst e
  cases i with
  |zero=>simp at hx hy;subst hx hy;exact h1
  |succ i=>exact chain_next h5 i x y (by simpa using hx) (by simpa using hy)
theorem chain_len:∀{n:Nat} {a:Int} {l:List Int},1≤n→Chain P k n a l→(a::l).length=n
 |0,_,_,h,_=>absurd h (by omega)
 |n+1,a,l,_,hc=>by rw[List.length_cons,hc.length]
structure Ring (P:List Pr) (N:List Int) (c:List Int):Prop where
 head:∃k r,c=k::r
 least:∀k r,c=k::r→k ∈ N∧(∀j ∈ N,j < k→¬Tc P j j)∧Dist P k c.length k
 next:∀(i:Nat) (x y:Int),c[i]?=some x→c[(i+1) % c.length]?=some y→(x,y) ∈ P
 nodup:c.Nodup
 sub:∀x ∈ c,x ∈ N
 both:∀k r,c=k::r→∀x ∈ c,Mut P k x
theorem IsCyc.ring {N c:List Int} (h:IsCyc P N c) (hP:∀a b,(a,b) ∈ P→a ∈ N∧b ∈ N):c=[]∨Ring P N c:=by
 rcases h with⟨rfl,-⟩|⟨k,n,l,h1,h2,h3,h4,rfl⟩
 ·exact .inl rfl
 ·refine .inr ?_
  have hlen:=chain_len h3.1 h4
  have hdist:=chain_dist h3 h4
  have hnd:(k::l).Nodup:=by
   unfold List.Nodup
   rw[List.pairwise_iff_getElem]
   intro i j hi hj hij e
   have q1:=hdist i _ (List.getElem?_eq_getElem hi)
   have q2:=hdist j _ (List.getElem?_eq_getElem hj)
   rw[e] at q1
   have:=q1.2.uniq q2.2
   omega
  have hnext:∀(i:Nat) (x y:Int),(k::l)[i]?=some x→(k::l)[(i+1) % (k::l).length]?=some y→(x,y) ∈ P:=by
   intro i x y hx hy
   have hi:=(List.getElem?_eq_some_iff.1 hx).1
   by_cases hl:i+1=(k::l).length
   ·rw [hl,Nat.mod_self] at hy
    simp at hy
    subst hy
    obtain⟨-,hd⟩:=hdist i x hx
    rw[show n - i=1 by omega] at hd
    exact dist_one.1 hd
   ·rw [Nat.mod_eq_of_lt (by omega)] at hy
    exact chain_next h4 i x y hx hy
  have htc:∀x ∈ k::l,Tc P x k:=fun x hx=>by
   obtain⟨i,hi⟩:=List.mem_iff_getElem?.1 hx
   exact tc_iff_dist.2 ⟨_,(hdist i x hi).2⟩
  have hfwd:∀(i:Nat) (x:Int),(k::l)[i]?=some x→k=x∨Tc P k x:=by
   intro i
   induction i with
   |zero=>intro x hx;simp at hx;exact .inl hx
   |succ i ih=>
    intro x hx
    have hi:=(List.getElem?_eq_some_iff.1 hx).1
    obtain⟨y,hy⟩:∃y,(k::l)[i]?=some y:=⟨_,List.getElem?_eq_getElem (by omega)⟩
    have hp:=chain_next h4 i y x hy hx
    rcases ih y hy with rfl|ht
    ·exact .inr (.one hp)
    ·exact .inr (.more ht hp)
  refine⟨⟨k,l,rfl⟩,?_,hnext,hnd,fun x hx=>?_,?_⟩
  ·rintro k' r e
   simp only[List.cons.injEq] at e
   obtain⟨rfl,rfl⟩:=e
   rw[hlen]
   exact⟨h1,h2,h3⟩
  ·obtain ⟨z,hz⟩:=(htc x hx).head
   exact(hP _ _ hz).1
  ·rintro k' r e x hx
   simp only[List.cons.injEq] at e
   obtain⟨rfl,rfl⟩:=e
   obtain⟨i,hi⟩:=List.mem_iff_getElem?.1 hx
   rcases hfwd i x hi with e|ht
   ·exact .inl e
   ·exact .inr ⟨ht,htc x hx⟩
end
