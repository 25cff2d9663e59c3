/- Parts of the proof, merged by program out of 4 texts (GsA, GsB, GsC, GsD): the first: The automaton of well-formed histories, of all kinds of objects: plain lists. Conditions: those of each theorem, as typed. -/
import Derived.Test.YtcpfbphcldocpaaGreatDoorQF13
import Derived.Test.YtcpfbphcldocpaaGreatDoorQF08
set_option linter.unusedVariables false
set_option linter.unusedSimpArgs false
set_option linter.unusedSectionVars false
set_option maxRecDepth 100000
set_option maxHeartbeats 4000000
namespace Go.Proofs.YtcpfbphcldocpaaGreatDoor
open Go.Maps Go.RowKit
def moveG (n:Nat) (e:Ev) (s:St):Option St:=
 if e.kind=2 then(if s.stand=1 then some (callSt e n s) else none)
 else if e.kind=3 then(if s.stand=2 then match s.deeds.getLast? with
  |some d=>if fitsB d.op e.ret=true then some (retSt e.ret e.val n s) else none
  |none=>none
  else none)
 else if e.kind=4 then(if s.stand=1 then some (tryS n s) else none)
 else if e.kind=5 then(if s.stand=3 then some (endS 3 n s) else none)
 else if e.kind=6 then(if s.stand=1∨s.stand=2∨s.stand=3∨s.stand=4 then some (endS 4 n s) else none)
 else if e.kind=7 then(if s.stand=1 then some (canS s) else none)
 else none
def hasB (x:Int) (A:Au):Bool:=A.any fun s=>s.id==x
def busyB (x:Int) (A:Au):Bool:=A.any fun s=>s.thread==x&&s.stand !=5
theorem hasB_iff {x:Int} {A:Au}:hasB x A=true↔hasId x A:=by simp[hasB,hasId]
theorem busyB_iff {x:Int} {A:Au}:busyB x A=true↔isBusy x A:=by simp[busyB,isBusy]
def stepG (A:Au) (n:Nat) (e:Ev):Option Au:=
 if e.kind=1 then(if hasB e.tx A||busyB e.thread A then none else some (A++[newSt e n]))
 else match A.findIdx? (fun s=>s.id==e.tx) with
  |none=>none
  |some k=>match A[k]? with
   |some s=>(moveG n e s).map fun s'=>A.set k s'
   |none=>none
def runG (A:Au) (n:Nat):List Ev→Option Au
 |[]=>some A
 |e::l=>(stepG A n e).bind fun A'=>runG A' (n+1) l
def tableG (os:List Ob) (es:List Ev):Option Au:=if histB os es then runG [] 0 es else none
theorem runG_snoc {e:Ev}:∀{l:List Ev} {A:Au} {n:Nat},runG A n (l++[e])=(runG A n l).bind fun A'=>stepG A' (n+l.length) e
 |[],A,n=>by
  simp only[List.nil_append,runG,Option.bind_some,List.length_nil,Nat.add_zero]
  cases stepG A n e <;> rfl
 |x::l,A,n=>by
  simp only[List.cons_append,runG]
  cases h:stepG A n x with
  |none=>rfl
  |some A'=>
   simp only[Option.bind_some]
   rw[runG_snoc]
   simp only[List.length_cons]
   congr 1
   funext A''
   congr 1
   omega
theorem moveG_cases {n:Nat} {x:Ev} {s s':St} (hm:moveG n x s=some s'):
  x.kind=2∧s.stand=1∧s'=callSt x n s∨(x.kind=3∧s.stand=2∧∃d,s.deeds.getLast?=some d∧fitsB d.op x.ret=true∧s'=retSt x.ret x.val n s)∨x.kind=4∧s.stand=1∧s'=tryS n s∨x.kind=5∧s.stand=3∧s'=endS 3 n s∨
   x.kind=6∧(s.stand=1∨s.stand=2∨s.stand=3∨s.stand=4)∧s'=endS 4 n s∨x.kind=7∧s.stand=1∧s'=canS s:=by
 unfold moveG at hm
 split at hm
 ·rename_i hk
  split at hm
  ·rename_i h1;exact .inl ⟨hk,h1,(Option.some.inj hm).symm⟩
  ·cases hm
 ·split at hm
  ·rename_i hk
   split at hm
   ·rename_i h1
    cases hd:s.deeds.getLast? with
    |none=>rw[hd] at hm;cases hm
    |some d=>
     rw[hd] at hm
     simp only at hm
     split at hm
     ·rename_i h2
      exact .inr (.inl ⟨hk,h1,d,rfl,h2,(Option.some.inj hm).symm⟩)
     ·cases hm
   ·cases hm
  ·split at hm
   ·rename_i hk
    split at hm
    ·rename_i h1;exact .inr (.inr (.inl ⟨hk,h1,(Option.some.inj hm).symm⟩))
    ·cases hm
   ·split at hm
    ·rename_i hk
     split at hm
     ·rename_i h1;exact .inr (.inr (.inr (.inl ⟨hk,h1,(Option.some.inj hm).symm⟩)))
     ·cases hm
    ·split at hm
     ·rename_i hk
      split at hm
      ·rename_i h1;exact .inr (.inr (.inr (.inr (.inl ⟨hk,h1,(Option.some.inj hm).symm⟩))))
      ·cases hm
     ·split at hm
      ·rename_i hk
       split at hm
       ·rename_i h1;exact .inr (.inr (.inr (.inr (.inr ⟨hk,h1,(Option.some.inj hm).symm⟩))))
       ·cases hm
      ·cases hm
theorem moveG_keeps {n:Nat} {x:Ev} {s s':St} (hm:moveG n x s=some s'):s'.id=s.id∧s'.thread=s.thread∧s.stand≠5:=by
 rcases moveG_cases hm with⟨h1,h2,rfl⟩|⟨h1,h2,d,hd,-,rfl⟩|⟨h1,h2,rfl⟩|⟨h1,h2,rfl⟩|⟨h1,h2,rfl⟩|⟨h1,h2,rfl⟩
 ·exact ⟨rfl,rfl,by omega⟩
 ·unfold retSt;rw[hd];exact⟨rfl,rfl,by omega⟩
 ·exact ⟨rfl,rfl,by omega⟩
 ·exact ⟨rfl,rfl,by omega⟩
 ·exact ⟨rfl,rfl,by omega⟩
 ·exact ⟨rfl,rfl,by omega⟩
theorem moveG_from {n:Nat} {x:Ev} {s:St} (hk2:2≤x.kind) (hk8:x.kind < 8) (h:s.stand ∉ fromOf x.kind):moveG n x s=none:=by
 cases hm:moveG n x s with
 |none=>rfl
 |some s'=>
  exfalso
  apply h
  rcases moveG_cases hm with⟨h1,h2,-⟩|⟨h1,h2,-⟩|⟨h1,h2,-⟩|⟨h1,h2,-⟩|⟨h1,h2,-⟩|⟨h1,h2,-⟩ <;> rw[h1] <;> first|(rw[h2];decide)|(rcases h2 with h2|h2|h2|h2 <;> rw[h2] <;> decide)
theorem moveG_none {n:Nat} {x:Ev} {s:St} (hk2:2≤x.kind) (hk8:x.kind < 8) (h:s.stand ∈ fromOf x.kind) (hm:moveG n x s=none):x.kind=3∧s.stand=2∧∀d,s.deeds.getLast?=some d→fitsB d.op x.ret=false:=by
 have hk:x.kind=2∨x.kind=3∨x.kind=4∨x.kind=5∨x.kind=6∨x.kind=7:=by omega
 unfold moveG at hm
 rcases hk with e|e|e|e|e|e <;> rw[e] at h hm <;> simp[fromOf] at h <;> simp[h] at hm
 refine⟨e,h,fun d hd=>?_⟩
 rw[hd] at hm
 simpa using hm
section
attribute [local irreducible] wpL
def IsErr (B:Nat) (w:World) (e:Ending) (w':World):Prop:=(∃t x,e=.returned (.iface t x))∧Below B w w'
def MvRetG (w:World) (B:Nat) (p:Nat×Value) (r:Option St) (e:Ending) (w':World):Prop:=match r with
 |some s'=>MvRet w B p s' e w'
 |none=>IsErr w.heap.size w e w'
section
variable {w:World} {B p:Nat} {dv:Value} {s:St}
theorem g_ret (xk xx xh xj xo xy xv xr:Int) (n:Nat) (d:Dd) (h:StAt w B (p,dv) s) (hd:s.deeds.getLast?=some d) (hE:ErrIn w 16) (hl:s.deeds.length≤1000):
  Calls Tryz.prog 173 #[.pointer (some ⟨p,0,none⟩),evV ⟨xk,xx,xh,xj,xo,xy,xv,xr⟩,.int .i64 n] w (MvRetG w B (p,dv) (if fitsB d.op xr=true then some (retSt xr xv n s) else none)):=by
 obtain⟨r,hr⟩:∃r,r=(if fitsB d.op xr=true then some (retSt xr xv n s) else none):=⟨_,rfl⟩
 rw[←hr]
 have HR:=hid hr
 clear hr
 have l0:=row_lt h.row
 have hB:B≤p:=h.hB
 have H:=hid h
 have r0:=h.row
 have hne0:s.deeds≠[]:=by rintro e;rw[e] at hd;cases hd
 obtain⟨g,cap,rfl,hgB,hgl⟩:∃g cap,dv=.slice (some ⟨g,0,none⟩) s.deeds.length cap∧B≤g∧g < w.heap.size:=by
  rcases OwnF.form h.dds with⟨-,h2⟩|⟨g,cap,h1,h2,h3⟩
  ·exact absurd h2 hne0
  ·exact ⟨g,cap,h1,h2,h3⟩
 have hdn:retSt xr xv n s={s with stand:=1,deeds:=s.deeds.dropLast++[retDd d xr xv n]}:=by unfold retSt;rw[hd]
 obtain⟨m,hm⟩:∃m,s.deeds.length=m+1:=⟨s.deeds.length - 1,by have:=List.length_pos_iff.2 hne0;omega⟩
 have hdm:s.deeds[m]?=some d:=by rw[List.getLast?_eq_getElem?,hm] at hd;simpa using hd
 have hls:∀x:Dd,s.deeds.set m x=s.deeds.dropLast++[x]:=fun x=>by
  have h1:=dd_last hd
  have h2:s.deeds.dropLast.length=m:=by rw[List.length_dropLast,hm];rfl
  conv=>lhs;rw[h1]
  rw[List.set_append_right _ _ (by omega),h2,Nat.sub_self]
  rfl
 obtain⟨q,hq⟩:∃q,s.deeds.length=q:=⟨_,rfl⟩
 rw[hq] at h r0 H ⊢
 have q1:((q:Int) - 1)=(m:Int):=by omega
 have q2:m < q:=by omega
 have qw:IntKind.i64.wrap (m:Int)=(m:Int):=IntWalk.i64_in _ (by omega)
 have hgp:g≠p:=by
  rintro rfl
  obtain⟨cs,fz,hh⟩:=OwnF.typ h.dds (g:=g) rfl
  rw[r0] at hh
  simp[stCs] at hh
 have y:=row_cell r0
 have y6:=y 6
 have y7:=y 7
 simp[stCs] at y6 y7
 have DD:=h.dds
 simp only at DD
 have SS:=OwnF.sl DD
 rw[hq] at SS
 obtain⟨b',off',x',hat',hb',hx',hc'⟩:=SS.atF Dd.len hq (k:=m) (by omega)
 simp only[Option.some.injEq,Addr.mk.injEq] at hat'
 obtain⟨rfl,rfl,-⟩:=hat'
 rw[hdm] at hx'
 obtain rfl:=Option.some.inj hx'
 have c1:=hc' 1 (by decide)
 have c4:=hc' 4 (by decide)
 have c5:=hc' 5 (by decide)
 have c7:=hc' 7 (by decide)
 simp[Dd.cells] at c1 c4 c5 c7
 have bW:Below w.heap.size w (w.alloc (.cells #[.int .i64 xk,.int .i64 xx,.int .i64 xh,.int .i64 xj,.int .i64 xo,.int .i64 xy,.int .i64 xv,.int .i64 xr] 69)):=(Below.refl _ w).alloc (Nat.le_refl _) _
 have re:=row_new w (.cells #[.int .i64 xk,.int .i64 xx,.int .i64 xh,.int .i64 xj,.int .i64 xo,.int .i64 xy,.int .i64 xv,.int .i64 xr] 69)
 have hzW:(w.alloc (.cells #[.int .i64 xk,.int .i64 xx,.int .i64 xh,.int .i64 xj,.int .i64 xo,.int .i64 xy,.int .i64 xv,.int .i64 xr] 69)).heap.size=w.heap.size+1:=by simp
 have HM:=hid hm
 have HDM:=hid hdm
 have HLS:=hid hls
 have HDN:=hid hdn
 clear y h hc' hb' hm hdm hx' hd hdn hls H hne0
 go_enter Tryz.func173,Tryz.ntmps173
 go_wp2_with fail
 generalize w.alloc (.cells #[.int .i64 xk,.int .i64 xx,.int .i64 xh,.int .i64 xj,.int .i64 xo,.int .i64 xy,.int .i64 xv,.int .i64 xr] 69)=W at *
 have y6:=cell_below bW l0 y6
 have y7:=cell_below bW l0 y7
 have c1:=cell_below bW hgl c1
 have c4:=cell_below bW hgl c4
 have c5:=cell_below bW hgl c5
 have c7:=cell_below bW hgl c7
 have r1:=row_below r0 bW l0
 have D1:=OwnF.below DD bW
 have yf:∀j,W.frozen? ⟨p,j,none⟩=false:=fun j=>row_free r1 j
 have gf:∀j,W.frozen? ⟨g,j,none⟩=false:=fun j=>OwnF.free D1 j
 have lp:p < W.heap.size:=by omega
 have lg:g < W.heap.size:=by omega
 have le:w.heap.size < W.heap.size:=by omega
 have hpe:p≠w.heap.size:=by omega
 have hge:g≠w.heap.size:=by omega
 have hpg:p≠g:=fun e=>hgp e.symm
 have e6:=row_cell re 6
 have e7:=row_cell re 7
 simp at e6 e7
 have R1:=hid r1
 have DD1:=hid D1
 have BW:=hid bW
 have HE:=hid hE
 clear hE
 clear r0 r1 D1 DD bW re
 refine wp_rN (W.heap.size) [0,0,0,0,1,0,0,0,0,1,0,0,0,0] (.fin [0,1,2,3,4,5,6,7,8,9,10,11,12,13]) (by kernel_rfl) ?_
 simp only[wpT,selX,guardAt,sD,sE,sF,sG]
 repeat first|(refine wpL_p fun K hK=>?_;go_simp;refine hK _ _ ?_;clear hK K)|(apply wpL_s;(intro w2 hw2;have hk1:=hw2.cell;have hk3:=hw2.1;clear hw2;go_simp;with_reducible rfl);simp only[Act.put,sA,sB,sC])|refine wpL_nil ?_
 go_wp2_with fail
 refine wp_rN (W.heap.size) [0,0,0,1,0,1,3,0] (.fin [0,1,2,3,4,5,6,7]) (by kernel_rfl) ?_
 simp only[wpT,selX,guardAt,sD,sE,sF,sG]
 repeat first|(refine wpL_p fun K hK=>?_;go_simp;refine hK _ _ ?_;clear hK K)|(apply wpL_s;(intro w2 hw2;have hk1:=hw2.cell;have hk3:=hw2.1;clear hw2;go_simp;with_reducible rfl);simp only[Act.put,sA,sB,sC])
 refine wpL_k (fun K hK=>?_)
 go_simp
 refine(g_Fits d.op xr _).mono ?_
 rintro e W2 ⟨rfl,hw⟩
 refine hK _ _ (by rw[hw];exact RN.KeepsN.of_below (Below.refl _ _)) ?_
 clear hK K
 rw[hw]
 clear hw W2
 cases hff:fitsB d.op xr with
 |false=>
  have hE3:=HE.out.below BW.out
  obtain⟨hg3,te,xe,he3⟩:=hE3
  repeat first|(refine wpL_p fun K hK=>?_;go_simp;refine hK _ _ ?_;clear hK K)|refine wpL_nil ?_
  go_wp2_with fail
  refine bodyPost_ret (v:=.iface te xe) (by simp[results,Tryz.results173,go_sem]) rfl ?_
  have hr:=HR.out
  rw[hff,if_neg (by decide)] at hr
  subst hr
  show IsErr _ _ _ _
  exact⟨⟨_,_,rfl⟩,BW.out.drew.drew⟩
 |true=>
  repeat first|(refine wpL_p fun K hK=>?_;go_simp;refine hK _ _ ?_;clear hK K)|refine wpL_nil ?_
  go_wp2_with fail
  refine wp_rK (fun k=>k=w.heap.size) [0,0,0,0,0,1,0,1,0,0,0,3,0,0,3,0,0,3,0,0,3] (.fin [0,1,2,3,4,5,6,7,8,9,10,11,12,13,14,15,16,17,18,19,20]) (by kernel_rfl) ?_
  simp only[wpT,selX,guardAt,sD,sE,sF,sG]
  repeat first|(refine wpL_p fun K hK=>?_;go_simp;refine hK _ _ ?_;clear hK K)|(apply wpL_s;(intro w2 hw2;have hk1:=hw2.cell;(try simp only at hk1);have hk3:=hw2.1;clear hw2;go_simp;with_reducible rfl);simp only[Act.put,sA,sB,sC])
  refine wpL_k (fun K hK=>?_)
  go_simp
  refine hK _ _ (RK.KeepsN.set _ _ _ hpe) ?_
  clear hK K
  repeat (refine wpL_p fun K hK=>?_;go_simp;refine hK _ _ ?_;clear hK K)
  refine wpL_k (fun K hK=>?_)
  go_simp
  refine hK _ _ (RK.KeepsN.set _ _ _ hge) ?_
  clear hK K
  repeat (refine wpL_p fun K hK=>?_;go_simp;refine hK _ _ ?_;clear hK K)
  refine wpL_k (fun K hK=>?_)
  go_simp
  refine hK _ _ (RK.KeepsN.set _ _ _ hge) ?_
  clear hK K
  repeat (refine wpL_p fun K hK=>?_;go_simp;refine hK _ _ ?_;clear hK K)
  refine wpL_k (fun K hK=>?_)
  go_simp
  refine hK _ _ (RK.KeepsN.set _ _ _ hge) ?_
  clear hK K
  repeat refine wpL_nil ?_
  go_wp2
  go_ret
  have hml:m < s.deeds.length:=by rw[HM.out];omega
  have d0:OwnD (W.setCell ⟨p,7,none⟩ (.int .i64 1)) B (.slice (some ⟨g,0,none⟩) q cap) s.deeds:=OwnF.other DD1.out (fun h=>hgp (by simpa[Value.ownBlock] using h)) _
  have d1:=OwnF.setAt d0 Dd.len HDM.out (j:=4) (u:=.int .i64 xr) (x':={d with ret:=xr}) (by decide) rfl
  have d2:=OwnF.setAt d1 Dd.len (List.getElem?_set_self hml) (j:=5) (u:=.int .i64 xv) (x':={d with ret:=xr,got:=xv}) (by decide) rfl
  have d3:=OwnF.setAt d2 Dd.len (List.getElem?_set_self (by simpa using hml)) (j:=7) (u:=.int .i64 n) (x':=retDd d xr xv n) (by decide) rfl
  rw[List.set_set,List.set_set,HLS.out] at d3
  have hr:=HR.out
  rw[hff,if_pos rfl] at hr
  subst hr
  show MvRet _ _ _ _ _ _
  refine⟨rfl,_,?_,?_,fun k hk=>.inl hk⟩
  ·rw [HDN.out]
   exact⟨row_other (row_other (row_other (row_set R1.out 7 (.int .i64 1)) hgp) hgp) hgp,hB,d3⟩
  ·have hc:=Chg.of_below (S:=stS (p,.slice (some ⟨g,0,none⟩) q cap)) BW.out
   exact((((hc.set (.inl rfl)).set (.inr rfl)).set (.inr rfl)).set (.inr rfl)).drew.drew.drew
end
theorem do_callG {W:World} {B B0 p n:Nat} {dv:Value} {s:St} {F:FuncId} {caps:Array Value} (xk xx xh xj xo xy xv xr:Int) (hst:StAt W B (p,dv) s) (hd:DoIs W B0 xk F caps) (hp:p < B0) (hk2:2≤xk) (hk8:xk < 8) (hfr:s.stand ∈ fromOf xk) (hdl:s.stand=2→s.deeds≠[]) (hl:s.deeds.length≤1000) (hE:ErrIn W 16):
  Calls Tryz.prog F (#[.pointer (some ⟨p,0,none⟩),evV ⟨xk,xx,xh,xj,xo,xy,xv,xr⟩,.int .i64 n]++caps) W (MvRetG W B (p,dv) (moveG n ⟨xk,xx,xh,xj,xo,xy,xv,xr⟩ s)):=by
 have hk:xk=2∨xk=3∨xk=4∨xk=5∨xk=6∨xk=7:=by omega
 rcases hk with rfl|rfl|rfl|rfl|rfl|rfl <;> simp[fromOf] at hfr <;> rcases hd with⟨e1,rfl,rfl⟩|⟨e1,rfl,rfl⟩|⟨e1,rfl,rfl⟩|⟨e1,rfl,rfl⟩|⟨rfl,c,st,e1,rfl,hc,hcB⟩ <;> first|(exfalso;omega)|skip
 ·have:moveG n ⟨2,xx,xh,xj,xo,xy,xv,xr⟩ s=some (callSt ⟨2,xx,xh,xj,xo,xy,xv,xr⟩ n s):=by simp[moveG,hfr]
  rw[this]
  exact mv_call 2 xx xh xj xo xy xv xr n hst hl
 ·obtain ⟨d,hd⟩:∃d,s.deeds.getLast?=some d:=⟨_,List.getLast?_eq_some_getLast (hdl hfr)⟩
  have:moveG n ⟨3,xx,xh,xj,xo,xy,xv,xr⟩ s=if fitsB d.op xr=true then some (retSt xr xv n s) else none:=by simp[moveG,hfr,hd]
  rw[this]
  exact g_ret 3 xx xh xj xo xy xv xr n d hst hd hE hl
 ·have:moveG n ⟨4,xx,xh,xj,xo,xy,xv,xr⟩ s=some (tryS n s):=by simp[moveG,hfr]
  rw[this]
  exact mv_try 4 xx xh xj xo xy xv xr n hst
 ·have:moveG n ⟨5,xx,xh,xj,xo,xy,xv,xr⟩ s=some (endS 3 n s):=by simp[moveG,hfr]
  rw[this]
  obtain rfl:st=3:=by omega
  exact mv_end 5 xx xh xj xo xy xv xr n c 3 hc (by omega) hst
 ·have:moveG n ⟨6,xx,xh,xj,xo,xy,xv,xr⟩ s=some (endS 4 n s):=by simp[moveG,hfr]
  rw[this]
  obtain rfl:st=4:=by omega
  exact mv_end 6 xx xh xj xo xy xv xr n c 4 hc (by omega) hst
 ·have:moveG n ⟨7,xx,xh,xj,xo,xy,xv,xr⟩ s=some (canS s):=by simp[moveG,hfr]
  rw[this]
  exact mv_can 7 xx xh xj xo xy xv xr n hst
end
section
attribute [local irreducible] wpL
def FeedRet (w:World) (B bA:Nat) (os:List Ob) (n:Nat) (A':Au) (e:Ending) (w':World):Prop:=e=.returned .nilIface∧AuAt w' B bA os (n+1) A'∧Below B w w'
theorem KeepsN_turned {N:Nat→Prop} {w w':World} {b:Nat} (h:w.mapTurned w' b) (hb:¬N b):RK.KeepsN N w w':=⟨by rw[turned_size h];exact Nat.le_refl _,fun k hk=>turned_other h (by rintro rfl;exact hb hk)⟩
def FeedPost (w:World) (B bA:Nat) (os:List Ob) (n:Nat) (r:Option Au) (e:Ending) (w':World):Prop:=match r with
 |some A'=>FeedRet w B bA os n A' e w'
 |none=>IsErr B w e w'
structure ErrsF (w:World):Prop where
 g:ErrsG w
 twice:ErrIn w 12
 thread:ErrIn w 13
 tx:ErrIn w 11
 order:ErrIn w 14
 answer:ErrIn w 16
theorem ErrsF.below {w w':World} (h:ErrsF w) (hb:Below w.heap.size w w'):ErrsF w':=⟨h.g.below hb,h.twice.below hb,h.thread.below hb,h.tx.below hb,h.order.below hb,h.answer.below hb⟩
theorem g_begin3 (xk xx xh xj xo xy xv xr:Int) {B bA n:Nat} {os:List Ob} {A:Au} (w:World) (hval:validB ⟨xk,xx,xh,xj,xo,xy,xv,xr⟩=true) (hdr:dI xr) (hk:xk=1) (hi:¬hasId xx A) (hb:¬isBusy xh A) (hn:n < 400) (hA:A.length≤1000) (h:AuAt w B bA os n A) (hW:WordsG w) (hG:ErrsF w):
  Calls Tryz.prog 78 #[.pointer (some ⟨bA,0,none⟩),evV ⟨xk,xx,xh,xj,xo,xy,xv,xr⟩] w (FeedRet w B bA os n (A++[newSt ⟨xk,xx,xh,xj,xo,xy,xv,xr⟩ n])):=by
 obtain⟨bY,bZ,ov,tv,bs,h⟩:=h
 have r0:=h.row
 have l0:=row_lt r0
 have y:=row_cell r0
 have y1:=y 1
 simp at y1
 have b0:Below w.heap.size w (w.alloc (.cells #[.int .i64 xk,.int .i64 xx,.int .i64 xh,.int .i64 xj,.int .i64 xo,.int .i64 xy,.int .i64 xv,.int .i64 xr] 69)):=(Below.refl _ w).alloc (Nat.le_refl _) _
 have re:=row_new w (.cells #[.int .i64 xk,.int .i64 xx,.int .i64 xh,.int .i64 xj,.int .i64 xo,.int .i64 xy,.int .i64 xv,.int .i64 xr] 69)
 obtain⟨hgc,tc,xc,hec⟩:=(hG.g.below b0).code
 obtain⟨hge,te,xe,hee⟩:=(hG.g.below b0).event
 have hv:=g_Valid ⟨xk,xx,xh,xj,xo,xy,xv,xr⟩ hdr _ (hW.below b0) _ _ hgc hec hge hee
 rw[hval] at hv
 simp only[if_true] at hv
 have hv:=hid hv
 have HG:=hid hG
 clear hgc hec hge hee hG hval
 have q1:((n:Int)==400)=false:=by simp;omega
 have HI:=hid hi
 have HBs:=hid hb
 have H:=hid h
 have HB0:=hid b0
 have RE:=hid re
 have hAB:=h.hB
 have hBw:B≤w.heap.size:=by omega
 subst hk
 clear y r0 h hi hb hW b0 re
 go_enter Tryz.func78,Tryz.ntmps78
 go_wp2_with fail
 obtain⟨W,hWW⟩:∃W,W=w.alloc (.cells #[.int .i64 1,.int .i64 xx,.int .i64 xh,.int .i64 xj,.int .i64 xo,.int .i64 xy,.int .i64 xv,.int .i64 xr] 69):=⟨_,rfl⟩
 rw[←hWW] at hv HB0 RE ⊢
 clear hWW
 refine(hv.out).mono ?_
 rintro e W1 ⟨rfl,b1⟩
 have H1:=hid ((H.out.below HB0.out).below b1)
 have B1:=hid (HB0.out.trans (b1.mono HB0.out.size))
 have re1:=row_below RE.out b1 (row_lt RE.out)
 have le:=row_lt re1
 have ra1:=H1.out.row
 have la:=row_lt ra1
 have hea:w.heap.size≠bA:=by omega
 have hz1:=B1.out.size
 have hbew:w.heap.size < W1.heap.size:=le
 have y:=row_cell re1
 have e0:=y 0
 have e1:=y 1
 have e2:=y 2
 simp at e0 e1 e2
 have z:=row_cell ra1
 have a1:=z 1
 have a2:=z 2
 have a3:=z 3
 have a4:=z 4
 simp at a1 a2 a3 a4
 have yf:∀j,W1.frozen? ⟨bA,j,none⟩=false:=fun j=>row_free ra1 j
 obtain⟨MY,hmY,f1,f2⟩:=H1.out.by_.2
 obtain⟨MZ,hmZ,f5⟩:=H1.out.bz.2
 have lY:=hmY.lt
 have lZ:=hmZ.lt
 have lk1:=(hmY.drew.look Tryz.underlying3 Tryz.underlying174 (zeroPs W1.drew) xx (f2 xx HI.out)).2
 have lk2:=(hmZ.drew.drew.look Tryz.underlying3 Tryz.underlying174 (zeroPs W1.drew.drew) xh (f5.1 xh HBs.out)).1
 simp only[Option.getD_none,Option.isSome_none] at lk1 lk2
 have RE1:=hid re1
 have RA1:=hid ra1
 have F:=hid (And.intro hmY (And.intro f1 (And.intro f2 (And.intro hmZ f5))))
 clear y z re1 ra1 hmY f1 f2 hmZ f5 b1 hv
 go_wp2_with fail
 refine wp_rN (W1.heap.size) [0,0,0,1,0,1,2,0,0,0,0,0] (.fin [0,1,2,3,4,5,6,7,8,9,10,11]) (by kernel_rfl) ?_
 simp only[wpT,selX,guardAt,sD,sE,sF,sG]
 repeat first|(refine wpL_p fun K hK=>?_;go_simp;refine hK _ _ ?_;clear hK K)|(apply wpL_s;(intro w2 hw2;have hk1:=hw2.cell;have hk3:=hw2.1;clear hw2;go_simp;with_reducible rfl);simp only[Act.put,sA,sB,sC])
 refine wpL_e (fun K hK=>?_)
 go_simp
 refine hK _ _ ?_
 clear hK K lk1
 repeat first|(refine wpL_p fun K hK=>?_;go_simp;refine hK _ _ ?_;clear hK K)|refine wpL_nil ?_
 go_wp2_with fail
 refine wp_rN (W1.heap.size) [0,0,0,1,0,1,2,0,0] (.fin [0,1,2,3,4,5,6,7,8]) (by kernel_rfl) ?_
 simp only[wpT,selX,guardAt,sD,sE,sF,sG]
 repeat first|(refine wpL_p fun K hK=>?_;go_simp;refine hK _ _ ?_;clear hK K)|(apply wpL_s;(intro w2 hw2;have hk1:=hw2.cell;have hk3:=hw2.1;clear hw2;go_simp;with_reducible rfl);simp only[Act.put,sA,sB,sC])
 refine wpL_e (fun K hK=>?_)
 go_simp
 refine hK _ _ ?_
 clear hK K lk2
 repeat first|(refine wpL_p fun K hK=>?_;go_simp;refine hK _ _ ?_;clear hK K)|refine wpL_nil ?_
 go_wp2_with fail
 refine wp_rN (W1.heap.size) [0,1,0,1,0,0,0,1,0,0,3,0] (.fin [0,1,2,3,4,5,6,7,8,9,10,11]) (by kernel_rfl) ?_
 simp only[wpT,selX,guardAt,sD,sE,sF,sG]
 repeat first|(refine wpL_p fun K hK=>?_;go_simp;refine hK _ _ ?_;clear hK K)|(apply wpL_s;(intro w2 hw2;have hk1:=hw2.cell;have hk3:=hw2.1;clear hw2;go_simp;with_reducible rfl);simp only[Act.put,sA,sB,sC])
 refine wpL_k (fun K hK=>?_)
 go_simp
 refine hK _ _ (RN.KeepsN.alloc _ _ (Nat.le_refl _)) ?_
 clear hK K
 repeat first|(refine wpL_p fun K hK=>?_;go_simp;refine hK _ _ ?_;clear hK K)|refine wpL_nil ?_
 have bV:Below W1.heap.size W1 (W1.alloc (.cells #[.int .i64 xx,.int .i64 xh,.int .i64 1,.int .i64 n,.int .i64 (-1),.int .i64 (-1),.slice none 0 0,.int .i64 1] 179)).drew.drew.drew:=((Below.refl _ W1).alloc (Nat.le_refl _) _).drew.drew.drew
 have rp:(W1.alloc (.cells #[.int .i64 xx,.int .i64 xh,.int .i64 1,.int .i64 n,.int .i64 (-1),.int .i64 (-1),.slice none 0 0,.int .i64 1] 179)).drew.drew.drew.heap[W1.heap.size]?=some (.cells #[.int .i64 xx,.int .i64 xh,.int .i64 1,.int .i64 n,.int .i64 (-1),.int .i64 (-1),.slice none 0 0,.int .i64 1] 179 (0,0)):=row_new W1 _
 have zV:W1.heap.size < (W1.alloc (.cells #[.int .i64 xx,.int .i64 xh,.int .i64 1,.int .i64 n,.int .i64 (-1),.int .i64 (-1),.slice none 0 0,.int .i64 1] 179)).drew.drew.drew.heap.size:=row_lt rp
 generalize (W1.alloc (.cells #[.int .i64 xx,.int .i64 xh,.int .i64 1,.int .i64 n,.int .i64 (-1),.int .i64 (-1),.slice none 0 0,.int .i64 1] 179)).drew.drew.drew=V at *
 have HV:=hid (H1.out.below bV)
 have BV:=hid (B1.out.trans (bV.mono hz1))
 have BV1:=hid bV
 have rv:=row_below RA1.out bV la
 have ev:=row_below RE1.out bV le
 have lv:=row_lt rv
 have z:=row_cell rv
 clear a1 a2 a3 a4 e0 e1 e2 yf
 have a1:=z 1
 have a2:=z 2
 have a3:=z 3
 have a4:=z 4
 simp at a1 a2 a3 a4
 have hBV:B≤V.heap.size:=by omega
 have hlen:(bs.map fun p=>ptrV p.1).length≤1000:=by rw[List.length_map,HV.out.len];exact hA
 have RV:=hid rv
 have EV:=hid ev
 have RP:=hid rp
 clear z rv ev rp bV F lY lZ
 go_wp2_with (at_builtin;refine wpList_appF rfl _ _ _ rfl _ 8 Tryz.underlying173 infoPs rfl HV.out.txs (ptrV W1.heap.size) hBV (by rfl) (by rfl) (by first|rfl|simp) rfl (ptr_one _) (by first|omega|(simp only[List.length_append,List.length_cons,List.length_nil,List.length_replicate];omega)) (by first|omega|(simp only[List.length_append,List.length_cons,List.length_nil,List.length_replicate];omega)) ?_;refine Stop.halt ?_)
 refine Stop.go ?_
 intro g cap X ho hg
 have c1:=Chg.grw (S:=fun k=>tv.ownBlock=some k) hg (fun _ h=>h)
 have rx:=row_grw RV.out hg (OwnF.neT HV.out.txs RV.out (by decide))
 have ex:=row_grw EV.out hg (OwnF.neT HV.out.txs EV.out (by decide))
 have px:=row_grw RP.out hg (OwnF.neT HV.out.txs RP.out (by decide))
 have notM:∀b,(∃es c,V.heap[b]?=some (.map es c))→¬tv.ownBlock=some b:=fun b hb hk=>by
  obtain⟨cs,fz,hh⟩:=OwnF.typ HV.out.txs hk
  obtain⟨es,c,hb⟩:=hb
  rw[hb] at hh;cases hh
 obtain⟨MY,hmY,f1,f2⟩:=HV.out.by_.2
 obtain⟨MZ,hmZ,f5⟩:=HV.out.bz.2
 have xY:=hmY.chg c1 (notM _ hmY.isMap)
 have xZ:=hmZ.chg c1 (notM _ hmZ.isMap)
 have lx:=row_lt rx
 have zx:V.heap.size≤X.heap.size:=hg.size
 clear a1 a2 a3 a4
 have z:=row_cell rx
 have a2:=z 2
 simp at a2
 have yf:∀j,X.frozen? ⟨bA,j,none⟩=false:=fun j=>row_free rx j
 have HX:=hid (And.intro ho (And.intro hg (And.intro c1 (And.intro rx (And.intro ex (And.intro px (And.intro xY xZ)))))))
 have FF:=hid (And.intro f1 (And.intro f2 f5))
 clear z ho hg c1 rx ex px xY xZ notM hmY hmZ f1 f2 f5
 go_wp2_with fail
 obtain⟨ho,hg,c1,rx,ex,px,xY,xZ⟩:=HX.out
 try simp only[List.length_map] at ho hg
 have hbe:bA≠w.heap.size:=fun e=>hea e.symm
 have hpa:W1.heap.size≠bA:=by omega
 have r1:=row_set rx 2 (.slice (some ⟨g,0,none⟩) (bs.length+1) cap)
 have v1:=row_other (g':=bA) (j:=2) (v:=.slice (some ⟨g,0,none⟩) (bs.length+1) cap) ex hbe
 have p1:=row_other (g':=bA) (j:=2) (v:=.slice (some ⟨g,0,none⟩) (bs.length+1) cap) px (Ne.symm hpa)
 have nY:bY≠bA:=fun e=>by
  obtain⟨es,c,hh⟩:=xY.isMap
  rw[e,rx] at hh;cases hh
 have nZ:bZ≠bA:=fun e=>by
  obtain⟨es,c,hh⟩:=xZ.isMap
  rw[e,rx] at hh;cases hh
 have nYe:bY≠w.heap.size:=fun e=>by
  obtain⟨es,c,hh⟩:=xY.isMap
  rw[e,ex] at hh;cases hh
 have nZe:bZ≠w.heap.size:=fun e=>by
  obtain⟨es,c,hh⟩:=xZ.isMap
  rw[e,ex] at hh;cases hh
 have Y1:=xY.set (g:=bA) (j:=2) (v:=.slice (some ⟨g,0,none⟩) (bs.length+1) cap) nY
 have Z1:=xZ.set (g:=bA) (j:=2) (v:=.slice (some ⟨g,0,none⟩) (bs.length+1) cap) nZ
 have hgne:(Value.slice (some ⟨g,0,none⟩) (bs.length+1) cap).ownBlock≠some bA:=OwnF.neT ho rx (by decide)
 have T1:=OwnF.other (j:=2) ho hgne (.slice (some ⟨g,0,none⟩) (bs.length+1) cap)
 have zX:(X.setCell ⟨bA,2,none⟩ (.slice (some ⟨g,0,none⟩) (bs.length+1) cap)).heap.size=X.heap.size:=by simp
 have c2:Chg (fun k=>k=bA∨tv.ownBlock=some k∨k=bY∨k=bZ) V (X.setCell ⟨bA,2,none⟩ (.slice (some ⟨g,0,none⟩) (bs.length+1) cap)):=(c1.mono fun j hj=>.inr (.inl hj)).set (.inl rfl)
 generalize X.setCell ⟨bA,2,none⟩ (.slice (some ⟨g,0,none⟩) (bs.length+1) cap)=Y at *
 clear a2 yf
 have z:=row_cell r1
 have a1:=z 1
 have a3:=z 3
 have a4:=z 4
 simp at a1 a3 a4
 have y:=row_cell v1
 have e1:=y 1
 have e2:=y 2
 simp at e1 e2
 have HY:=hid (And.intro r1 (And.intro v1 (And.intro p1 (And.intro Y1 (And.intro Z1 (And.intro T1 c2))))))
 have lxY:V.heap.size≤Y.heap.size:=by omega
 clear z y r1 v1 p1 Y1 Z1 T1 c2 ho hg c1 rx ex px xY xZ zX
 refine wp_rK (fun k=>k=bA∨k=w.heap.size) [0,0,0,1,0,1,0,0,0,1,0,1,0,0,3,0,3,3,0,3] (.fin [0,1,2,3,4,5,6,7,8,9,10,11,12,13,14,15,16,17,18,19]) (by kernel_rfl) ?_
 simp only[wpT,selX,guardAt,sD,sE,sF,sG]
 repeat first|(refine wpL_p fun K hK=>?_;go_simp;refine hK _ _ ?_;clear hK K)|(apply wpL_s;(intro w2 hw2;have hk1:=hw2.cell;(try simp only at hk1);have hk3:=hw2.1;clear hw2;go_simp;with_reducible rfl);simp only[Act.put,sA,sB,sC])
 have nNY:¬(bY=bA∨bY=w.heap.size):=fun h=>h.elim nY nYe
 have nNZ:¬(bZ=bA∨bZ=w.heap.size):=fun h=>h.elim nZ nZe
 have hyz:=H1.out.ne
 refine wpL_k (fun K hK=>?_)
 refine HY.out.2.2.2.1.drew.wp_entry Tryz.underlying3 Tryz.underlying174 (zeroPs _) (a:=xx) rfl rfl rfl ?_
 intro X1 v1 n1 M1 ha1 hn1 t1
 refine hK _ _ (KeepsN_turned t1 nNY) ?_
 clear hK K
 repeat (refine wpL_p fun K hK=>?_;go_simp;refine hK _ _ ?_;clear hK K)
 refine wpL_k (fun K hK=>?_)
 refine ha1.wp_stored rfl rfl rfl rfl ?_
 intro X2 hm2 t2
 refine hK _ _ (KeepsN_turned t2 nNY) ?_
 clear hK K
 have zz2:RawM X2 bZ MZ:=((HY.out.2.2.2.2.1.drew).obj (turned_other t1 (Ne.symm hyz))).obj (turned_other t2 (Ne.symm hyz))
 refine wpL_k (fun K hK=>?_)
 refine zz2.wp_entry Tryz.underlying3 Tryz.underlying174 (zeroPs _) (a:=xh) rfl rfl rfl ?_
 intro X3 v3 n3 M3 ha3 hn3 t3
 refine hK _ _ (KeepsN_turned t3 nNZ) ?_
 clear hK K
 repeat (refine wpL_p fun K hK=>?_;go_simp;refine hK _ _ ?_;clear hK K)
 refine wpL_k (fun K hK=>?_)
 refine ha3.wp_stored rfl rfl rfl rfl ?_
 intro X4 hm4 t4
 refine hK _ _ (KeepsN_turned t4 nNZ) ?_
 clear hK K
 have yy4:=(hm2.obj (turned_other t3 hyz)).obj (turned_other t4 hyz)
 obtain⟨r1,v1,p1,Y1,Z1,T1,c2⟩:=HY.out
 have r4:=row_map t4 (row_map t3 (row_map t2 (row_map t1 (row_drew r1))))
 have p4:=row_map t4 (row_map t3 (row_map t2 (row_map t1 (row_drew p1))))
 have c4:=(((c2.drew.trans (Chg.turned (S:=fun k=>k=bY) t1 rfl) fun j _ hj=>.inr (.inr (.inl hj))).trans (Chg.turned (S:=fun k=>k=bY) t2 rfl) fun j _ hj=>.inr (.inr (.inl hj))).trans (Chg.turned (S:=fun k=>k=bZ) t3 rfl) fun j _ hj=>.inr (.inr (.inr hj))).trans (Chg.turned (S:=fun k=>k=bZ) t4 rfl) fun j _ hj=>.inr (.inr (.inr hj))
 have tt:∀{P Q:World} {b:Nat},P.mapTurned Q b→OwnF valC 177 1 P B (.slice (some ⟨g,0,none⟩) (bs.length+1) cap) (bs.map (fun p=>ptrV p.1)++[ptrV W1.heap.size])→OwnF valC 177 1 Q B (.slice (some ⟨g,0,none⟩) (bs.length+1) cap) (bs.map (fun p=>ptrV p.1)++[ptrV W1.heap.size]):=fun {P Q b} ht ho=>OwnF.chg ho (Chg.turned (S:=fun k=>k=b) ht rfl) fun k hk e=>by
  obtain⟨cs,fz,hh⟩:=OwnF.typ ho hk
  obtain⟨es,c,es',c',hb,-⟩:=ht
  rw[e,hb] at hh;cases hh
 have T4:=tt t4 (tt t3 (tt t2 (tt t1 (OwnF.drew T1))))
 have l4:=row_lt r4
 clear a1 a3 a4 e1 e2
 have z:=row_cell r4
 have a1:=z 1
 simp at a1
 have yf:∀j,X4.frozen? ⟨bA,j,none⟩=false:=fun j=>row_free r4 j
 have H4:=hid (And.intro r4 (And.intro p4 (And.intro c4 (And.intro T4 (And.intro yy4 hm4)))))
 have HN:=hid (And.intro hn1 hn3)
 clear z r4 p4 c4 T4 yy4 hm4 tt r1 v1 p1 Y1 Z1 T1 c2 t1 t2 t3 t4 ha1 ha3 hm2 zz2 hn1 hn3 nNY nNZ HY
 repeat refine wpL_nil ?_
 go_wp2
 go_ret
 obtain⟨r4,p4,c4,T4,yy4,hm4⟩:=H4.out
 obtain⟨f1,f2,f5⟩:=FF.out
 have r5:=row_set r4 1 (.int .i64 ((n:Int)+1))
 have cc:Chg (fun k=>k=bA∨tv.ownBlock=some k∨k=bY∨k=bZ) W1 (X4.setCell ⟨bA,1,none⟩ (.int .i64 ((n:Int)+1))):=((Chg.of_below BV1.out).trans c4 fun j _ hj=>hj).set (.inl rfl)
 have key:=H1.out.begun cc (n':=n+1) (p:=W1.heap.size) (tv':=.slice (some ⟨g,0,none⟩) (bs.length+1) cap) (s:=newSt ⟨1,xx,xh,xj,xo,xy,xv,xr⟩ n) r5 (by rw[List.map_append];exact OwnF.other T4 hgne _)
  ⟨row_other p4 (Ne.symm hpa),by show B≤W1.heap.size;omega,OwnF.nil _ _⟩ (Nat.le_refl _) (yy4.set nY) f1 f2 (fun k hk=>(rup_ne hk).trans (HN.out.1 k hk)) rup_same HI.out (hm4.set nZ) f5 (fun k hk=>(rup_ne hk).trans (HN.out.2 k hk)) rup_same rfl
 refine⟨rfl,⟨bY,bZ,ov,_,_,key.zmono fun x=>busy_snoc_iff (by simp[newSt])⟩,?_⟩
 have gY:=H1.out.by_.1
 have gZ:=H1.out.bz.1
 have gT:∀k,tv.ownBlock=some k→B≤k:=fun k hk=>(OwnF.lt H1.out.txs k hk).1
 exact(B1.out.mono hBw).trans (cc.below (fun j hj=>by
  rcases hj with rfl|hj|rfl|rfl
  ·exact hAB
  ·exact gT j hj
  ·exact gY
  ·exact gZ) (by omega))
theorem g_begin1 (xk xx xh xj xo xy xv xr:Int) {B bA n:Nat} {os:List Ob} {A:Au} (w:World) (hval:validB ⟨xk,xx,xh,xj,xo,xy,xv,xr⟩=true) (hdr:dI xr) (hk:xk=1) (hi:hasId xx A) (hn:n < 400) (hA:A.length≤1000) (h:AuAt w B bA os n A) (hW:WordsG w) (hG:ErrsF w):
  Calls Tryz.prog 78 #[.pointer (some ⟨bA,0,none⟩),evV ⟨xk,xx,xh,xj,xo,xy,xv,xr⟩] w (IsErr B w):=by
 obtain⟨bY,bZ,ov,tv,bs,h⟩:=h
 have r0:=h.row
 have l0:=row_lt r0
 have y:=row_cell r0
 have y1:=y 1
 simp at y1
 have b0:Below w.heap.size w (w.alloc (.cells #[.int .i64 xk,.int .i64 xx,.int .i64 xh,.int .i64 xj,.int .i64 xo,.int .i64 xy,.int .i64 xv,.int .i64 xr] 69)):=(Below.refl _ w).alloc (Nat.le_refl _) _
 have re:=row_new w (.cells #[.int .i64 xk,.int .i64 xx,.int .i64 xh,.int .i64 xj,.int .i64 xo,.int .i64 xy,.int .i64 xv,.int .i64 xr] 69)
 obtain⟨hgc,tc,xc,hec⟩:=(hG.g.below b0).code
 obtain⟨hge,te,xe,hee⟩:=(hG.g.below b0).event
 have hv:=g_Valid ⟨xk,xx,xh,xj,xo,xy,xv,xr⟩ hdr _ (hW.below b0) _ _ hgc hec hge hee
 rw[hval] at hv
 simp only[if_true] at hv
 have hv:=hid hv
 have HG:=hid hG
 clear hgc hec hge hee hG hval
 have q1:((n:Int)==400)=false:=by simp;omega
 have HI:=hid hi
 have H:=hid h
 have HB0:=hid b0
 have RE:=hid re
 have hAB:=h.hB
 have hBw:B≤w.heap.size:=by omega
 subst hk
 clear y r0 h hi hW b0 re
 go_enter Tryz.func78,Tryz.ntmps78
 go_wp2_with fail
 obtain⟨W,hWW⟩:∃W,W=w.alloc (.cells #[.int .i64 1,.int .i64 xx,.int .i64 xh,.int .i64 xj,.int .i64 xo,.int .i64 xy,.int .i64 xv,.int .i64 xr] 69):=⟨_,rfl⟩
 rw[←hWW] at hv HB0 RE ⊢
 clear hWW
 refine(hv.out).mono ?_
 rintro e W1 ⟨rfl,b1⟩
 have H1:=hid ((H.out.below HB0.out).below b1)
 have B1:=hid (HB0.out.trans (b1.mono HB0.out.size))
 have re1:=row_below RE.out b1 (row_lt RE.out)
 have le:=row_lt re1
 have ra1:=H1.out.row
 have la:=row_lt ra1
 have hea:w.heap.size≠bA:=by omega
 have hz1:=B1.out.size
 have hbew:w.heap.size < W1.heap.size:=le
 have y:=row_cell re1
 have e0:=y 0
 have e1:=y 1
 have e2:=y 2
 simp at e0 e1 e2
 have z:=row_cell ra1
 have a1:=z 1
 have a2:=z 2
 have a3:=z 3
 have a4:=z 4
 simp at a1 a2 a3 a4
 have yf:∀j,W1.frozen? ⟨bA,j,none⟩=false:=fun j=>row_free ra1 j
 obtain⟨MY,hmY,f1,f2⟩:=H1.out.by_.2
 obtain⟨MZ,hmZ,f5⟩:=H1.out.bz.2
 have lY:=hmY.lt
 have lZ:=hmZ.lt
 obtain⟨s,hs,hsi⟩:=HI.out
 obtain⟨k,hk⟩:=List.mem_iff_getElem?.1 hs
 obtain⟨bp,hbp,-⟩:=H1.out.get hk
 have hMp:MY xx=some (ptrV bp.1):=by rw[←hsi];exact f1 k bp s hbp hk
 have lk1:=(hmY.drew.look Tryz.underlying3 Tryz.underlying174 (zeroPs W1.drew) xx hMp).2
 simp only[Option.getD_some,Option.isSome_some] at lk1
 unfold ptrV at lk1
 have RE1:=hid re1
 have RA1:=hid ra1
 clear y z re1 ra1 f1 f2 hmZ f5 b1 hv
 go_wp2_with fail
 refine wp_rN (W1.heap.size) [0,0,0,1,0,1,2,0,0,0,0,0] (.fin [0,1,2,3,4,5,6,7,8,9,10,11]) (by kernel_rfl) ?_
 simp only[wpT,selX,guardAt,sD,sE,sF,sG]
 repeat first|(refine wpL_p fun K hK=>?_;go_simp;refine hK _ _ ?_;clear hK K)|(apply wpL_s;(intro w2 hw2;have hk1:=hw2.cell;have hk3:=hw2.1;clear hw2;go_simp;with_reducible rfl);simp only[Act.put,sA,sB,sC])
 refine wpL_e (fun K hK=>?_)
 go_simp
 refine hK _ _ ?_
 clear hK K lk1
 repeat first|(refine wpL_p fun K hK=>?_;go_simp;refine hK _ _ ?_;clear hK K)|refine wpL_nil ?_
 obtain⟨hg3,tw,xw,he3⟩:=HG.out.twice.below B1.out.drew
 go_wp2_with fail
 refine bodyPost_ret (v:=.iface tw xw) (by simp[results,Tryz.results78,go_sem]) rfl ⟨⟨_,_,rfl⟩,?_⟩
 exact B1.out.drew.mono hBw
theorem g_begin2 (xk xx xh xj xo xy xv xr:Int) {B bA n:Nat} {os:List Ob} {A:Au} (w:World) (hval:validB ⟨xk,xx,xh,xj,xo,xy,xv,xr⟩=true) (hdr:dI xr) (hk:xk=1) (hi:¬hasId xx A) (hb:isBusy xh A) (hn:n < 400) (hA:A.length≤1000) (h:AuAt w B bA os n A) (hW:WordsG w) (hG:ErrsF w):
  Calls Tryz.prog 78 #[.pointer (some ⟨bA,0,none⟩),evV ⟨xk,xx,xh,xj,xo,xy,xv,xr⟩] w (IsErr B w):=by
 obtain⟨bY,bZ,ov,tv,bs,h⟩:=h
 have r0:=h.row
 have l0:=row_lt r0
 have y:=row_cell r0
 have y1:=y 1
 simp at y1
 have b0:Below w.heap.size w (w.alloc (.cells #[.int .i64 xk,.int .i64 xx,.int .i64 xh,.int .i64 xj,.int .i64 xo,.int .i64 xy,.int .i64 xv,.int .i64 xr] 69)):=(Below.refl _ w).alloc (Nat.le_refl _) _
 have re:=row_new w (.cells #[.int .i64 xk,.int .i64 xx,.int .i64 xh,.int .i64 xj,.int .i64 xo,.int .i64 xy,.int .i64 xv,.int .i64 xr] 69)
 obtain⟨hgc,tc,xc,hec⟩:=(hG.g.below b0).code
 obtain⟨hge,te,xe,hee⟩:=(hG.g.below b0).event
 have hv:=g_Valid ⟨xk,xx,xh,xj,xo,xy,xv,xr⟩ hdr _ (hW.below b0) _ _ hgc hec hge hee
 rw[hval] at hv
 simp only[if_true] at hv
 have hv:=hid hv
 have HG:=hid hG
 clear hgc hec hge hee hG hval
 have q1:((n:Int)==400)=false:=by simp;omega
 have HI:=hid hi
 have HBs:=hid hb
 have H:=hid h
 have HB0:=hid b0
 have RE:=hid re
 have hAB:=h.hB
 have hBw:B≤w.heap.size:=by omega
 subst hk
 clear y r0 h hi hb hW b0 re
 go_enter Tryz.func78,Tryz.ntmps78
 go_wp2_with fail
 obtain⟨W,hWW⟩:∃W,W=w.alloc (.cells #[.int .i64 1,.int .i64 xx,.int .i64 xh,.int .i64 xj,.int .i64 xo,.int .i64 xy,.int .i64 xv,.int .i64 xr] 69):=⟨_,rfl⟩
 rw[←hWW] at hv HB0 RE ⊢
 clear hWW
 refine(hv.out).mono ?_
 rintro e W1 ⟨rfl,b1⟩
 have H1:=hid ((H.out.below HB0.out).below b1)
 have B1:=hid (HB0.out.trans (b1.mono HB0.out.size))
 have re1:=row_below RE.out b1 (row_lt RE.out)
 have le:=row_lt re1
 have ra1:=H1.out.row
 have la:=row_lt ra1
 have hea:w.heap.size≠bA:=by omega
 have hz1:=B1.out.size
 have hbew:w.heap.size < W1.heap.size:=le
 have y:=row_cell re1
 have e0:=y 0
 have e1:=y 1
 have e2:=y 2
 simp at e0 e1 e2
 have z:=row_cell ra1
 have a1:=z 1
 have a2:=z 2
 have a3:=z 3
 have a4:=z 4
 simp at a1 a2 a3 a4
 have yf:∀j,W1.frozen? ⟨bA,j,none⟩=false:=fun j=>row_free ra1 j
 obtain⟨MY,hmY,f1,f2⟩:=H1.out.by_.2
 obtain⟨MZ,hmZ,f5⟩:=H1.out.bz.2
 have lY:=hmY.lt
 have lZ:=hmZ.lt
 have lk1:=(hmY.drew.look Tryz.underlying3 Tryz.underlying174 (zeroPs W1.drew) xx (f2 xx HI.out)).2
 obtain⟨gz,hgz⟩:=f5.2 xh HBs.out
 have lk2:=(hmZ.drew.drew.look Tryz.underlying3 Tryz.underlying174 (zeroPs W1.drew.drew) xh hgz).1
 simp only[Option.getD_none,Option.isSome_none] at lk1
 simp only[Option.getD_some] at lk2
 unfold ptrV at lk2
 have RE1:=hid re1
 have RA1:=hid ra1
 have F:=hid (And.intro hmY (And.intro f1 (And.intro f2 (And.intro hmZ f5))))
 clear y z re1 ra1 hmY f1 f2 hmZ f5 b1 hv
 go_wp2_with fail
 refine wp_rN (W1.heap.size) [0,0,0,1,0,1,2,0,0,0,0,0] (.fin [0,1,2,3,4,5,6,7,8,9,10,11]) (by kernel_rfl) ?_
 simp only[wpT,selX,guardAt,sD,sE,sF,sG]
 repeat first|(refine wpL_p fun K hK=>?_;go_simp;refine hK _ _ ?_;clear hK K)|(apply wpL_s;(intro w2 hw2;have hk1:=hw2.cell;have hk3:=hw2.1;clear hw2;go_simp;with_reducible rfl);simp only[Act.put,sA,sB,sC])
 refine wpL_e (fun K hK=>?_)
 go_simp
 refine hK _ _ ?_
 clear hK K lk1
 repeat first|(refine wpL_p fun K hK=>?_;go_simp;refine hK _ _ ?_;clear hK K)|refine wpL_nil ?_
 go_wp2_with fail
 refine wp_rN (W1.heap.size) [0,0,0,1,0,1,2,0,0] (.fin [0,1,2,3,4,5,6,7,8]) (by kernel_rfl) ?_
 simp only[wpT,selX,guardAt,sD,sE,sF,sG]
 repeat first|(refine wpL_p fun K hK=>?_;go_simp;refine hK _ _ ?_;clear hK K)|(apply wpL_s;(intro w2 hw2;have hk1:=hw2.cell;have hk3:=hw2.1;clear hw2;go_simp;with_reducible rfl);simp only[Act.put,sA,sB,sC])
 refine wpL_e (fun K hK=>?_)
 go_simp
 refine hK _ _ ?_
 clear hK K lk2
 repeat first|(refine wpL_p fun K hK=>?_;go_simp;refine hK _ _ ?_;clear hK K)|refine wpL_nil ?_
 obtain⟨hg3,tw,xw,he3⟩:=HG.out.thread.below B1.out.drew.drew
 go_wp2_with fail
 refine bodyPost_ret (v:=.iface tw xw) (by simp[results,Tryz.results78,go_sem]) rfl ⟨⟨_,_,rfl⟩,?_⟩
 exact B1.out.drew.drew.mono hBw
end
theorem wp_mid {P:Program} {c:Code} {Q:Exit→Act→World→Prop} {a:Act} {w:World} (R:Act→Act→World→Prop) (h1:c.wp P (fun e a' X=>e=.normal∧R a a' X) a w) (h2:∀a' X,R a a' X→Q .normal a' X):c.wp P Q a w:=
 wp_mono h1 (by rintro e a' X ⟨rfl,h⟩;exact h2 a' X h)
theorem zeroMove (w:World):(zeroValue 250).run Tryz.prog w=.ok (.agg #[.slice none 0 0,.nilFunc]) w:=by kernel_rfl
theorem DoIs.cf {w:World} {B0:Nat} {k:Int} {F:FuncId} {caps:Array Value} (h:DoIs w B0 k F caps) (args:Array Value) (X:World):Sem.run Tryz.prog (callFunc F args) X=.ok (.enter F args) X:=by
 rcases h with⟨-,rfl,-⟩|⟨-,rfl,-⟩|⟨-,rfl,-⟩|⟨-,rfl,-⟩|⟨rfl,-⟩ <;> kernel_rfl
theorem DoIs.base {w:World} {B0 B1:Nat} {k:Int} {F:FuncId} {caps:Array Value} (h:DoIs w B0 k F caps) (hB:B1≤B0):DoIs w B1 k F caps:=by
 rcases h with h|h|h|h|⟨h1,c,st,h2,h3,h4,h5⟩
 ·exact .inl h
 ·exact .inr (.inl h)
 ·exact .inr (.inr (.inl h))
 ·exact .inr (.inr (.inr (.inl h)))
 ·exact .inr (.inr (.inr (.inr ⟨h1,c,st,h2,h3,h4,by omega⟩)))
theorem DoIs.set {w:World} {B0 b j:Nat} {u:Value} {k:Int} {F:FuncId} {caps:Array Value} (h:DoIs w B0 k F caps) (hb:b < B0):DoIs (w.setCell ⟨b,j,none⟩ u) B0 k F caps:=by
 rcases h with h|h|h|h|⟨h1,c,st,h2,h3,h4,h5⟩
 ·exact .inl h
 ·exact .inr (.inl h)
 ·exact .inr (.inr (.inl h))
 ·exact .inr (.inr (.inr (.inl h)))
 ·exact .inr (.inr (.inr (.inr ⟨h1,c,st,h2,h3,row_other h4 (by omega),h5⟩)))
theorem busy_set {A:Au} {k:Nat} {s s':St} {x:Int} (hs:A[k]?=some s) (hth:s'.thread=s.thread) (h5:s'.stand≠5∨x≠s.thread) (h:isBusy x A):isBusy x (A.set k s'):=by
 obtain⟨t,ht,hx,hst⟩:=h
 obtain⟨j,hj⟩:=List.mem_iff_getElem?.1 ht
 by_cases e:k=j
 ·subst e
  rw[hs] at hj
  obtain rfl:=Option.some.inj hj
  refine⟨s',mem_set_self hs,by rw[hth,hx],?_⟩
  rcases h5 with h5|h5
  ·exact h5
  ·exact absurd hx.symm h5
 ·exact ⟨t,List.mem_iff_getElem?.2 ⟨j,by rw[List.getElem?_set_ne e];exact hj⟩,hx,hst⟩
theorem from_len (k:Int):(fromOf k).length≤4:=by
 unfold fromOf
 repeat' split
 all_goals decide
theorem from_sl {w:World} {g:Nat} {k:Int} (h:w.heap[g]?=some (.cells ((fromOf k).map (.int .i64)).toArray 3 (0,0))):Sl w w.heap.size 1 (.slice (some ⟨g,0,none⟩) (fromOf k).length (fromOf k).length) (fromOf k).length ((fromOf k).map (.int .i64)):=
 ⟨_,_,rfl,by have:=from_len k;omega,by simp,fun _=>⟨g,0,rfl,row_lt h,fun j u hu=>by rw[Nat.zero_add,row_cell h];simpa using hu⟩⟩
theorem busy_set_iff {A:Au} {k:Nat} {s s':St} {x:Int} (hs:A[k]?=some s) (hth:s'.thread=s.thread) (h5:s.stand≠5) (h5':s'.stand≠5):isBusy x A↔isBusy x (A.set k s'):=by
 refine⟨busy_set hs hth (.inl h5'),?_⟩
 rintro⟨t,ht,hx,hst⟩
 obtain⟨j,hj⟩:=List.mem_iff_getElem?.1 ht
 rcases get_set hj with⟨rfl,rfl⟩|⟨hne,hj⟩
 ·exact ⟨s,List.mem_of_getElem? hs,by rw[←hth,hx],h5⟩
 ·exact ⟨t,List.mem_of_getElem? hj,hx,hst⟩
def BusyU (A:Au):Prop:=∀(j k:Nat) (s t:St),A[j]?=some s→A[k]?=some t→s.thread=t.thread→s.stand≠5→t.stand≠5→j=k
theorem busy_end {A:Au} {k:Nat} {s s':St} {x:Int} (hU:BusyU A) (hs:A[k]?=some s) (h5:s.stand≠5) (hth:s'.thread=s.thread) (h5':s'.stand=5):isBusy x (A.set k s')↔isBusy x A∧x≠s.thread:=by
 constructor
 ·rintro ⟨t,ht,hx,hst⟩
  obtain⟨j,hj⟩:=List.mem_iff_getElem?.1 ht
  rcases get_set hj with⟨rfl,rfl⟩|⟨hne,hj⟩
  ·exact absurd h5' hst
  ·refine ⟨⟨t,List.mem_of_getElem? hj,hx,hst⟩,fun e=>hne ?_⟩
   exact hU k j s t hs hj (by rw[hx,e]) h5 hst
 ·rintro ⟨h,hne⟩
  exact busy_set hs hth (.inr hne) h
theorem s_IndexNo (v:Value) (l:List Int) (x:Int) (w:World) (h:Sl w w.heap.size 1 v l.length (l.map (.int .i64))) (hl:l.length≤100) (hn:x ∉ l):
  Calls Tryz.prog 177 #[v,.int .i64 x] w fun e w'=>e=.returned (.int .i64 (-1))∧w'=w:=by
 obtain⟨a,c,rfl,hm⟩:=h.ex
 have H:=hid h
 have HN:=hid hn
 clear h hn
 go_enter Tryz.func177,Tryz.ntmps177
 go_wp2_with fail
 obtain⟨W,rfl⟩:∃W,W=w:=⟨_,rfl⟩
 go_loopw [8] (fun p wr=>∃i:Nat,i≤l.length∧p=.int .i64 i∧wr=W) (fun p _=>l.length - (intOf p).toNat)
 case atStart=>exact⟨0,by omega,by go_num,rfl⟩
 case round=>
  obtain⟨i,hi,rfl,rfl⟩:=hrel
  by_cases hil:i < l.length
  ·obtain ⟨b,off,u,hat,hb,hx,hc⟩:=H.out.at1 hil
   subst hat
   have hx2:∃y,l[i]?=some y∧u=.int .i64 y:=by
    rw[List.getElem?_map] at hx
    cases hy:l[i]? with
    |none=>rw[hy] at hx;cases hx
    |some y=>rw[hy] at hx;exact⟨y,rfl,by simpa using hx.symm⟩
   obtain⟨y,hy,rfl⟩:=hx2
   clear hx
   have e1:(x==y)=false:=by
    have:x≠y:=fun e=>HN.out (by rw[e];exact List.mem_of_getElem? hy)
    simpa using this
   clear hy
   go_wp2_with fail
   go_roundw
   case rel=>exact⟨i+1,by omega,by go_num,trivial⟩
   case measure=>simp[intOf];omega
  ·obtain rfl:i=l.length:=by omega
   go_wp2
   go_ret
   exact⟨rfl,rfl⟩
theorem s_ContainsNo (v:Value) (l:List Int) (x:Int) (w:World) (h:Sl w w.heap.size 1 v l.length (l.map (.int .i64))) (hl:l.length≤100) (hn:x ∉ l):
  Calls Tryz.prog 129 #[v,.int .i64 x] w fun e w'=>e=.returned (.bool false)∧w'=w:=by
 have hi:=hid (s_IndexNo _ l x w h hl hn)
 obtain⟨a,c,rfl,hm⟩:=h.ex
 clear h hn
 go_enter Tryz.func129,Tryz.ntmps129
 go_wp2_with fail
 refine hi.out.mono ?_
 rintro e w1 ⟨rfl,rfl⟩
 go_wp2
 go_ret
 exact⟨rfl,rfl⟩
