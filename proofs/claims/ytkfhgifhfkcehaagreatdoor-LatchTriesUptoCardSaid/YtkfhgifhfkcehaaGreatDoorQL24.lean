/- Parts of the proof, merged by program out of 3 texts (ShP, ShQ, ShO): the first: The automaton of well-formed histories: its moves at a call, at a return. Conditions: those of each theorem, as typed. -/
import Derived.Test.YtkfhgifhfkcehaaGreatDoorQL23
set_option linter.unusedVariables false
set_option linter.unusedSimpArgs false
set_option linter.unusedSectionVars false
set_option maxRecDepth 100000
set_option maxHeartbeats 4000000
namespace Go.Proofs.YtkfhgifhfkcehaaGreatDoor
open Go.Maps Go.RowKit
section
attribute [local irreducible] wpL
theorem infoDd:(Tryz.prog.info? 291).map (fun i=>(i.zero,i.size,i.bytes))=some (some (.agg #[.int .i64 0,.int .i64 0,.int .i64 0,.int .i64 0,.int .i64 0,.int .i64 0,.int .i64 0,.int .i64 0]),8,64):=by kernel_rfl
theorem dd_one (x:Dd):∀u ∈ x.cells,u.oneCell'=true:=by intro u hu;simp[Dd.cells] at hu;rcases hu with rfl|rfl|rfl|rfl|rfl|rfl|rfl|rfl <;> rfl
theorem dd_last {l:List Dd} {d:Dd} (h:l.getLast?=some d):l=l.dropLast++[d]:=by
 obtain⟨ys,h1⟩:=List.getLast?_eq_some_iff.1 h
 rw[h1];simp
theorem flat_set {α:Type} {f:α→List Value} {sz:Nat} (hf:∀x,(f x).length=sz):∀(l:List α) (k j:Nat) (x x':α) (u:Value),l[k]?=some x→j < sz→f x'=(f x).set j u→(l.set k x').flatMap f=(l.flatMap f).set (k*sz+j) u
 |[],k,j,x,x',u,h,_,_=>by simp at h
 |y::l,0,j,x,x',u,h,hj,he=>by
  simp only[List.getElem?_cons_zero,Option.some.injEq] at h
  subst h
  simp only[List.set_cons_zero,List.flatMap_cons,Nat.zero_mul,Nat.zero_add,he]
  rw[List.set_append_left _ _ (by rw[hf];exact hj)]
 |y::l,k+1,j,x,x',u,h,hj,he=>by
  simp only[List.getElem?_cons_succ] at h
  simp only[List.set_cons_succ,List.flatMap_cons]
  rw[flat_set hf l k j x x' u h hj he,List.set_append_right _ _ (by rw[hf,Nat.add_mul];omega),hf]
  congr 2
  rw[Nat.add_mul];omega
theorem OwnF.setAt {α:Type} {f:α→List Value} {e:TypeId} {sz B g n cap:Nat} {l:List α} {w:World} (h:OwnF f e sz w B (.slice (some ⟨g,0,none⟩) n cap) l) (hf:∀x,(f x).length=sz) {k j:Nat} {x x':α} {u:Value} (hk:l[k]?=some x) (hj:j < sz) (he:f x'=(f x).set j u):
  OwnF f e sz (w.setCell ⟨g,k*sz+j,none⟩ u) B (.slice (some ⟨g,0,none⟩) n cap) (l.set k x'):=by
 obtain⟨h1,h2⟩:=h
 have hkl:=(List.getElem?_eq_some_iff.1 hk).1
 have hfl:=flat_set hf l k j x x' u hk hj he
 refine⟨by rw[hfl,List.length_set,List.length_set];exact h1,?_⟩
 rcases h2 with⟨h2,h3⟩|⟨g',cap',cur,hv,hg,hh,hnc,hcm,hs,ht⟩
 ·cases h2
 ·simp only[Value.slice.injEq,Option.some.injEq,Addr.mk.injEq] at hv
  obtain⟨⟨rfl,-,-⟩,hn,rfl⟩:=hv
  refine .inr ⟨g,cap,cur.setIfInBounds (k*sz+j) u,by rw[List.length_set,hn],hg,row_set hh _ _,by rw[List.length_set];exact hnc,hcm,by simpa using hs,?_⟩
  rw[hfl,List.length_set,Array.toList_setIfInBounds,List.take_set,ht]
theorem OwnF.free {α:Type} {f:α→List Value} {e:TypeId} {sz B g n cap:Nat} {l:List α} {w:World} (h:OwnF f e sz w B (.slice (some ⟨g,0,none⟩) n cap) l) (j:Nat):w.frozen? ⟨g,j,none⟩=false:=by
 obtain⟨cs,hcs⟩:=OwnF.keepObj h g rfl
 exact row_free hcs j
section
variable {w:World} {B p:Nat} {dv:Value} {s:St}
theorem mv_call (xk xx xh xj xo xy xv xr:Int) (n:Nat) (h:StAt w B (p,dv) s) (hl:s.deeds.length≤1000):
  Calls Tryz.prog 154 #[.pointer (some ⟨p,0,none⟩),evV ⟨xk,xx,xh,xj,xo,xy,xv,xr⟩,.int .i64 n] w (MvRet w B (p,dv) (callSt ⟨xk,xx,xh,xj,xo,xy,xv,xr⟩ n s)):=by
 have l0:=row_lt h.row
 have H:=hid h
 have r0:=h.row
 obtain⟨da,dn,dc,rfl⟩:∃a n c,dv=.slice a n c:=by
  rcases OwnF.form h.dds with⟨rfl,-⟩|⟨g,cap,rfl,-⟩
  ·exact ⟨_,_,_,rfl⟩
  ·exact ⟨_,_,_,rfl⟩
 have y:=row_cell r0
 have y6:=y 6
 have y7:=y 7
 simp[stCs] at y6 y7
 have yf:∀j,w.frozen? ⟨p,j,none⟩=false:=fun j=>row_free r0 j
 have R0:=hid r0
 clear y h r0
 go_enter Tryz.func154,Tryz.ntmps154
 go_wp2_with fail
 have r1:=row_old (o:=.cells #[.int .i64 xk,.int .i64 xx,.int .i64 xh,.int .i64 xj,.int .i64 xo,.int .i64 xy,.int .i64 xv,.int .i64 xr] 53) (row_set R0.out 7 (.int .i64 2))
 have re:=row_new' (w:=w.setCell ⟨p,7,none⟩ (.int .i64 2)) (o:=.cells #[.int .i64 xk,.int .i64 xx,.int .i64 xh,.int .i64 xj,.int .i64 xo,.int .i64 xy,.int .i64 xv,.int .i64 xr] 53) (g:=w.heap.size) (by simp)
 have c1:Chg (fun k=>k=p) w ((w.setCell ⟨p,7,none⟩ (.int .i64 2)).alloc (.cells #[.int .i64 xk,.int .i64 xx,.int .i64 xh,.int .i64 xj,.int .i64 xo,.int .i64 xy,.int .i64 xv,.int .i64 xr] 53)):=((Chg.refl (S:=fun k=>k=p) w).set rfl).alloc _
 have hz1:((w.setCell ⟨p,7,none⟩ (.int .i64 2)).alloc (.cells #[.int .i64 xk,.int .i64 xx,.int .i64 xh,.int .i64 xj,.int .i64 xo,.int .i64 xy,.int .i64 xv,.int .i64 xr] 53)).heap.size=w.heap.size+1:=by simp
 generalize (w.setCell ⟨p,7,none⟩ (.int .i64 2)).alloc (.cells #[.int .i64 xk,.int .i64 xx,.int .i64 xh,.int .i64 xj,.int .i64 xo,.int .i64 xy,.int .i64 xv,.int .i64 xr] 53)=W at *
 have hd:OwnD W B (.slice da dn dc) s.deeds:=OwnF.chg H.out.dds c1 fun g hg hk=>by
  obtain⟨cs,fz,hh⟩:=OwnF.typ H.out.dds hg
  rw[hk,R0.out] at hh
  simp at hh
 clear y6 y7 yf
 have y6:=row_cell r1 6
 simp[stCs] at y6
 have yf:∀j,W.frozen? ⟨p,j,none⟩=false:=fun j=>row_free r1 j
 have e0:=row_cell re 3
 have e1:=row_cell re 4
 have e2:=row_cell re 5
 have e3:=row_cell re 6
 simp at e0 e1 e2 e3
 have lp:p < W.heap.size:=by omega
 have le:w.heap.size < W.heap.size:=by omega
 have HD:=hid hd
 have R1:=hid r1
 have C1:=hid c1
 clear re r1 c1 hd hz1
 have hB:B≤p:=H.out.hB
 refine wp_rN (W.heap.size) [0,0,0,0,0,1,0,1,0,1,0,1,0,1,0,0,3,2,0,0,0,2] (.fin [0,1,2,3,4,5,6,7,8,9,10,11,12,13,14,15,16,17,18,19,20,21]) (by kernel_rfl) ?_
 simp only[wpT,selX,guardAt,sD,sE,sF,sG]
 repeat first|(refine wpL_p fun K hK=>?_;go_simp;refine hK _ _ ?_;clear hK K)|(apply wpL_s;(intro w2 hw2;have hk1:=hw2.cell;have hk3:=hw2.1;clear hw2;go_simp;with_reducible rfl);simp only[Act.put,sA,sB,sC])
 refine wpL_k (fun K hK=>?_)
 go_simp
 refine hK _ _ (RN.KeepsN.alloc _ _ (Nat.le_refl _)) ?_
 clear hK K
 refine wpL_e (fun K hK=>?_)
 have hBW:B≤W.drew.heap.size:=by
  show B≤W.heap.size
  omega
 refine wp_appF _ _ _ rfl _ 64 Tryz.underlying54 infoDd rfl HD.out.drew (newDd ⟨xk,xx,xh,xj,xo,xy,xv,xr⟩ n) hBW (by rfl) (by rfl) (by first|rfl|simp) rfl (dd_one _) (by first|omega|(simp only[List.length_append,List.length_cons,List.length_nil,List.length_replicate];omega)) (by first|omega|(simp only[List.length_append,List.length_cons,List.length_nil,List.length_replicate];omega)) ?_
 intro g cap w' ho hg
 refine hK _ _ ?_
 clear hK K
 have hne:(Value.slice da dn dc).ownBlock≠some p:=fun hk=>by
  obtain⟨cs,fz,hh⟩:=OwnF.typ HD.out hk
  rw[R1.out] at hh
  simp[stCs] at hh
 have hne2:(Value.slice (some ⟨g,0,none⟩) (s.deeds.length+1) cap).ownBlock≠some p:=fun hk=>by
  rcases hg.own _ hk with h1|h1
  ·exact hne h1
  ·have h1:W.heap.size≤p:=h1
   omega
 have r2:=row_grw (row_drew R1.out) hg hne
 have z2:W.heap.size≤w'.heap.size:=hg.size
 have l2:p < w'.heap.size:=by omega
 clear y6 yf
 have y6:=row_cell r2 6
 simp[stCs] at y6
 have yf:∀j,w'.frozen? ⟨p,j,none⟩=false:=fun j=>row_free r2 j
 have R2:=hid r2
 have HO:=hid ho
 have HG:=hid hg
 clear r2 ho hg
 repeat (refine wpL_p fun K hK=>?_;go_simp;refine hK _ _ ?_;clear hK K)
 refine wpL_e (fun K hK=>?_)
 go_simp
 refine hK _ _ ?_
 clear hK K
 repeat refine wpL_nil ?_
 go_wp2
 go_ret
 refine⟨rfl,_,⟨row_set R2.out 6 _,hB,OwnF.other HO.out hne2 _⟩,?_,fun k hk=>?_⟩
 ·refine Chg.set ?_ (.inl rfl)
  exact Chg.trans ((C1.out.mono (T:=stS (p,.slice da dn dc)) fun j hj=>.inl hj).drew) (Chg.grw (S:=stS (p,.slice da dn dc)) HG.out fun k hk=>.inr hk) fun j _ hj=>hj
 ·rcases HG.out.own _ hk with h1|h1
  ·exact .inl h1
  ·exact .inr (by have h1:W.heap.size≤k:=h1;omega)
theorem mv_ret (xk xx xh xj xo xy xv xr:Int) (n:Nat) (d:Dd) (h:StAt w B (p,dv) s) (hd:s.deeds.getLast?=some d) (hf:fitsR d.op xr) (hl:s.deeds.length≤1000):
  Calls Tryz.prog 155 #[.pointer (some ⟨p,0,none⟩),evV ⟨xk,xx,xh,xj,xo,xy,xv,xr⟩,.int .i64 n] w (MvRet w B (p,dv) (retSt xr xv n s)):=by
 have l0:=row_lt h.row
 have hB:B≤p:=h.hB
 have H:=hid h
 have r0:=h.row
 have hne0:s.deeds≠[]:=by rintro e;rw[e] at hd;cases hd
 obtain⟨g,cap,rfl,hgB,hgl⟩:∃g cap,dv=.slice (some ⟨g,0,none⟩) s.deeds.length cap∧B≤g∧g < w.heap.size:=by
  rcases OwnF.form h.dds with⟨-,h2⟩|⟨g,cap,h1,h2,h3⟩
  ·exact absurd h2 hne0
  ·exact ⟨g,cap,h1,h2,h3⟩
 have hdn:retSt xr xv n s={s with stand:=1,deeds:=s.deeds.dropLast++[retDd d xr xv n]}:=by unfold retSt;rw[hd]
 obtain⟨m,hm⟩:∃m,s.deeds.length=m+1:=⟨s.deeds.length - 1,by have:=List.length_pos_iff.2 hne0;omega⟩
 have hdm:s.deeds[m]?=some d:=by rw[List.getLast?_eq_getElem?,hm] at hd;simpa using hd
 have hls:∀x:Dd,s.deeds.set m x=s.deeds.dropLast++[x]:=fun x=>by
  have h1:=dd_last hd
  have h2:s.deeds.dropLast.length=m:=by rw[List.length_dropLast,hm];rfl
  conv=>lhs;rw[h1]
  rw[List.set_append_right _ _ (by omega),h2,Nat.sub_self]
  rfl
 obtain⟨q,hq⟩:∃q,s.deeds.length=q:=⟨_,rfl⟩
 rw[hq] at h r0 H ⊢
 have q1:((q:Int) - 1)=(m:Int):=by omega
 have q2:m < q:=by omega
 have qw:IntKind.i64.wrap (m:Int)=(m:Int):=IntWalk.i64_in _ (by omega)
 have hgp:g≠p:=by
  rintro rfl
  obtain⟨cs,fz,hh⟩:=OwnF.typ h.dds (g:=g) rfl
  rw[r0] at hh
  simp[stCs] at hh
 have y:=row_cell r0
 have y6:=y 6
 have y7:=y 7
 simp[stCs] at y6 y7
 have DD:=h.dds
 simp only at DD
 have SS:=OwnF.sl DD
 rw[hq] at SS
 obtain⟨b',off',x',hat',hb',hx',hc'⟩:=SS.atF Dd.len hq (k:=m) (by omega)
 simp only[Option.some.injEq,Addr.mk.injEq] at hat'
 obtain⟨rfl,rfl,-⟩:=hat'
 rw[hdm] at hx'
 obtain rfl:=Option.some.inj hx'
 have c1:=hc' 1 (by decide)
 have c4:=hc' 4 (by decide)
 have c5:=hc' 5 (by decide)
 have c7:=hc' 7 (by decide)
 simp[Dd.cells] at c1 c4 c5 c7
 have bW:Below w.heap.size w (w.alloc (.cells #[.int .i64 xk,.int .i64 xx,.int .i64 xh,.int .i64 xj,.int .i64 xo,.int .i64 xy,.int .i64 xv,.int .i64 xr] 53)):=(Below.refl _ w).alloc (Nat.le_refl _) _
 have re:=row_new w (.cells #[.int .i64 xk,.int .i64 xx,.int .i64 xh,.int .i64 xj,.int .i64 xo,.int .i64 xy,.int .i64 xv,.int .i64 xr] 53)
 have hzW:(w.alloc (.cells #[.int .i64 xk,.int .i64 xx,.int .i64 xh,.int .i64 xj,.int .i64 xo,.int .i64 xy,.int .i64 xv,.int .i64 xr] 53)).heap.size=w.heap.size+1:=by simp
 have HM:=hid hm
 have HDM:=hid hdm
 have HLS:=hid hls
 have HDN:=hid hdn
 clear y h hc' hb' hm hdm hx' hd hdn hls H hne0
 go_enter Tryz.func155,Tryz.ntmps155
 go_wp2_with fail
 generalize w.alloc (.cells #[.int .i64 xk,.int .i64 xx,.int .i64 xh,.int .i64 xj,.int .i64 xo,.int .i64 xy,.int .i64 xv,.int .i64 xr] 53)=W at *
 have y6:=cell_below bW l0 y6
 have y7:=cell_below bW l0 y7
 have c1:=cell_below bW hgl c1
 have c4:=cell_below bW hgl c4
 have c5:=cell_below bW hgl c5
 have c7:=cell_below bW hgl c7
 have r1:=row_below r0 bW l0
 have D1:=OwnF.below DD bW
 have yf:∀j,W.frozen? ⟨p,j,none⟩=false:=fun j=>row_free r1 j
 have gf:∀j,W.frozen? ⟨g,j,none⟩=false:=fun j=>OwnF.free D1 j
 have lp:p < W.heap.size:=by omega
 have lg:g < W.heap.size:=by omega
 have le:w.heap.size < W.heap.size:=by omega
 have hpe:p≠w.heap.size:=by omega
 have hge:g≠w.heap.size:=by omega
 have hpg:p≠g:=fun e=>hgp e.symm
 have e6:=row_cell re 6
 have e7:=row_cell re 7
 simp at e6 e7
 have R1:=hid r1
 have DD1:=hid D1
 have BW:=hid bW
 clear r0 r1 D1 DD bW re
 refine wp_rN (W.heap.size) [0,0,0,0,1,0,0,0,0,1,0,0,0,0] (.fin [0,1,2,3,4,5,6,7,8,9,10,11,12,13]) (by kernel_rfl) ?_
 simp only[wpT,selX,guardAt,sD,sE,sF,sG]
 repeat first|(refine wpL_p fun K hK=>?_;go_simp;refine hK _ _ ?_;clear hK K)|(apply wpL_s;(intro w2 hw2;have hk1:=hw2.cell;have hk3:=hw2.1;clear hw2;go_simp;with_reducible rfl);simp only[Act.put,sA,sB,sC])|refine wpL_nil ?_
 go_wp2_with fail
 refine wp_rN (W.heap.size) [0,0,0,1,0,1,3,0] (.fin [0,1,2,3,4,5,6,7]) (by kernel_rfl) ?_
 simp only[wpT,selX,guardAt,sD,sE,sF,sG]
 repeat first|(refine wpL_p fun K hK=>?_;go_simp;refine hK _ _ ?_;clear hK K)|(apply wpL_s;(intro w2 hw2;have hk1:=hw2.cell;have hk3:=hw2.1;clear hw2;go_simp;with_reducible rfl);simp only[Act.put,sA,sB,sC])
 refine wpL_k (fun K hK=>?_)
 go_simp
 refine(e_Fits d.op xr hf.symm _).mono ?_
 rintro e W2 ⟨rfl,hw⟩
 refine hK _ _ (by rw[hw];exact RN.KeepsN.of_below (Below.refl _ _)) ?_
 clear hK K
 rw[hw]
 clear hw W2
 repeat first|(refine wpL_p fun K hK=>?_;go_simp;refine hK _ _ ?_;clear hK K)|refine wpL_nil ?_
 go_wp2_with fail
 refine wp_rK (fun k=>k=w.heap.size) [0,0,0,0,0,1,0,1,0,0,0,3,0,0,3,0,0,3,0,0,3] (.fin [0,1,2,3,4,5,6,7,8,9,10,11,12,13,14,15,16,17,18,19,20]) (by kernel_rfl) ?_
 simp only[wpT,selX,guardAt,sD,sE,sF,sG]
 repeat first|(refine wpL_p fun K hK=>?_;go_simp;refine hK _ _ ?_;clear hK K)|(apply wpL_s;(intro w2 hw2;have hk1:=hw2.cell;(try simp only at hk1);have hk3:=hw2.1;clear hw2;go_simp;with_reducible rfl);simp only[Act.put,sA,sB,sC])
 refine wpL_k (fun K hK=>?_)
 go_simp
 refine hK _ _ (RK.KeepsN.set _ _ _ hpe) ?_
 clear hK K
 repeat (refine wpL_p fun K hK=>?_;go_simp;refine hK _ _ ?_;clear hK K)
 refine wpL_k (fun K hK=>?_)
 go_simp
 refine hK _ _ (RK.KeepsN.set _ _ _ hge) ?_
 clear hK K
 repeat (refine wpL_p fun K hK=>?_;go_simp;refine hK _ _ ?_;clear hK K)
 refine wpL_k (fun K hK=>?_)
 go_simp
 refine hK _ _ (RK.KeepsN.set _ _ _ hge) ?_
 clear hK K
 repeat (refine wpL_p fun K hK=>?_;go_simp;refine hK _ _ ?_;clear hK K)
 refine wpL_k (fun K hK=>?_)
 go_simp
 refine hK _ _ (RK.KeepsN.set _ _ _ hge) ?_
 clear hK K
 repeat refine wpL_nil ?_
 go_wp2
 go_ret
 have hml:m < s.deeds.length:=by rw[HM.out];omega
 have d0:OwnD (W.setCell ⟨p,7,none⟩ (.int .i64 1)) B (.slice (some ⟨g,0,none⟩) q cap) s.deeds:=OwnF.other DD1.out (fun h=>hgp (by simpa[Value.ownBlock] using h)) _
 have d1:=OwnF.setAt d0 Dd.len HDM.out (j:=4) (u:=.int .i64 xr) (x':={d with ret:=xr}) (by decide) rfl
 have d2:=OwnF.setAt d1 Dd.len (List.getElem?_set_self hml) (j:=5) (u:=.int .i64 xv) (x':={d with ret:=xr,got:=xv}) (by decide) rfl
 have d3:=OwnF.setAt d2 Dd.len (List.getElem?_set_self (by simpa using hml)) (j:=7) (u:=.int .i64 n) (x':=retDd d xr xv n) (by decide) rfl
 rw[List.set_set,List.set_set,HLS.out] at d3
 refine⟨rfl,_,?_,?_,fun k hk=>.inl hk⟩
 ·rw [HDN.out]
  exact⟨row_other (row_other (row_other (row_set R1.out 7 (.int .i64 1)) hgp) hgp) hgp,hB,d3⟩
 ·have hc:=Chg.of_below (S:=stS (p,.slice (some ⟨g,0,none⟩) q cap)) BW.out
  exact((((hc.set (.inl rfl)).set (.inr rfl)).set (.inr rfl)).set (.inr rfl)).drew.drew.drew
end
end
section
attribute [local irreducible] wpL
def fromOf (k:Int):List Int:=if k=3 then[2] else if k=5 then[3] else if k=6 then[1,2,3,4] else[1]
def DoIs (w:World) (B0:Nat) (k:Int) (F:FuncId) (caps:Array Value):Prop:=
 (k=2∧F=154∧caps=#[])∨(k=3∧F=155∧caps=#[])∨(k=4∧F=157∧caps=#[])∨(k=7∧F=158∧caps=#[])∨
 (F=153∧∃c st,(k=5∧st=3∨k=6∧st=4)∧caps=#[.pointer (some ⟨c,0,none⟩)]∧w.heap[c]?=some (.cells #[.int .i64 st] 3 (0,0))∧B0≤c)
def MvOk (w:World) (B0:Nat) (k:Int) (v:Value):Prop:=∃g F caps,v=.agg #[.slice (some ⟨g,0,none⟩) (fromOf k).length (fromOf k).length,.func (.func F) #[] caps]∧w.heap[g]?=some (.cells ((fromOf k).map (.int .i64)).toArray 3 (0,0))∧B0≤g∧DoIs w B0 k F caps
def MvsRet (w:World) (e:Ending) (w':World):Prop:=∃bm M,e=.returned (.map (some bm))∧RawM w' bm M∧(∀k:Int,2≤k→k < 8→∃v,M k=some v∧MvOk w' w.heap.size k v)∧Below w.heap.size w w'
theorem DoIs.row {w w':World} {B0:Nat} {k:Int} {F:FuncId} {caps:Array Value} (h:DoIs w B0 k F caps) (hr:∀(g:Nat) (cs:Array Value) (t:TypeId) (fz:Nat×Nat),w.heap[g]?=some (.cells cs t fz)→w'.heap[g]?=some (.cells cs t fz)):DoIs w' B0 k F caps:=by
 rcases h with h|h|h|h|⟨h1,c,st,h2,h3,h4,h5⟩
 ·exact .inl h
 ·exact .inr (.inl h)
 ·exact .inr (.inr (.inl h))
 ·exact .inr (.inr (.inr (.inl h)))
 ·exact .inr (.inr (.inr (.inr ⟨h1,c,st,h2,h3,hr _ _ _ _ h4,h5⟩)))
theorem MvOk.row {w w':World} {B0:Nat} {k:Int} {v:Value} (h:MvOk w B0 k v) (hr:∀(g:Nat) (cs:Array Value) (t:TypeId) (fz:Nat×Nat),w.heap[g]?=some (.cells cs t fz)→w'.heap[g]?=some (.cells cs t fz)):MvOk w' B0 k v:=
 let ⟨g,F,caps,h1,h2,h3,h4⟩:=h;⟨g,F,caps,h1,hr _ _ _ _ h2,h3,h4.row hr⟩
theorem mv_clos (st:Int) (w:World):Calls Tryz.prog 152 #[.int .i64 st] w fun e w'=>e=.returned (.func (.func 153) #[] #[.pointer (some ⟨w.heap.size,0,none⟩)])∧w'=w.alloc (.cells #[.int .i64 st] 3):=by
 go_enter Tryz.func152,Tryz.ntmps152
 go_wp2
 go_ret
 exact⟨rfl,rfl⟩
structure MvInv (w:World) (bm:Nat) (K:Int→Prop) (X:World):Prop where
 raw:∃M,RawM X bm M∧∀k,K k→∃v,M k=some v∧MvOk X w.heap.size k v
 below:Below w.heap.size w X
 hb:w.heap.size≤bm
theorem MvInv.alloc {w X:World} {bm:Nat} {K:Int→Prop} (h:MvInv w bm K X) (o:Obj):MvInv w bm K (X.alloc o):=by
 obtain⟨⟨M,h1,h2⟩,h3,h4⟩:=h
 have b:Below X.heap.size X (X.alloc o):=(Below.refl _ X).alloc (Nat.le_refl _) _
 exact⟨⟨M,h1.below b h1.lt,fun k hk=>let ⟨v,h5,h6⟩:=h2 k hk;⟨v,h5,h6.row fun g cs t fz hg=>row_old hg⟩⟩,h3.trans (b.mono h3.size),h4⟩
theorem MvInv.ins {w X:World} {bm:Nat} {K:Int→Prop} {k:Int} {v:Value} (h:MvInv w bm K X) (hv:MvOk X w.heap.size k v):
  ∃Y,Sem.run Tryz.prog (Instr.mapUpdate 224 (.map (some bm)) (.int .i64 k) v) X=.ok () Y∧MvInv w bm (fun j=>K j∨j=k) Y:=by
 obtain⟨⟨M,h1,h2⟩,h3,h4⟩:=h
 obtain⟨Y,hr,hm,ht⟩:=h1.store Tryz.underlying3 Tryz.underlying224 k v
 have hrow:∀(g:Nat) (cs:Array Value) (t:TypeId) (fz:Nat×Nat),X.heap[g]?=some (.cells cs t fz)→Y.heap[g]?=some (.cells cs t fz):=fun g cs t fz hg=>(turned_cells ht hg).trans hg
 refine⟨Y,hr,⟨_,hm,fun j hj=>?_⟩,h3.trans (Below.turned ht h4),h4⟩
 by_cases e:j=k
 ·subst e
  exact⟨v,rup_same,hv.row hrow⟩
 ·obtain ⟨u,h5,h6⟩:=h2 j (hj.resolve_right e)
  exact⟨u,by rw[rup_ne e];exact h5,h6.row hrow⟩
theorem s_moves (w:World):Calls Tryz.prog 117 #[] w (MvsRet w):=by
 have hmk:∀X:World,Sem.run Tryz.prog (Instr.makeMap 224 none) X=.ok (.map (some X.heap.size)) (X.alloc (.map #[] 0)):=fun X=>by kernel_rfl
 have b0:Below w.heap.size w (w.alloc (.map #[] 0)):=(Below.refl _ w).alloc (Nat.le_refl _) _
 have h0:MvInv w w.heap.size (fun _=>False) (w.alloc (.map #[] 0)):=⟨⟨_,RawM.made (row_new w _),fun k hk=>hk.elim⟩,b0,Nat.le_refl _⟩
 have z0:(w.alloc (.map #[] 0)).heap.size=w.heap.size+1:=by simp
 have a1:=h0.alloc (.cells #[.int .i64 1] 3)
 have o1:MvOk ((w.alloc (.map #[] 0)).alloc (.cells #[.int .i64 1] 3)) w.heap.size 2 (.agg #[.slice (some ⟨w.heap.size+1,0,none⟩) 1 1,.func (.func 154) #[] #[]]):=⟨w.heap.size+1,_,_,rfl,row_new' z0.symm,by omega,.inl ⟨rfl,rfl,rfl⟩⟩
 obtain⟨X1,r1,h1⟩:=a1.ins o1
 clear a1 o1 h0 b0
 have a2:=h1.alloc (.cells #[.int .i64 2] 3)
 have o2:MvOk (X1.alloc (.cells #[.int .i64 2] 3)) w.heap.size 3 (.agg #[.slice (some ⟨X1.heap.size,0,none⟩) 1 1,.func (.func 155) #[] #[]]):=⟨X1.heap.size,_,_,rfl,row_new _ _,h1.below.size,.inr (.inl ⟨rfl,rfl,rfl⟩)⟩
 obtain⟨X2,r2,h2⟩:=a2.ins o2
 clear a2 o2 h1
 have a3:=h2.alloc (.cells #[.int .i64 1] 3)
 have o3:MvOk (X2.alloc (.cells #[.int .i64 1] 3)) w.heap.size 4 (.agg #[.slice (some ⟨X2.heap.size,0,none⟩) 1 1,.func (.func 157) #[] #[]]):=⟨X2.heap.size,_,_,rfl,row_new _ _,h2.below.size,.inr (.inr (.inl ⟨rfl,rfl,rfl⟩))⟩
 obtain⟨X3,r3,h3⟩:=a3.ins o3
 clear a3 o3 h2
 have a4:=h3.alloc (.cells #[.int .i64 1] 3)
 have o4:MvOk (X3.alloc (.cells #[.int .i64 1] 3)) w.heap.size 7 (.agg #[.slice (some ⟨X3.heap.size,0,none⟩) 1 1,.func (.func 158) #[] #[]]):=⟨X3.heap.size,_,_,rfl,row_new _ _,h3.below.size,.inr (.inr (.inr (.inl ⟨rfl,rfl,rfl⟩)))⟩
 obtain⟨X4,r4,h4⟩:=a4.ins o4
 clear a4 o4 h3
 have a5:=(h4.alloc (.cells #[.int .i64 3] 3)).alloc (.cells #[.int .i64 3] 3)
 have zz5:(X4.alloc (.cells #[.int .i64 3] 3)).heap.size=X4.heap.size+1:=by simp
 have o5:MvOk ((X4.alloc (.cells #[.int .i64 3] 3)).alloc (.cells #[.int .i64 3] 3)) w.heap.size 5 (.agg #[.slice (some ⟨X4.heap.size,0,none⟩) 1 1,.func (.func 153) #[] #[.pointer (some ⟨X4.heap.size+1,0,none⟩)]]):=
  ⟨X4.heap.size,_,_,rfl,row_old (row_new _ _),h4.below.size,.inr (.inr (.inr (.inr ⟨rfl,X4.heap.size+1,3,.inl ⟨rfl,rfl⟩,rfl,row_new' zz5.symm,by have:=h4.below.size;omega⟩)))⟩
 obtain⟨X5,r5,h5⟩:=a5.ins o5
 clear a5 o5 h4 zz5
 have a6:=(h5.alloc (.cells #[.int .i64 1,.int .i64 2,.int .i64 3,.int .i64 4] 3)).alloc (.cells #[.int .i64 4] 3)
 have zz6:(X5.alloc (.cells #[.int .i64 1,.int .i64 2,.int .i64 3,.int .i64 4] 3)).heap.size=X5.heap.size+1:=by simp
 have o6:MvOk ((X5.alloc (.cells #[.int .i64 1,.int .i64 2,.int .i64 3,.int .i64 4] 3)).alloc (.cells #[.int .i64 4] 3)) w.heap.size 6 (.agg #[.slice (some ⟨X5.heap.size,0,none⟩) 4 4,.func (.func 153) #[] #[.pointer (some ⟨X5.heap.size+1,0,none⟩)]]):=
  ⟨X5.heap.size,_,_,rfl,row_old (row_new _ _),h5.below.size,.inr (.inr (.inr (.inr ⟨rfl,X5.heap.size+1,4,.inr ⟨rfl,rfl⟩,rfl,row_new' zz6.symm,by have:=h5.below.size;omega⟩)))⟩
 obtain⟨X6,r6,h6⟩:=a6.ins o6
 clear a6 o6 h5 zz6
 go_enter Tryz.func117,Tryz.ntmps117
 go_wp2_with fail
 refine(mv_clos 3 _).mono ?_
 rintro e W ⟨rfl,rfl⟩
 go_wp2_with fail
 refine(mv_clos 4 _).mono ?_
 rintro e W ⟨rfl,rfl⟩
 go_wp2_with fail
 go_ret
 obtain⟨⟨M,h1,h2⟩,h3,h4⟩:=h6
 refine⟨_,M,rfl,h1,fun k hk1 hk2=>h2 k ?_,h3⟩
 omega
end
theorem ptr_one (g:Nat):∀u ∈ valC (ptrV g),u.oneCell'=true:=by intro u hu;simp[valC] at hu;subst hu;rfl
theorem infoPs:(Tryz.prog.info? 149).map (fun i=>(i.zero,i.size,i.bytes))=some (some (.pointer none),1,8):=by kernel_rfl
theorem zeroPs (w:World):(zeroValue 149).run Tryz.prog w=.ok (.pointer none) w:=by kernel_rfl
theorem row_map {w w':World} {b:Nat} {g:Nat} {cs:Array Value} {t:TypeId} {fz:Nat×Nat} (h:w.mapTurned w' b) (hg:w.heap[g]?=some (.cells cs t fz)):w'.heap[g]?=some (.cells cs t fz):=(turned_cells h hg).trans hg
section
variable {w w':World} {B bA bY bZ n:Nat} {ov tv:Value} {os:List Ob} {A:Au} {Z:Int→Prop} {bs:List (Nat×Value)}
theorem AuIn.turn (h:AuIn w B bA bY bZ ov tv os n A Z bs) (hc:Chg (fun k=>k=bA∨k=bZ) w w') {n':Nat} {Z':Int→Prop} (hr:w'.heap[bA]?=some (.cells #[ov,.int .i64 n',tv,.map (some bY),.map (some bZ)] 148 (0,0)))
  {M:Int→Option Value} (hm:RawM w' bZ M) (hz:∀x,¬Z' x→M x=none):AuIn w' B bA bY bZ ov tv os n' A Z' bs:=by
 obtain⟨MZ,hmz,-⟩:=h.bz.2
 have notA:∀g cs t fz,w.heap[g]?=some (.cells cs t fz)→t≠148→¬(g=bA∨g=bZ):=fun g cs t fz hg ht=>by
  rintro(rfl|rfl)
  ·rw [h.row] at hg
   simp only[Option.some.injEq,Obj.cells.injEq] at hg
   exact ht hg.2.1.symm
  ·obtain ⟨es,c,hh⟩:=hmz.isMap
   rw[hg] at hh;cases hh
 refine⟨hr,h.hB,OwnF.chg h.obs hc fun g hg=>?_,OwnF.chg h.txs hc fun g hg=>?_,h.len,fun k p s hp hs=>(h.sts k p s hp hs).chg hc fun g hg=>?_,h.nod,h.dis,⟨h.by_.1,?_⟩,⟨h.bz.1,M,hm,hz⟩,h.ne⟩
 ·obtain ⟨cs,fz,hh⟩:=OwnF.typ h.obs hg
  exact notA g cs _ fz hh (by decide)
 ·obtain ⟨cs,fz,hh⟩:=OwnF.typ h.txs hg
  exact notA g cs _ fz hh (by decide)
 ·obtain ⟨cs,t,fz,hh,ht⟩:=(h.sts k p s hp hs).typ hg
  refine notA g cs _ fz hh ?_
  rcases ht with rfl|rfl <;> decide
 ·obtain ⟨M1,h1,h2⟩:=h.by_.2
  refine⟨M1,h1.chg hc ?_,h2⟩
  rintro(e|e)
  ·obtain ⟨es,c,hh⟩:=h1.isMap
   rw[e,h.row] at hh;cases hh
  ·exact h.ne e
theorem AuIn.begun (h:AuIn w B bA bY bZ ov tv os n A Z bs) (hc:Chg (fun k=>k=bA∨tv.ownBlock=some k∨k=bY∨k=bZ) w w') {n' p:Nat} {tv':Value} {s:St}
  (hr:w'.heap[bA]?=some (.cells #[ov,.int .i64 n',tv',.map (some bY),.map (some bZ)] 148 (0,0)))
  (ht:OwnF valC 149 1 w' B tv' ((bs++[(p,Value.slice none 0 0)]).map fun q=>ptrV q.1)) (hs:StAt w' B (p,.slice none 0 0) s) (hp:w.heap.size≤p)
  {MY MY' MZ MZ':Int→Option Value} (hY:RawM w' bY MY') (f1:∀(k:Nat) (p:Nat×Value) (s:St),bs[k]?=some p→A[k]?=some s→MY s.id=some (ptrV p.1)) (f2:∀x,¬hasId x A→MY x=none) (f3:∀k,k≠s.id→MY' k=MY k) (f4:MY' s.id=some (ptrV p)) (hno:¬hasId s.id A)
  (hZ:RawM w' bZ MZ') (f5:∀x,¬Z x→MZ x=none) (f6:∀k,k≠s.thread→MZ' k=MZ k) (hsd:s.deeds=[]):
  AuIn w' B bA bY bZ ov tv' os n' (A++[s]) (fun x=>Z x∨x=s.thread) (bs++[(p,.slice none 0 0)]):=by
 obtain⟨M0,hm0,-⟩:=h.bz.2
 obtain⟨M1,hm1,-⟩:=h.by_.2
 have notA:∀g cs t fz,w.heap[g]?=some (.cells cs t fz)→t≠148→t≠149→¬(g=bA∨tv.ownBlock=some g∨g=bY∨g=bZ):=fun g cs t fz hg ht ht2=>by
  rintro(rfl|hk|rfl|rfl)
  ·rw [h.row] at hg
   simp only[Option.some.injEq,Obj.cells.injEq] at hg
   exact ht hg.2.1.symm
  ·obtain ⟨cs',fz',hh⟩:=OwnF.typ h.txs hk
   rw[hg] at hh
   simp only[Option.some.injEq,Obj.cells.injEq] at hh
   exact ht2 hh.2.1
  ·obtain ⟨es,c,hh⟩:=hm1.isMap
   rw[hg] at hh;cases hh
  ·obtain ⟨es,c,hh⟩:=hm0.isMap
   rw[hg] at hh;cases hh
 have old:∀k (q:Nat×Value),bs[k]?=some q→∃t,A[k]?=some t∧StAt w B q t:=fun k q hq=>by
  have hk:=(List.getElem?_eq_some_iff.1 hq).1
  obtain⟨t,ht⟩:∃t,A[k]?=some t:=⟨_,List.getElem?_eq_getElem (by rw[←h.len];exact hk)⟩
  exact⟨t,ht,h.sts k q t hq ht⟩
 have split:∀k (q:Nat×Value),(bs++[(p,Value.slice none 0 0)])[k]?=some q→bs[k]?=some q∨(k=bs.length∧q=(p,.slice none 0 0)):=fun k q hq=>by
  rcases Nat.lt_or_ge k bs.length with hk|hk
  ·rw [List.getElem?_append_left hk] at hq;exact .inl hq
  ·have hl:=(List.getElem?_eq_some_iff.1 hq).1
   simp only[List.length_append,List.length_cons,List.length_nil] at hl
   obtain rfl:k=bs.length:=by omega
   simp only[List.getElem?_concat_length,Option.some.injEq] at hq
   exact .inr ⟨rfl,hq.symm⟩
 have splitA:∀k (t:St),(A++[s])[k]?=some t→A[k]?=some t∨(k=bs.length∧t=s):=fun k t hq=>by
  rcases Nat.lt_or_ge k A.length with hk|hk
  ·rw [List.getElem?_append_left hk] at hq;exact .inl hq
  ·have hl:=(List.getElem?_eq_some_iff.1 hq).1
   simp only[List.length_append,List.length_cons,List.length_nil] at hl
   have:=h.len
   obtain rfl:k=A.length:=by omega
   simp only[List.getElem?_concat_length,Option.some.injEq] at hq
   exact .inr ⟨by omega,hq.symm⟩
 have both:∀k (q:Nat×Value) (t:St),(bs++[(p,Value.slice none 0 0)])[k]?=some q→(A++[s])[k]?=some t→(bs[k]?=some q∧A[k]?=some t)∨(q=(p,.slice none 0 0)∧t=s):=fun k q t hq ht=>by
  rcases split k q hq with h1|⟨h1,h2⟩
  ·rcases splitA k t ht with h3|⟨h3,h4⟩
   ·exact .inl ⟨h1,h3⟩
   ·have:=(List.getElem?_eq_some_iff.1 h1).1;omega
  ·rcases splitA k t ht with h3|⟨h3,h4⟩
   ·have:=(List.getElem?_eq_some_iff.1 h3).1
    have:=h.len
    omega
   ·exact .inr ⟨h2,h4⟩
 refine⟨hr,h.hB,OwnF.chg h.obs hc fun g hg=>?_,ht,by simp[h.len],fun k q t hq ht=>?_,?_,fun j k q r hq hr hne g hg=>?_,⟨h.by_.1,MY',hY,fun k q t hq ht=>?_,fun x hx=>?_⟩,⟨h.bz.1,MZ',hZ,fun x hx=>?_⟩,h.ne⟩
 ·obtain ⟨cs,fz,hh⟩:=OwnF.typ h.obs hg
  exact notA g cs _ fz hh (by decide) (by decide)
 ·rcases both k q t hq ht with⟨h1,h2⟩|⟨rfl,rfl⟩
  ·refine (h.sts k q t h1 h2).chg hc fun g hg=>?_
   obtain⟨cs,t',fz,hh,ht'⟩:=(h.sts k q t h1 h2).typ hg
   rcases ht' with rfl|rfl
   ·exact notA g cs _ fz hh (by decide) (by decide)
   ·exact notA g cs _ fz hh (by decide) (by decide)
  ·exact hs
 ·rw [List.map_append]
  refine List.nodup_append.2 ⟨h.nod,by simp,?_⟩
  intro a ha b hb
  simp only[List.map_cons,List.map_nil,List.mem_singleton] at hb
  subst hb
  obtain⟨q,hq,rfl⟩:=List.mem_map.1 ha
  obtain⟨k,hk⟩:=List.mem_iff_getElem?.1 hq
  obtain⟨t,-,hst⟩:=old k q hk
  have:=row_lt hst.row
  exact fun e=>by omega
 ·rcases split j q hq with h1|⟨-,rfl⟩
  ·rcases split k r hr with h2|⟨-,rfl⟩
   ·exact h.dis j k q r h1 h2 hne g hg
   ·simp [Value.ownBlock]
  ·simp [Value.ownBlock] at hg
 ·rcases both k q t hq ht with⟨h1,h2⟩|⟨rfl,rfl⟩
  ·rw [f3 t.id ?_]
   ·exact f1 k q t h1 h2
   ·intro e
    exact hno ⟨t,List.mem_of_getElem? h2,e⟩
  ·exact f4
 ·rw [f3 x ?_]
  ·exact f2 x fun⟨t,ht,e⟩=>hx ⟨t,by simp[ht],e⟩
  ·rintro rfl
   exact hx ⟨s,by simp,rfl⟩
 ·rw [f6 x fun e=>hx (.inr e)]
  exact f5 x fun e=>hx (.inl e)
theorem isBusy_snoc {s:St} {x:Int} (h:isBusy x A∨x=s.thread) (hs:s.stand≠5):isBusy x (A++[s]):=by
 rcases h with⟨t,ht,h⟩|rfl
 ·exact ⟨t,by simp[ht],h⟩
 ·exact ⟨s,by simp,rfl,hs⟩
end
