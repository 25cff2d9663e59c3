/- Parts of the proof, merged by program out of 2 texts (ShP, FtC): the first: The automaton of well-formed histories: its moves at a call, at a return. Conditions: those of each theorem, as typed. -/
import Derived.Test.YtcpfbphcldocpaaGreatDoorQF09
import Derived.Test.YtcpfbphcldocpaaGreatDoorQF06
set_option linter.unusedVariables false
set_option linter.unusedSimpArgs false
set_option linter.unusedSectionVars false
set_option maxRecDepth 100000
set_option maxHeartbeats 4000000
namespace Go.Proofs.YtcpfbphcldocpaaGreatDoor
open Go.Maps Go.RowKit
section
attribute [local irreducible] wpL
theorem infoDd:(Tryz.prog.info? 112).map (fun i=>(i.zero,i.size,i.bytes))=some (some (.agg #[.int .i64 0,.int .i64 0,.int .i64 0,.int .i64 0,.int .i64 0,.int .i64 0,.int .i64 0,.int .i64 0]),8,64):=by kernel_rfl
theorem dd_one (x:Dd):∀u ∈ x.cells,u.oneCell'=true:=by intro u hu;simp[Dd.cells] at hu;rcases hu with rfl|rfl|rfl|rfl|rfl|rfl|rfl|rfl <;> rfl
theorem dd_last {l:List Dd} {d:Dd} (h:l.getLast?=some d):l=l.dropLast++[d]:=by
 obtain⟨ys,h1⟩:=List.getLast?_eq_some_iff.1 h
 rw[h1];simp
theorem flat_set {α:Type} {f:α→List Value} {sz:Nat} (hf:∀x,(f x).length=sz):∀(l:List α) (k j:Nat) (x x':α) (u:Value),l[k]?=some x→j < sz→f x'=(f x).set j u→(l.set k x').flatMap f=(l.flatMap f).set (k*sz+j) u
 |[],k,j,x,x',u,h,_,_=>by simp at h
 |y::l,0,j,x,x',u,h,hj,he=>by
  simp only[List.getElem?_cons_zero,Option.some.injEq] at h
  subst h
  simp only[List.set_cons_zero,List.flatMap_cons,Nat.zero_mul,Nat.zero_add,he]
  rw[List.set_append_left _ _ (by rw[hf];exact hj)]
 |y::l,k+1,j,x,x',u,h,hj,he=>by
  simp only[List.getElem?_cons_succ] at h
  simp only[List.set_cons_succ,List.flatMap_cons]
  rw[flat_set hf l k j x x' u h hj he,List.set_append_right _ _ (by rw[hf,Nat.add_mul];omega),hf]
  congr 2
  rw[Nat.add_mul];omega
theorem OwnF.setAt {α:Type} {f:α→List Value} {e:TypeId} {sz B g n cap:Nat} {l:List α} {w:World} (h:OwnF f e sz w B (.slice (some ⟨g,0,none⟩) n cap) l) (hf:∀x,(f x).length=sz) {k j:Nat} {x x':α} {u:Value} (hk:l[k]?=some x) (hj:j < sz) (he:f x'=(f x).set j u):
  OwnF f e sz (w.setCell ⟨g,k*sz+j,none⟩ u) B (.slice (some ⟨g,0,none⟩) n cap) (l.set k x'):=by
 obtain⟨h1,h2⟩:=h
 have hkl:=(List.getElem?_eq_some_iff.1 hk).1
 have hfl:=flat_set hf l k j x x' u hk hj he
 refine⟨by rw[hfl,List.length_set,List.length_set];exact h1,?_⟩
 rcases h2 with⟨h2,h3⟩|⟨g',cap',cur,hv,hg,hh,hnc,hcm,hs,ht⟩
 ·cases h2
 ·simp only[Value.slice.injEq,Option.some.injEq,Addr.mk.injEq] at hv
  obtain⟨⟨rfl,-,-⟩,hn,rfl⟩:=hv
  refine .inr ⟨g,cap,cur.setIfInBounds (k*sz+j) u,by rw[List.length_set,hn],hg,row_set hh _ _,by rw[List.length_set];exact hnc,hcm,by simpa using hs,?_⟩
  rw[hfl,List.length_set,Array.toList_setIfInBounds,List.take_set,ht]
theorem OwnF.free {α:Type} {f:α→List Value} {e:TypeId} {sz B g n cap:Nat} {l:List α} {w:World} (h:OwnF f e sz w B (.slice (some ⟨g,0,none⟩) n cap) l) (j:Nat):w.frozen? ⟨g,j,none⟩=false:=by
 obtain⟨cs,hcs⟩:=OwnF.keepObj h g rfl
 exact row_free hcs j
section
variable {w:World} {B p:Nat} {dv:Value} {s:St}
theorem mv_call (xk xx xh xj xo xy xv xr:Int) (n:Nat) (h:StAt w B (p,dv) s) (hl:s.deeds.length≤1000):
  Calls Tryz.prog 172 #[.pointer (some ⟨p,0,none⟩),evV ⟨xk,xx,xh,xj,xo,xy,xv,xr⟩,.int .i64 n] w (MvRet w B (p,dv) (callSt ⟨xk,xx,xh,xj,xo,xy,xv,xr⟩ n s)):=by
 have l0:=row_lt h.row
 have H:=hid h
 have r0:=h.row
 obtain⟨da,dn,dc,rfl⟩:∃a n c,dv=.slice a n c:=by
  rcases OwnF.form h.dds with⟨rfl,-⟩|⟨g,cap,rfl,-⟩
  ·exact ⟨_,_,_,rfl⟩
  ·exact ⟨_,_,_,rfl⟩
 have y:=row_cell r0
 have y6:=y 6
 have y7:=y 7
 simp[stCs] at y6 y7
 have yf:∀j,w.frozen? ⟨p,j,none⟩=false:=fun j=>row_free r0 j
 have R0:=hid r0
 clear y h r0
 go_enter Tryz.func172,Tryz.ntmps172
 go_wp2_with fail
 have r1:=row_old (o:=.cells #[.int .i64 xk,.int .i64 xx,.int .i64 xh,.int .i64 xj,.int .i64 xo,.int .i64 xy,.int .i64 xv,.int .i64 xr] 69) (row_set R0.out 7 (.int .i64 2))
 have re:=row_new' (w:=w.setCell ⟨p,7,none⟩ (.int .i64 2)) (o:=.cells #[.int .i64 xk,.int .i64 xx,.int .i64 xh,.int .i64 xj,.int .i64 xo,.int .i64 xy,.int .i64 xv,.int .i64 xr] 69) (g:=w.heap.size) (by simp)
 have c1:Chg (fun k=>k=p) w ((w.setCell ⟨p,7,none⟩ (.int .i64 2)).alloc (.cells #[.int .i64 xk,.int .i64 xx,.int .i64 xh,.int .i64 xj,.int .i64 xo,.int .i64 xy,.int .i64 xv,.int .i64 xr] 69)):=((Chg.refl (S:=fun k=>k=p) w).set rfl).alloc _
 have hz1:((w.setCell ⟨p,7,none⟩ (.int .i64 2)).alloc (.cells #[.int .i64 xk,.int .i64 xx,.int .i64 xh,.int .i64 xj,.int .i64 xo,.int .i64 xy,.int .i64 xv,.int .i64 xr] 69)).heap.size=w.heap.size+1:=by simp
 generalize (w.setCell ⟨p,7,none⟩ (.int .i64 2)).alloc (.cells #[.int .i64 xk,.int .i64 xx,.int .i64 xh,.int .i64 xj,.int .i64 xo,.int .i64 xy,.int .i64 xv,.int .i64 xr] 69)=W at *
 have hd:OwnD W B (.slice da dn dc) s.deeds:=OwnF.chg H.out.dds c1 fun g hg hk=>by
  obtain⟨cs,fz,hh⟩:=OwnF.typ H.out.dds hg
  rw[hk,R0.out] at hh
  simp at hh
 clear y6 y7 yf
 have y6:=row_cell r1 6
 simp[stCs] at y6
 have yf:∀j,W.frozen? ⟨p,j,none⟩=false:=fun j=>row_free r1 j
 have e0:=row_cell re 3
 have e1:=row_cell re 4
 have e2:=row_cell re 5
 have e3:=row_cell re 6
 simp at e0 e1 e2 e3
 have lp:p < W.heap.size:=by omega
 have le:w.heap.size < W.heap.size:=by omega
 have HD:=hid hd
 have R1:=hid r1
 have C1:=hid c1
 clear re r1 c1 hd hz1
 have hB:B≤p:=H.out.hB
 refine wp_rN (W.heap.size) [0,0,0,0,0,1,0,1,0,1,0,1,0,1,0,0,3,2,0,0,0,2] (.fin [0,1,2,3,4,5,6,7,8,9,10,11,12,13,14,15,16,17,18,19,20,21]) (by kernel_rfl) ?_
 simp only[wpT,selX,guardAt,sD,sE,sF,sG]
 repeat first|(refine wpL_p fun K hK=>?_;go_simp;refine hK _ _ ?_;clear hK K)|(apply wpL_s;(intro w2 hw2;have hk1:=hw2.cell;have hk3:=hw2.1;clear hw2;go_simp;with_reducible rfl);simp only[Act.put,sA,sB,sC])
 refine wpL_k (fun K hK=>?_)
 go_simp
 refine hK _ _ (RN.KeepsN.alloc _ _ (Nat.le_refl _)) ?_
 clear hK K
 refine wpL_e (fun K hK=>?_)
 have hBW:B≤W.drew.heap.size:=by
  show B≤W.heap.size
  omega
 refine wp_appF _ _ _ rfl _ 64 Tryz.underlying47 infoDd rfl HD.out.drew (newDd ⟨xk,xx,xh,xj,xo,xy,xv,xr⟩ n) hBW (by rfl) (by rfl) (by first|rfl|simp) rfl (dd_one _) (by first|omega|(simp only[List.length_append,List.length_cons,List.length_nil,List.length_replicate];omega)) (by first|omega|(simp only[List.length_append,List.length_cons,List.length_nil,List.length_replicate];omega)) ?_
 intro g cap w' ho hg
 refine hK _ _ ?_
 clear hK K
 have hne:(Value.slice da dn dc).ownBlock≠some p:=fun hk=>by
  obtain⟨cs,fz,hh⟩:=OwnF.typ HD.out hk
  rw[R1.out] at hh
  simp[stCs] at hh
 have hne2:(Value.slice (some ⟨g,0,none⟩) (s.deeds.length+1) cap).ownBlock≠some p:=fun hk=>by
  rcases hg.own _ hk with h1|h1
  ·exact hne h1
  ·have h1:W.heap.size≤p:=h1
   omega
 have r2:=row_grw (row_drew R1.out) hg hne
 have z2:W.heap.size≤w'.heap.size:=hg.size
 have l2:p < w'.heap.size:=by omega
 clear y6 yf
 have y6:=row_cell r2 6
 simp[stCs] at y6
 have yf:∀j,w'.frozen? ⟨p,j,none⟩=false:=fun j=>row_free r2 j
 have R2:=hid r2
 have HO:=hid ho
 have HG:=hid hg
 clear r2 ho hg
 repeat (refine wpL_p fun K hK=>?_;go_simp;refine hK _ _ ?_;clear hK K)
 refine wpL_e (fun K hK=>?_)
 go_simp
 refine hK _ _ ?_
 clear hK K
 repeat refine wpL_nil ?_
 go_wp2
 go_ret
 refine⟨rfl,_,⟨row_set R2.out 6 _,hB,OwnF.other HO.out hne2 _⟩,?_,fun k hk=>?_⟩
 ·refine Chg.set ?_ (.inl rfl)
  exact Chg.trans ((C1.out.mono (T:=stS (p,.slice da dn dc)) fun j hj=>.inl hj).drew) (Chg.grw (S:=stS (p,.slice da dn dc)) HG.out fun k hk=>.inr hk) fun j _ hj=>hj
 ·rcases HG.out.own _ hk with h1|h1
  ·exact .inl h1
  ·exact .inr (by have h1:W.heap.size≤k:=h1;omega)
end
end
section
attribute [local irreducible] wpL
def IntCnt (w:World) (b:Nat) (met:List Int) (n:Nat):Prop:=∃M,RawM w b M∧∀k:Int,∃c:Nat,c≤n∧(M k).getD (.int .i64 0)=.int .i64 c∧(c=0↔k ∉ met)
section
variable {w w':World} {b n:Nat} {met:List Int}
theorem IntCnt.obj (h:IntCnt w b met n) (hw:w'.heap[b]?=w.heap[b]?):IntCnt w' b met n:=let ⟨M,h1,h2⟩:=h;⟨M,h1.obj hw,h2⟩
theorem IntCnt.lt (h:IntCnt w b met n):b < w.heap.size:=let ⟨M,h1,h2⟩:=h;h1.lt
theorem IntCnt.made (h:w.heap[b]?=some (.map #[] 0)):IntCnt w b [] 0:=⟨_,RawM.made h,fun c=>⟨0,Nat.le_refl _,rfl,by simp⟩⟩
theorem IntCnt.mono {n':Nat} (h:IntCnt w b met n) (hn:n≤n'):IntCnt w b met n':=let ⟨M,h1,h2⟩:=h;⟨M,h1,fun k=>let ⟨c,a,r⟩:=h2 k;⟨c,by omega,r⟩⟩
theorem zeroI6 (w:World):(zeroValue 3).run Tryz.prog w=.ok (.int .i64 0) w:=by kernel_rfl
theorem IntCnt.put {M:Int→Option Value} {a:Int} {c:Nat} (h:RawM w' b (rup M a (some (.int .i64 ((c:Int)+1))))) (h2:∀k:Int,∃c:Nat,c≤n∧(M k).getD (.int .i64 0)=.int .i64 c∧(c=0↔k ∉ met)) (hc:c≤n):IntCnt w' b (a::met) (n+1):=by
 refine⟨_,h,fun k=>?_⟩
 by_cases e:k=a
 ·subst e;rw[rup_same];exact⟨c+1,by omega,by simp,by simp⟩
 ·rw [rup_ne e]
  obtain⟨c',h1,h2,h3⟩:=h2 k
  exact⟨c',by omega,h2,by rw[h3];simp[e]⟩
end
theorem OwnF.sli {α:Type} {f:α→List Value} {e:TypeId} {sz B:Nat} {w:World} {v:Value} {l:List α} (h:OwnF f e sz w B v l):∃a c,v=.slice a l.length c:=by
 rcases OwnF.form h with⟨h1,h2⟩|⟨g,cap,h1,-⟩
 ·exact ⟨_,_,by rw[h1,h2];rfl⟩
 ·exact ⟨_,_,h1⟩
theorem OwnF.neM {α:Type} {f:α→List Value} {e:TypeId} {sz B b:Nat} {w:World} {v:Value} {l:List α} (h:OwnF f e sz w B v l) (hm:∃es c,w.heap[b]?=some (.map es c)):v.ownBlock≠some b:=fun e=>by
 obtain⟨es,c,hm⟩:=hm
 obtain⟨c2,hc2⟩:=h.keepObj b e
 rw[hm] at hc2
 cases hc2
theorem readsF_len:∀(l:List Dd) (met:List Int),(readsF met l).length≤l.length
 |[],_=>Nat.le_refl _
 |d::l,met=>by
  rw[readsF,List.length_append,List.length_cons]
  have:=readsF_len l (if isRead d||decide (d.op=2) then d.obj::met else met)
  generalize (readsF (if isRead d||decide (d.op=2) then d.obj::met else met) l)=r at *
  split
  ·rw [List.length_singleton];omega
  ·rw [List.length_nil];omega
theorem p_Reads (i th st be fi tr:Int) (dv:Value) (l:List Dd) (w:World) (hd:Sl w w.heap.size 8 dv l.length (l.flatMap Dd.cells)) (hl:l.length≤400):
  Calls Tryz.prog 42 #[.agg #[.int .i64 i,.int .i64 th,.int .i64 st,.int .i64 be,.int .i64 fi,.int .i64 tr,dv]] w fun e w'=>∃v,e=.returned v∧OwnD w' w.heap.size v (readsF [] l)∧Below w.heap.size w w':=by
 obtain⟨ad,cd,rfl,md⟩:=hd.ex
 have hmm:=@run_makeMap Tryz.prog
 have HD:=hid hd
 clear hd md
 go_enter Tryz.func42,Tryz.ntmps42
 go_wp2_with fail
 have B0:=hid (show Below w.heap.size w ((w.alloc (.cells #[.int .i64 i,.int .i64 th,.int .i64 st,.int .i64 be,.int .i64 fi,.int .i64 tr,.slice ad l.length cd] 49)).alloc (.map #[] 0)) from((Below.refl _ w).alloc (Nat.le_refl _) _).alloc (by simp) _)
 have C0:=hid (show IntCnt ((w.alloc (.cells #[.int .i64 i,.int .i64 th,.int .i64 st,.int .i64 be,.int .i64 fi,.int .i64 tr,.slice ad l.length cd] 49)).alloc (.map #[] 0)) (w.heap.size+1) [] 0 from IntCnt.made (by have:=heap_alloc_new (w.alloc (.cells #[.int .i64 i,.int .i64 th,.int .i64 st,.int .i64 be,.int .i64 fi,.int .i64 tr,.slice ad l.length cd] 49)) (.map #[] 0);simpa using this))
 generalize ((w.alloc (.cells #[.int .i64 i,.int .i64 th,.int .i64 st,.int .i64 be,.int .i64 fi,.int .i64 tr,.slice ad l.length cd] 49)).alloc (.map #[] 0))=W at *
 go_loopw [4,12] (fun q p wr=>∃(k:Nat),k≤l.length∧p=.int .i64 k∧OwnD wr w.heap.size q (readsF [] (l.take k))∧IntCnt wr (w.heap.size+1) (metF [] (l.take k)) k∧Below w.heap.size w wr) (fun _ p _=>l.length - (intOf p).toNat)
 case atStart=>exact⟨0,by omega,by go_num,OwnF.nil _ _,C0.out,B0.out⟩
 case round=>
  obtain⟨k,hk,rfl,qo,qc,qb⟩:=hrel
  clear B0 C0 W
  have hsz:=qb.size
  have hcl:=qc.lt
  obtain⟨X,hX⟩:∃X,readsF [] (l.take k)=X:=⟨_,rfl⟩
  rw[hX] at qo
  obtain⟨aq,cq,rfl⟩:=OwnF.sli qo
  have HXX:=hid hX
  have QO:=hid qo
  have QC:=hid qc
  have QB:=hid qb
  clear qo qc qb hX
  by_cases hlt:k < l.length
  ·obtain ⟨b,off,d,rfl,hb,hdk,hc⟩:=HD.out.atF Dd.len rfl hlt
   have HR:=hid (show readsF [] (l.take (k+1))=readsF [] (l.take k)++(if isRead d&&!(metF [] (l.take k)).contains d.obj then[d] else[]) by
    rw[List.take_add_one,hdk,Option.toList_some,readsF_app]
    simp[readsF])
   have HM:=hid (show metF [] (l.take (k+1))=(if isRead d||decide (d.op=2) then d.obj::metF [] (l.take k) else metF [] (l.take k)) by
    rw[List.take_add_one,hdk,Option.toList_some]
    unfold metF
    rw[List.foldl_append]
    rfl)
   obtain⟨ob,op,ke,va,re,go,at_,ba⟩:=d
   have c0:wr.cell? ⟨b,off+k*8,none⟩=some (.int .i64 ob):=cell_below QB.out hb (hc 0 (by decide))
   have c1:wr.cell? ⟨b,off+k*8+1,none⟩=some (.int .i64 op):=cell_below QB.out hb (hc 1 (by decide))
   have c2:wr.cell? ⟨b,off+k*8+2,none⟩=some (.int .i64 ke):=cell_below QB.out hb (hc 2 (by decide))
   have c3:wr.cell? ⟨b,off+k*8+3,none⟩=some (.int .i64 va):=cell_below QB.out hb (hc 3 (by decide))
   have c4:wr.cell? ⟨b,off+k*8+4,none⟩=some (.int .i64 re):=cell_below QB.out hb (hc 4 (by decide))
   have c5:wr.cell? ⟨b,off+k*8+5,none⟩=some (.int .i64 go):=cell_below QB.out hb (hc 5 (by decide))
   have c6:wr.cell? ⟨b,off+k*8+6,none⟩=some (.int .i64 at_):=cell_below QB.out hb (hc 6 (by decide))
   have c7:wr.cell? ⟨b,off+k*8+7,none⟩=some (.int .i64 ba):=cell_below QB.out hb (hc 7 (by decide))
   have hbw:b < wr.heap.size:=by omega
   obtain⟨Y,hY⟩:∃Y,metF [] (l.take k)=Y:=⟨_,rfl⟩
   rw[HXX.out] at HR
   rw[hY] at QC HM HR
   have hXl:X.length≤400:=by
    rw[←HXX.out]
    exact Nat.le_trans (readsF_len _ _) (by rw[List.length_take];omega)
   clear hc hdk hY
   by_cases e1:op=1
   ·subst e1
    by_cases e4:re=3
    ·subst e4
     have b3:Below wr.heap.size wr (wr.alloc (.cells #[.int .i64 ob,.int .i64 1,.int .i64 ke,.int .i64 va,.int .i64 3,.int .i64 go,.int .i64 at_,.int .i64 ba] 112)):=(Below.refl _ wr).alloc (Nat.le_refl _) _
     have r3:=row_new wr (.cells #[.int .i64 ob,.int .i64 1,.int .i64 ke,.int .i64 va,.int .i64 3,.int .i64 go,.int .i64 at_,.int .i64 ba] 112)
     have QO3:=hid (OwnF.below QO.out b3)
     have QC3:=hid (QC.out.obj (b3.block _ hcl))
     have B3:=hid (QB.out.trans (b3.mono hsz))
     have hz3:(wr.alloc (.cells #[.int .i64 ob,.int .i64 1,.int .i64 ke,.int .i64 va,.int .i64 3,.int .i64 go,.int .i64 at_,.int .i64 ba] 112)).heap.size=wr.heap.size+1:=by simp
     have HZ3:=hid (show w.heap.size≤(wr.alloc (.cells #[.int .i64 ob,.int .i64 1,.int .i64 ke,.int .i64 va,.int .i64 3,.int .i64 go,.int .i64 at_,.int .i64 ba] 112)).heap.size by omega)
     have hne3:(Value.slice aq X.length cq).ownBlock≠some wr.heap.size:=fun e=>absurd (OwnF.lt QO.out _ e).2 (Nat.lt_irrefl _)
     have y:=row_cell r3
     have y0:=y 0
     have y1:=y 1
     have y2:=y 2
     have y3:=y 3
     have y4:=y 4
     have y5:=y 5
     have y6:=y 6
     have y7:=y 7
     simp at y0 y1 y2 y3 y4 y5 y6 y7
     have yl:=row_lt r3
     clear y
     obtain⟨M,hM,hM2⟩:=QC3.out
     obtain⟨c,hcn,hg,hc0⟩:=hM2 ob
     have lk:=(hM.look Tryz.underlying3 Tryz.underlying138 (zeroI6 _) ob rfl).1
     rw[hg] at lk
     have hc4:c≤400:=by omega
     have HM2:=hid hM2
     clear hM2 hg
     have R3:=hid r3
     clear r3 b3
     by_cases hm:c=0
     ·subst hm
      have hnm:=hid (hc0.1 rfl)
      rw[show ((0:Nat):Int)=0 from rfl] at lk
      clear hc0
      go_wp2_with (at_builtin;refine wpList_appF rfl _ _ _ rfl _ 64 Tryz.underlying47 infoDd rfl QO3.out (⟨ob,1,ke,va,3,go,at_,ba⟩:Dd) HZ3.out (by rfl) (by rfl) (by first|rfl|simp) rfl (dd_one _) (by first|omega|(simp only[List.length_append,List.length_cons,List.length_nil,List.length_replicate];omega)) (by first|omega|(simp only[List.length_append,List.length_cons,List.length_nil,List.length_replicate];omega)) ?_;refine Stop.halt ?_)
      refine Stop.go ?_
      generalize wr.alloc (.cells #[.int .i64 ob,.int .i64 1,.int .i64 ke,.int .i64 va,.int .i64 3,.int .i64 go,.int .i64 at_,.int .i64 ba] 112)=W3 at *
      intro g5 c5 w5 o5 G5
      have r5:w5.heap[wr.heap.size]?=some _:=row_grw R3.out G5 hne3
      have hM5:=hM.obj (G5.grown.block (w.heap.size+1) hM.lt fun e=>OwnF.neM QO3.out hM.isMap e.symm)
      have lk5:=(hM5.look Tryz.underlying3 Tryz.underlying138 (zeroI6 w5) ob rfl).1
      have hg5:(M ob).getD (.int .i64 0)=.int .i64 0:=by
       obtain⟨c',h1,h2,h3⟩:=HM2.out ob
       rw[h2,h3.2 hnm.out];rfl
      rw[hg5] at lk5
      have O5:=hid o5
      have z5:=G5.size
      have B5:=hid (B3.out.trans (G5.below (B:=w.heap.size) (by omega) fun j hj=>(OwnF.lt QO3.out j hj).1))
      clear lk hcn y0 y1 y2 y3 y4 y5 y6 y7 yl o5 G5 hg5 hM
      have y:=row_cell r5
      have y0:=y 0
      have y1:=y 1
      have y2:=y 2
      have y3:=y 3
      have y4:=y 4
      have y5:=y 5
      have y6:=y 6
      have y7:=y 7
      simp at y0 y1 y2 y3 y4 y5 y6 y7
      have yl:=row_lt r5
      clear y
      clear r5
      go_wp2_with (at_mapUpdate;refine Stop.halt ?_)
      refine Stop.go ?_
      refine hM5.wpList_store Tryz.underlying3 Tryz.underlying138 (a:=ob) (v:=.int .i64 1) rfl (.inl rfl) (by rfl) (by rfl) (by rfl) ?_
      intro w6 hM6 t6
      have C6:=hid (IntCnt.put (c:=0) hM6 HM2.out (Nat.zero_le _))
      have O6:=hid (OwnF.kd (T:=fun _=>False) O5.out (Kd.turned t6) fun h=>h)
      have B6:=hid (B5.out.trans (Below.turned t6 (by omega)))
      clear t6 hM6
      go_wp2_with fail
      go_roundw
      case rel=>
       refine⟨k+1,by omega,by go_num,?_,?_,B6.out⟩
       ·have e:=HR.out
        rw[if_pos (by simp[isRead,hnm.out])] at e
        rw[e]
        exact O6.out
       ·have e:=HM.out
        rw[if_pos (by simp[isRead])] at e
        rw[e]
        exact C6.out
      case measure=>simp[intOf];omega
     ·have hnm:=hid (Classical.not_not.1 fun h=>hm (hc0.2 h))
      have q0:((c:Int)==0)=false:=by simp;omega
      clear hc0 hm
      go_wp2_with (at_mapUpdate;refine Stop.halt ?_)
      generalize wr.alloc (.cells #[.int .i64 ob,.int .i64 1,.int .i64 ke,.int .i64 va,.int .i64 3,.int .i64 go,.int .i64 at_,.int .i64 ba] 112)=W3 at *
      refine Stop.go ?_
      refine hM.wpList_store Tryz.underlying3 Tryz.underlying138 (a:=ob) (v:=.int .i64 ((c:Int)+1)) rfl (.inl rfl) (by rfl) (by rfl) (by rfl) ?_
      intro w6 hM6 t6
      have C6:=hid (IntCnt.put hM6 HM2.out hcn)
      have O6:=hid (OwnF.kd (T:=fun _=>False) QO3.out (Kd.turned t6) fun h=>h)
      have B6:=hid (B3.out.trans (Below.turned t6 (by omega)))
      clear t6 hM6
      go_wp2_with fail
      go_roundw
      case rel=>
       refine⟨k+1,by omega,by go_num,?_,?_,B6.out⟩
       ·have e:=HR.out
        rw[if_neg (by simp[isRead,hnm.out]),List.append_nil] at e
        rw[e]
        exact O6.out
       ·have e:=HM.out
        rw[if_pos (by simp[isRead])] at e
        rw[e]
        exact C6.out
      case measure=>simp[intOf];omega
    ·have q4:(re==3)=false:=by simpa using e4
     have b3:Below wr.heap.size wr (wr.alloc (.cells #[.int .i64 ob,.int .i64 1,.int .i64 ke,.int .i64 va,.int .i64 re,.int .i64 go,.int .i64 at_,.int .i64 ba] 112)):=(Below.refl _ wr).alloc (Nat.le_refl _) _
     have r3:=row_new wr (.cells #[.int .i64 ob,.int .i64 1,.int .i64 ke,.int .i64 va,.int .i64 re,.int .i64 go,.int .i64 at_,.int .i64 ba] 112)
     have QO3:=hid (OwnF.below QO.out b3)
     have QC3:=hid (QC.out.obj (b3.block _ hcl))
     have B3:=hid (QB.out.trans (b3.mono hsz))
     have hz3:(wr.alloc (.cells #[.int .i64 ob,.int .i64 1,.int .i64 ke,.int .i64 va,.int .i64 re,.int .i64 go,.int .i64 at_,.int .i64 ba] 112)).heap.size=wr.heap.size+1:=by simp
     have HZ3:=hid (show w.heap.size≤(wr.alloc (.cells #[.int .i64 ob,.int .i64 1,.int .i64 ke,.int .i64 va,.int .i64 re,.int .i64 go,.int .i64 at_,.int .i64 ba] 112)).heap.size by omega)
     have hne3:(Value.slice aq X.length cq).ownBlock≠some wr.heap.size:=fun e=>absurd (OwnF.lt QO.out _ e).2 (Nat.lt_irrefl _)
     have y:=row_cell r3
     have y0:=y 0
     have y1:=y 1
     have y2:=y 2
     have y3:=y 3
     have y4:=y 4
     have y5:=y 5
     have y6:=y 6
     have y7:=y 7
     simp at y0 y1 y2 y3 y4 y5 y6 y7
     have yl:=row_lt r3
     clear y
     clear r3 b3
     go_wp2_with fail
     generalize wr.alloc (.cells #[.int .i64 ob,.int .i64 1,.int .i64 ke,.int .i64 va,.int .i64 re,.int .i64 go,.int .i64 at_,.int .i64 ba] 112)=W3 at *
     go_roundw
     case rel=>
      refine⟨k+1,by omega,by go_num,?_,?_,B3.out⟩
      ·have e:=HR.out
       rw[if_neg (by simp[isRead,e4]),List.append_nil] at e
       rw[e]
       exact QO3.out
      ·have e:=HM.out
       rw[if_neg (by simp[isRead,e4])] at e
       rw[e]
       exact QC3.out.mono (by omega)
     case measure=>simp[intOf];omega
   ·have q1:(op==1)=false:=by simpa using e1
    by_cases e2:op=2
    ·subst e2
     have b3:Below wr.heap.size wr (wr.alloc (.cells #[.int .i64 ob,.int .i64 2,.int .i64 ke,.int .i64 va,.int .i64 re,.int .i64 go,.int .i64 at_,.int .i64 ba] 112)):=(Below.refl _ wr).alloc (Nat.le_refl _) _
     have r3:=row_new wr (.cells #[.int .i64 ob,.int .i64 2,.int .i64 ke,.int .i64 va,.int .i64 re,.int .i64 go,.int .i64 at_,.int .i64 ba] 112)
     have QO3:=hid (OwnF.below QO.out b3)
     have QC3:=hid (QC.out.obj (b3.block _ hcl))
     have B3:=hid (QB.out.trans (b3.mono hsz))
     have hz3:(wr.alloc (.cells #[.int .i64 ob,.int .i64 2,.int .i64 ke,.int .i64 va,.int .i64 re,.int .i64 go,.int .i64 at_,.int .i64 ba] 112)).heap.size=wr.heap.size+1:=by simp
     have HZ3:=hid (show w.heap.size≤(wr.alloc (.cells #[.int .i64 ob,.int .i64 2,.int .i64 ke,.int .i64 va,.int .i64 re,.int .i64 go,.int .i64 at_,.int .i64 ba] 112)).heap.size by omega)
     have hne3:(Value.slice aq X.length cq).ownBlock≠some wr.heap.size:=fun e=>absurd (OwnF.lt QO.out _ e).2 (Nat.lt_irrefl _)
     have y:=row_cell r3
     have y0:=y 0
     have y1:=y 1
     have y2:=y 2
     have y3:=y 3
     have y4:=y 4
     have y5:=y 5
     have y6:=y 6
     have y7:=y 7
     simp at y0 y1 y2 y3 y4 y5 y6 y7
     have yl:=row_lt r3
     clear y
     obtain⟨M,hM,hM2⟩:=QC3.out
     obtain⟨c,hcn,hg,hc0⟩:=hM2 ob
     have lk:=(hM.look Tryz.underlying3 Tryz.underlying138 (zeroI6 _) ob rfl).1
     rw[hg] at lk
     have hc4:c≤400:=by omega
     have HM2:=hid hM2
     clear hM2 hg
     clear r3 b3 hc0
     go_wp2_with (at_mapUpdate;refine Stop.halt ?_)
     generalize wr.alloc (.cells #[.int .i64 ob,.int .i64 2,.int .i64 ke,.int .i64 va,.int .i64 re,.int .i64 go,.int .i64 at_,.int .i64 ba] 112)=W3 at *
     refine Stop.go ?_
     refine hM.wpList_store Tryz.underlying3 Tryz.underlying138 (a:=ob) (v:=.int .i64 ((c:Int)+1)) rfl (.inl rfl) (by rfl) (by rfl) (by rfl) ?_
     intro w6 hM6 t6
     have C6:=hid (IntCnt.put hM6 HM2.out hcn)
     have O6:=hid (OwnF.kd (T:=fun _=>False) QO3.out (Kd.turned t6) fun h=>h)
     have B6:=hid (B3.out.trans (Below.turned t6 (by omega)))
     clear t6 hM6
     go_wp2_with fail
     go_roundw
     case rel=>
      refine⟨k+1,by omega,by go_num,?_,?_,B6.out⟩
      ·have e:=HR.out
       rw[if_neg (by simp[isRead]),List.append_nil] at e
       rw[e]
       exact O6.out
      ·have e:=HM.out
       rw[if_pos (by simp[isRead])] at e
       rw[e]
       exact C6.out
     case measure=>simp[intOf];omega
    ·have q2:(op==2)=false:=by simpa using e2
     have b3:Below wr.heap.size wr (wr.alloc (.cells #[.int .i64 ob,.int .i64 op,.int .i64 ke,.int .i64 va,.int .i64 re,.int .i64 go,.int .i64 at_,.int .i64 ba] 112)):=(Below.refl _ wr).alloc (Nat.le_refl _) _
     have r3:=row_new wr (.cells #[.int .i64 ob,.int .i64 op,.int .i64 ke,.int .i64 va,.int .i64 re,.int .i64 go,.int .i64 at_,.int .i64 ba] 112)
     have QO3:=hid (OwnF.below QO.out b3)
     have QC3:=hid (QC.out.obj (b3.block _ hcl))
     have B3:=hid (QB.out.trans (b3.mono hsz))
     have hz3:(wr.alloc (.cells #[.int .i64 ob,.int .i64 op,.int .i64 ke,.int .i64 va,.int .i64 re,.int .i64 go,.int .i64 at_,.int .i64 ba] 112)).heap.size=wr.heap.size+1:=by simp
     have HZ3:=hid (show w.heap.size≤(wr.alloc (.cells #[.int .i64 ob,.int .i64 op,.int .i64 ke,.int .i64 va,.int .i64 re,.int .i64 go,.int .i64 at_,.int .i64 ba] 112)).heap.size by omega)
     have hne3:(Value.slice aq X.length cq).ownBlock≠some wr.heap.size:=fun e=>absurd (OwnF.lt QO.out _ e).2 (Nat.lt_irrefl _)
     have y:=row_cell r3
     have y0:=y 0
     have y1:=y 1
     have y2:=y 2
     have y3:=y 3
     have y4:=y 4
     have y5:=y 5
     have y6:=y 6
     have y7:=y 7
     simp at y0 y1 y2 y3 y4 y5 y6 y7
     have yl:=row_lt r3
     clear y
     clear r3 b3
     go_wp2_with fail
     generalize wr.alloc (.cells #[.int .i64 ob,.int .i64 op,.int .i64 ke,.int .i64 va,.int .i64 re,.int .i64 go,.int .i64 at_,.int .i64 ba] 112)=W3 at *
     go_roundw
     case rel=>
      refine⟨k+1,by omega,by go_num,?_,?_,B3.out⟩
      ·have e:=HR.out
       rw[if_neg (by simp[isRead,e1]),List.append_nil] at e
       rw[e]
       exact QO3.out
      ·have e:=HM.out
       rw[if_neg (by simp[isRead,e1,e2])] at e
       rw[e]
       exact QC3.out.mono (by omega)
     case measure=>simp[intOf];omega
  ·obtain rfl:k=l.length:=by omega
   have e:=HXX.out
   rw[List.take_length] at e
   have hq:decide ((l.length:Int) < (l.length:Int))=false:=by simp
   have HE:=hid e
   clear e
   go_wp2
   go_ret
   exact⟨_,rfl,by rw[HE.out];exact QO.out,QB.out⟩
end
