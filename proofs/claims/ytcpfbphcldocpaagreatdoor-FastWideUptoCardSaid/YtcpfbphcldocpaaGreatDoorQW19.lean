/- Parts of the proof. Conditions: those of each theorem, as typed. -/
import Derived.Test.YtcpfbphcldocpaaGreatDoorQW18
import Derived.Test.YtcpfbphcldocpaaGreatDoorQW13
import Derived.OwnWalkIn
import Derived.Test.YtcpfbphcldocpaaGreatDoorQW12
import Derived.Test.YtcpfbphcldocpaaGreatDoorQW01
set_option linter.unusedVariables false
set_option linter.unusedSimpArgs false
set_option linter.unusedSectionVars false
set_option maxRecDepth 100000
set_option maxHeartbeats 4000000
namespace Go.Proofs.YtcpfbphcldocpaaGreatDoor
open Go.Maps Go.RowKit
section
attribute [local irreducible] xE
attribute [local go_sem] Oper.semAt_some
theorem qgV:(Tryz.prog.info? 28).map (fun i=>(i.zero,i.size,i.bytes))=some (some (.slice none 0 0),1,24):=by kernel_rfl
theorem Up {α:Type} {f:α->List Value} {e:TypeId} {sz B:Nat} {v:Value} {l:List α} {F:Fence} {n:Nat} {P:Program} {ops:Array Oper} {rest:List Oper} {o:Oper} {a:Act} {Q:Exit->Act->World->Prop} (hgd:o.guard=none) (s x:Operand) (t:TypeId)
  (ho:o.op=.call {callee:=.builtin .append,args:=#[s,x],argTypes:=#[t,t]})
  (z:Value) (bytes:Nat) (ht:P.underlying t=some (.slice e)) (hinfo:(P.info? e).map (fun i=>(i.zero,i.size,i.bytes))=some (some z,sz,bytes))
  (hzs:z.cells.size=sz) {w0:World} (hown:qj f e sz w0 B v l) (y:α) (hbase:B<=w0.heap.size) (hs:a.eval s=v)
  {g0:Nat} (hx:a.eval x=.slice (some ⟨g0,0,none⟩) 1 1) (hg0:g0=w0.heap.size) (hl:(f y).length=sz) (h1:∀u ∈ f y,u.oneCell'=true) (hn:l.length+1<=9223372036854775807) (hby:(l.length+1)*bytes<=140737488355328)
  (hK:∀g cap w',qj f e sz w' B (.slice (some ⟨g,0,none⟩) (l.length+1) cap) (l++[y])->Yt w0 w' v (.slice (some ⟨g,0,none⟩) (l.length+1) cap)->wpListIn F n P ops Q rest (a.put o.dst (.slice (some ⟨g,0,none⟩) (l.length+1) cap)) w'):
  wpListIn F n P ops Q (o::rest) a (w0.alloc (.cells (f y).toArray e)):=by
 subst hg0;obtain⟨i0,hi,hz0,hz1,hz2⟩:=info_parts hinfo;obtain⟨g,cap,w',hr,hown',hgrow,hg⟩:=Qp (P:=P) (w0.alloc (.cells (f y).toArray e)) B t o.type e i0 z sz bytes ht hi hz0 hz1 hz2 hzs v l.length (l.flatMap f) (hown.alloc _) _ 1 1 (by omega) (f y) (by simpa using hl)
  (Xq w0 (f y) e) h1 (by unfold maxLen;omega) hby (by simp;omega)
 refine wpListIn_plain hgd fun K hK'=>?_;unfold Oper.wpIn;refine⟨?_,?_⟩
 ·simp [Oper.about,ho,resolve,Target.leads,Sem.run_pure]
 ·rw [Oper.semAt_plain F _ _ (by rw[ho];intro c hc';cases hc')]
  simp[execOp,ho,resolve,invoke,builtin,hs,hx,hr,Result.andThen];refine hK' _ _ (hK g cap w' (by simpa[qj,List.flatMap_append] using hown') ⟨?_,?_⟩)
  ·exact ⟨hgrow.os,hgrow.tape,hgrow.output,Nat.le_trans (by simp) hgrow.size,fun k hk hne=>(hgrow.block k (by simp;omega) hne).trans (Below.heap_alloc w0 _ k hk)⟩
  ·intro k hk
   simp only[Value.ownBlock,Option.some.injEq] at hk;subst hk;rcases hg with hg|hg
   ·right;rw[hg];simp
   ·exact .inl hg
structure Xk (w:World) (ov vv:Value) (os:List Ob) (es:List Ev):Prop where
 ho:Sl w w.heap.size 2 ov os.length (os.flatMap Ob.cells)
 he:Sl w w.heap.size 8 vv es.length (es.flatMap Ev.cells)
 hod:∀o ∈ os,dI o.kind
 hed:∀e ∈ es,dI e.ret
 wd:xu w
 er:jy w
 pr:jz w 6
theorem Xk.below {w W:World} {ov vv:Value} {os:List Ob} {es:List Ev} (h:Xk w ov vv os es) (hb:Below w.heap.size w W):Xk W ov vv os es:=
 ⟨(h.ho.below hb).more hb.size,(h.he.below hb).more hb.size,h.hod,h.hed,h.wd.below hb,h.er.below hb,h.pr.below hb⟩
theorem Xk.take {w W:World} {ov vv ov' vv':Value} {os:List Ob} {es:List Ev} (h:Xk w ov vv os es) (hb:Below w.heap.size w W) {i:Nat} (ho:Sl W W.heap.size 2 ov' os.length (os.flatMap Ob.cells)) (he:Sl W W.heap.size 8 vv' (es.take i).length ((es.take i).flatMap Ev.cells)):Xk W ov' vv' os (es.take i):=
 ⟨ho,he,h.hod,fun e hm=>h.hed e (List.mem_of_mem_take hm),h.wd.below hb,h.er.below hb,h.pr.below hb⟩
theorem Xk.toT {w:World} {ov vv:Value} {os:List Ob} {es:List Ev} (h:Xk w ov vv os es):Uk w ov vv os (xg os es):=by
 obtain⟨a,c,hv,-⟩:=h.he.ex;obtain⟨hl,t,v,hc⟩:=h.pr;refine⟨h.ho,⟨a,_,c,hv⟩,fun W hW=>?_,fun A hA=>ZY hA,⟨t,v,hc⟩,hl⟩;have k:=h.below hW;have g:=qeo ov vv os es W k.ho k.he k.hod k.hed k.wd k.er;refine g.mono ?_;intro e w' hr;unfold KX at hr;unfold QH;exact hr
def Xs (os:List Ob) (es:List Ev) (i:Nat) (a:NJ):Prop:=∃A,yB os (xg os (es.take i))=some A/\yS 3 (os.map (·.init)) A a
structure qgA (w:World) (os:List Ob) (es:List Ev) (bv D:Nat) (i:Nat) (A:World):Prop where
 box:∃(lv:Value) (L:List Value),A.heap[bv]?=some (.cells #[.int .i64 1,.slice none 0 0,lv,.int .i64 0,.int .i64 0,.int .i64 0,.slice none 0 0] 32 (0,0))/\qj Yw 28 1 A bv lv L/\L.length=i/\∀k,lv.ownBlock=some k->k≠D
 r0:A.heap[w.heap.size+1]?=some (.cells #[.int .i64 0,.slice none 0 0,.slice none 0 0,.int .i64 0,.int .i64 0,.int .i64 0,.slice none 0 0] 32 (0,0))
 r1:A.heap[w.heap.size+1+1]?=some (.cells #[.nilIface] 34 (0,0))
 bel:Below w.heap.size w A
 yes:∀j,j < i->∃a,Xs os es j a/\a.kind=1
structure qgz (w:World) (os:List Ob) (es:List Ev) (D:Nat) (A:World):Prop where
 r0:∃(j:Nat) (a:NJ) (vs vc:Value),j<=es.length/\Xs os es j a/\a.kind≠1/\A.heap[w.heap.size+1]?=some (.cells #[.int .i64 a.kind,vs,.slice none 0 0,.int .i64 j,.int .i64 a.tx,.int .i64 a.deed,vc] 32 (0,0))/\VA A (D+1) vs vc a
 r1:A.heap[w.heap.size+1+1]?=some (.cells #[.nilIface] 34 (0,0))
 bel:Below w.heap.size w A
def qhl (w:World) (os:List Ob) (es:List Ev) (e:Ending) (w':World):Prop:=
 ((∃va,e=.returned (.tuple #[.agg #[.int .i64 1,.slice none 0 0,va,.int .i64 0,.int .i64 0,.int .i64 0,.slice none 0 0],.nilIface])/\(∃a n c,va=.slice a n c)/\∀j,j<=es.length->∃a,Xs os es j a/\a.kind=1)\/
  ∃(j:Nat) (a:NJ) (vs vc:Value),j<=es.length/\Xs os es j a/\a.kind≠1/\e=.returned (.tuple #[vp {a with pre:=j} vs vc,.nilIface])/\VA w' w.heap.size vs vc a)/\Below w.heap.size w w'
abbrev s7 (W:World) (p:Nat) (c0 c1 c2 c3 c4 c5 c6:Value):World:=((((((W.setCell ⟨p,0,none⟩ c0).setCell ⟨p,1,none⟩ c1).setCell ⟨p,2,none⟩ c2).setCell ⟨p,3,none⟩ c3).setCell ⟨p,4,none⟩ c4).setCell ⟨p,5,none⟩ c5).setCell ⟨p,6,none⟩ c6
section
variable {W W0:World} {p k N:Nat} {t:TypeId} {x0 x1 x2 x3 x4 x5 x6 c0 c1 c2 c3 c4 c5 c6:Value}
theorem qbs (h:W.heap[p]?=some (.cells #[x0,x1,x2,x3,x4,x5,x6] t (0,0))):(s7 W p c0 c1 c2 c3 c4 c5 c6).heap[p]?=some (.cells #[c0,c1,c2,c3,c4,c5,c6] t (0,0)):=by
 simpa using qq (qq (qq (qq (qq (qq (qq h 0 c0) 1 c1) 2 c2) 3 c3) 4 c4) 5 c5) 6 c6
theorem XS (h:k≠p):(s7 W p c0 c1 c2 c3 c4 c5 c6).heap[k]?=W.heap[k]?:=
 (Below.heap_setCell _ _ _ _ h).trans ((Below.heap_setCell _ _ _ _ h).trans ((Below.heap_setCell _ _ _ _ h).trans ((Below.heap_setCell _ _ _ _ h).trans ((Below.heap_setCell _ _ _ _ h).trans ((Below.heap_setCell _ _ _ _ h).trans (Below.heap_setCell _ _ _ _ h))))))
theorem Jc (h:Below N W0 W) (hp:N<=p):Below N W0 (s7 W p c0 c1 c2 c3 c4 c5 c6):=
 ((((((h.setCell (p:=⟨p,0,none⟩) hp _).setCell (p:=⟨p,1,none⟩) hp _).setCell (p:=⟨p,2,none⟩) hp _).setCell (p:=⟨p,3,none⟩) hp _).setCell (p:=⟨p,4,none⟩) hp _).setCell (p:=⟨p,5,none⟩) hp _).setCell (p:=⟨p,6,none⟩) hp _
end
section
variable {w:World} {ov vv:Value} {os:List Ob} {es:List Ev} {A:Au}
theorem qcG (h:Xk w ov vv os es) (e:yB os (xg os es)=some A) (hel:es.length<=200):Calls Tryz.prog 9 #[.agg #[ov,vv],.int .i64 4] w (qhl w os es):=by
 obtain⟨ao,co,hov,-⟩:=h.ho.ex;obtain⟨av,cv,hvv,-⟩:=h.he.ex;have HH:=qh h;have HE:=qh e;have HT:=qh (Ru e);have hol:os.length<=8:=(zQ (yH e).1).1;have b0:Below w.heap.size w (((w.alloc (.cells #[ov,vv] 25)).alloc (.cells #[.int .i64 0,.slice none 0 0,.slice none 0 0,.int .i64 0,.int .i64 0,.int .i64 0,.slice none 0 0] 32)).alloc (.cells #[.nilIface] 34)):=(((Below.refl _ w).alloc (Nat.le_refl _) _).alloc (by simp) _).alloc (by simp;omega) _;have z0:(((w.alloc (.cells #[ov,vv] 25)).alloc (.cells #[.int .i64 0,.slice none 0 0,.slice none 0 0,.int .i64 0,.int .i64 0,.int .i64 0,.slice none 0 0] 32)).alloc (.cells #[.nilIface] 34)).heap.size=w.heap.size+3:=by simp
 have r0:=qD (o:=.cells #[.nilIface] 34) (qD (o:=.cells #[.int .i64 0,.slice none 0 0,.slice none 0 0,.int .i64 0,.int .i64 0,.int .i64 0,.slice none 0 0] 32) (qy w (.cells #[ov,vv] 25)));have r1:=qD (o:=.cells #[.nilIface] 34) (qy (w.alloc (.cells #[ov,vv] 25)) (.cells #[.int .i64 0,.slice none 0 0,.slice none 0 0,.int .i64 0,.int .i64 0,.int .i64 0,.slice none 0 0] 32));have r2:=qy ((w.alloc (.cells #[ov,vv] 25)).alloc (.cells #[.int .i64 0,.slice none 0 0,.slice none 0 0,.int .i64 0,.int .i64 0,.int .i64 0,.slice none 0 0] 32)) (.cells #[.nilIface] 34);simp only[World.size_alloc] at r1 r2;subst hov hvv;have B0:=qh b0;have R0:=qh r0;have R1:=qh r1;have R2:=qh r2;have Z0:=qh z0;clear b0 r0 r1 r2 z0 h e;refine(callsIn_wide (n:=3+2)).1 ?_;refine callsIn_of_wp_marks Tryz.func9 rfl trivial ?_ rfl;simp only[Tryz.ntmps9,List.size_toArray,List.length_cons,List.length_nil,Nat.reduceAdd,Nat.reduceSub,Array.replicate_succ,Array.replicate_zero,List.push_toArray,List.append_toArray,List.nil_append,List.cons_append];gi_wp2_with fail;obtain⟨W,hW0⟩:∃W,W=(((w.alloc (.cells #[.slice ao os.length co,.slice av es.length cv] 25)).alloc (.cells #[.int .i64 0,.slice none 0 0,.slice none 0 0,.int .i64 0,.int .i64 0,.int .i64 0,.slice none 0 0] 32)).alloc (.cells #[.nilIface] 34)):=⟨_,rfl⟩
 rw[←hW0] at B0 R0 R1 R2 Z0 ⊢;clear hW0;have PC:=qh (Vr (HH.o.below B0.o).toT);rw[HE.o] at PC;refine⟨trivial,(callsIn_wide.2 PC.o).mono ?_⟩;rintro e w1 ⟨rfl,b1⟩;have hz1:=b1.size;have R0:=qh (qp R0.o b1 (qd R0.o));have R1:=qh (qp R1.o b1 (qd R1.o));have R2:=qh (qp R2.o b1 (qd R2.o));have B1:=qh (B0.o.trans (b1.mono B0.o.size));have y:=qa R0.o;have y0:=y 0;have y1:=y 1;simp at y0 y1;have yl:=qd R0.o;have ba:Below w1.heap.size w1 (w1.alloc (.cells #[.int .i64 1,.slice none 0 0,.slice none 0 0,.int .i64 0,.int .i64 0,.int .i64 0,.slice none 0 0] 32)):=(Below.refl _ w1).alloc (Nat.le_refl _) _;have hba:=HH.o.below (B1.o.trans (ba.mono B1.o.size));have CP:=qh (NB _ _ os es _ hba.ho hba.he (by omega) (by omega));have S0:=qh (qy w1 (.cells #[.int .i64 1,.slice none 0 0,.slice none 0 0,.int .i64 0,.int .i64 0,.int .i64 0,.slice none 0 0] 32));have BA:=qh ba;have hza:(w1.alloc (.cells #[.int .i64 1,.slice none 0 0,.slice none 0 0,.int .i64 0,.int .i64 0,.int .i64 0,.slice none 0 0] 32)).heap.size=w1.heap.size+1:=by simp
 have HZA:=qh hza;clear y PC b1 ba hba hza;gi_wp2_with fail;refine⟨trivial,(callsIn_wide.2 CP.o).mono ?_⟩;rintro e w2 ⟨rfl,hH,b2⟩;rw[HZA.o] at hH b2 ⊢;have hzw:w.heap.size+3<=w1.heap.size:=by have:=Z0.o;omega
 have hz2:w1.heap.size+1<=w2.heap.size:=by have:=b2.size;have:=HZA.o;omega
 have bw:Below w.heap.size w w2:=(B1.o.trans (BA.o.mono B1.o.size)).trans (b2.mono (by omega));have S0':=qp S0.o b2 (by have:=qd S0.o;omega);have t0':=qp (qp R1.o BA.o (qd R1.o)) b2 (by have:=qd R1.o;omega);have t1':=qp (qp R2.o BA.o (qd R2.o)) b2 (by have:=qd R2.o;omega);have IT:=qh (qgp 3 w2 (fun k=>k=w1.heap.size\/k=w.heap.size+1\/k=w.heap.size+1+1) (w1.heap.size+1) (w1.heap.size+1) os es (by omega) (by omega) hH (Nat.le_refl _) (by rintro k (rfl|rfl|rfl) <;> omega));have BW:=qh bw;have hI:∀(q:Nat->Prop) (i:Nat) (A B:World),q=(fun _=>False)->qgA w os es w1.heap.size (w2.heap.size+1) i A->w2.heap.size<=A.heap.size->Below w2.heap.size A B->(∀k,k < A.heap.size->k≠w2.heap.size+1->¬q k->B.heap[k]?=A.heap[k]?)->qgA w os es w1.heap.size (w2.heap.size+1) i B:=by
  rintro q i A B rfl ⟨⟨lv,L,h1,h2,h3,h4⟩,h5,h6,h7,h8⟩ hs hb he;have ne:∀j,j<=w1.heap.size->j≠w2.heap.size+1:=fun j hj=>by omega
  exact⟨⟨lv,L,(he _ (qd h1) (ne _ (Nat.le_refl _)) id).trans h1,qj.sameB h2 fun k hk=>he k (qj.lt h2 k hk).2 (h4 k hk) id,h3,h4⟩,
   (he _ (qd h5) (ne _ (by omega)) id).trans h5,(he _ (qd h6) (ne _ (by omega)) id).trans h6,h7.trans (hb.mono (by omega)),h8⟩
 have hIx:∀(q:Nat->Prop) (c:Code) (i:Nat) (A B:World),q=(fun _=>False)->(c=.ret/\qgz w os es (w2.heap.size+1) A)->w2.heap.size<=A.heap.size->Below w2.heap.size A B->(∀k,k < A.heap.size->k≠w2.heap.size+1->¬q k->B.heap[k]?=A.heap[k]?)->c=.ret/\qgz w os es (w2.heap.size+1) B:=by
  rintro q c i A B rfl ⟨rfl,⟨j,a,vs,vc,g1,g2,g3,g4,g5⟩,h6,h7⟩ hs hb he;have ne:∀j,j<=w1.heap.size->j≠w2.heap.size+1:=fun j hj=>by omega
  exact⟨rfl,⟨j,a,vs,vc,g1,g2,g3,(he _ (qd g4) (ne _ (by omega)) id).trans g4,qj.sameB g5.1 fun k hk=>he k (qj.lt g5.1 k hk).2 (by have:=(qj.lt g5.1 k hk).1;omega) id,qj.sameB g5.2 fun k hk=>he k (qj.lt g5.2 k hk).2 (by have:=(qj.lt g5.2 k hk).1;omega) id⟩,
   (he _ (qd h6) (ne _ (by omega)) id).trans h6,h7.trans (hb.mono (by omega))⟩
 clear hH b2 bw CP y0 y1 yl S0 BA HZA R0 R1 R2;gi_wp2_with fail;refine vZ (M:=Rb) (L:=Lb w2.heap.size fun k=>k=w1.heap.size\/k=w.heap.size+1\/k=w.heap.size+1+1) (Qs:=fun q=>q=fun _=>False) (G:=fun _=>True) (m:=3) (gf:=69) (N:=es.length+1) (H:=qfm os es) rfl (enters_of Tryz.func69 (by kernel_rfl) rfl) (fun _ h=>h.1) IT.o (fun _ i W hb args h=>by obtain⟨_,_,rfl,-⟩:=h;rfl)
  (fun q i A=>qgA w os es w1.heap.size (w2.heap.size+1) i A) (fun q c i A=>c=.ret/\qgz w os es (w2.heap.size+1) A) hI hIx (fun q i A _ h=>trivial) (fun q _ hq=>⟨⟨.slice none 0 0,[],S0',qj.nil _ _,rfl,fun k e=>by cases e⟩,t0',t1',BW.o,fun j hj=>by omega⟩) (fun W hW=>hW) (fun r h=>by obtain⟨_,_,h⟩:=h;cases h) (fun r h=>by obtain⟨_,_,h⟩:=h;cases h) ?_ ?_ ?_
 ·rintro q i W1 hb args hi rfl hIi hq hlo hhi ⟨ov',vv',rfl,o',v'⟩
  clear IT;obtain⟨a3,c3,rfl⟩:=qj.slv o';obtain⟨a4,c4,rfl⟩:=qj.slv v';have hti:(es.take i).length=i:=by rw[List.length_take];omega
  gi_wp2_with fail;refine⟨(Below.refl _ _).alloc (Nat.le_refl _) _,?_⟩;intro w3 z3 k3 b3;have bf:Below w2.heap.size W1 w3:=((Below.refl w2.heap.size W1).alloc (by omega) _).trans b3;have kf:∀k,k < W1.heap.size->k≠w2.heap.size+1->w3.heap[k]?=W1.heap[k]?:=fun k hk hn=>(k3 k hn).trans (Below.heap_alloc _ _ _ (by omega));obtain⟨⟨lv,L,h1,h2,h3,h4⟩,h5,h6,h7,h8⟩:=hI _ i W1 w3 rfl hIi (by omega) bf fun k hk hn _=>kf k hk hn;have o2:=qj.sameB o' fun k hk=>kf k (qj.lt o' k hk).2 (by have:=(qj.lt o' k hk).1;omega);have v2:=qj.sameB v' fun k hk=>kf k (qj.lt v' k hk).2 (by have:=(qj.lt v' k hk).1;omega);rw[hti] at v2;have r9:w3.heap[W1.heap.size]?=some (.cells #[.slice a3 os.length c3,.slice a4 i c4] 25 (0,0)):=(k3 _ (by omega)).trans (qy W1 _);have z9:w3.heap.size=W1.heap.size+1:=z3;have HGp:Xk w3 (.slice a3 os.length c3) (.slice a4 i c4) os (es.take i):=HH.o.take h7 (qj.sl o2) (by rw[hti];have:=qj.sl v2;rw[hti] at this;exact this);obtain⟨Ai,hAi⟩:=HT.o i;have hALi:Ai.length<=200:=by have:=MW (yH hAi).1;rw[hti] at this;omega
  have HNDi:=qh (qbC (yH hAi).1 (yH hAi).2);have HDi:=qh (ZY (yH hAi).1);have LC:=qh (Wq (lev:=3) HGp.toT hAi);have HAi:=qh hAi;have HGP:=qh HGp;have H1:=qh h1;have H2:=qh h2;have H3:=qh h3;have H4:=qh h4;have H5:=qh h5;have H6:=qh h6;have H7:=qh h7;have H8:=qh h8;have Z9:=qh z9;have BF:=qh bf;have KF:=qh kf;generalize hp9:W1.heap.size=p9 at *;have y:=qa r9;have y0:=y 0;have y1:=y 1;simp at y0 y1;have yl:=qd r9;clear y h1 h2 h3 h4 h5 h6 h7 h8 z9 z3 k3 b3 bf kf hI hIx hIi o' v' o2 v2 r9 HGp hAi hti;gi_wp2_with fail;refine⟨trivial,(callsIn_wide.2 LC.o).mono ?_⟩;rintro e w4 ⟨pW,bB,ms,lv2,rfl,hF,b4⟩;have JC:=qh (Mq hF (HGP.o.below b4).ho ⟨_,_,_,rfl⟩ HDi.o HDi.o.mv hALi HNDi.o (.inr (.inr rfl)) (Nat.le_refl _));have hz4:=b4.size;have B4:=qh b4;clear hF b4 LC y0 y1;gi_wp2_with fail;refine⟨trivial,(callsIn_wide.2 JC.o).mono ?_⟩;rintro e w5 ⟨a,vs,vc,rfl,hJ,hA,b5⟩;obtain⟨aS,cS,e1⟩:=qj.sli hA.1;obtain⟨aC,cC,e2⟩:=qj.sli hA.2;subst e1 e2;have HJ:=qh hJ;have B5:=qh (B4.o.trans (b5.mono hz4));have hz5:=B5.o.size;have S1:=qh (qj.base hA.1 hz4);have S2:=qh (qj.base hA.2 hz4);have hPre:=qh (show Xs os es i a from⟨Ai,HAi.o,hJ⟩);clear hJ hA b5 JC;unfold vp;have hm1:w1.heap.size < w3.heap.size:=by omega
  have RV:=qh (qp H1.o B5.o hm1);have RR:=qh (qp H5.o B5.o (by omega));have RE:=qh (qp H6.o B5.o (by omega));have h35:=B5.o.size;have OL:=qh (qj.below H2.o B5.o);obtain⟨al,cl,e4⟩:=qj.slv OL.o;subst e4;have hLm:L.length<=400:=by have:=H3.o;omega
  by_cases hk:a.kind=1
  ·have hkd:(a.kind !=1)=false:=by simp[hk]
   have HK:=qh hk;have x2:=qa RV.o 2;simp at x2;have xl:=qd RV.o;have xf:=qB RV.o 2;have oT:=qh (qj.alloc OL.o (.cells #[.int .i64 a.kind,.slice aS a.steps.length cS,.slice none 0 0,.int .i64 a.pre,.int .i64 a.tx,.int .i64 a.deed,.slice aC a.cyc.length cC] 32));have hbs:w1.heap.size<=(w5.alloc (.cells #[.int .i64 a.kind,.slice aS a.steps.length cS,.slice none 0 0,.int .i64 a.pre,.int .i64 a.tx,.int .i64 a.deed,.slice aC a.cyc.length cC] 32)).heap.size:=by simp;omega
   clear hk;gi_wp2_with (gi_at_builtin;refine Up rfl _ _ _ rfl _ 24 Tryz.underlying29 qgV rfl oT.o (.slice aS a.steps.length cS) hbs (by rfl) (by rfl) (by first|rfl|simp) rfl (qdD _) (by omega) (by omega) ?_;refine qK.halt ?_)
   refine qK.go ?_;intro g1 c1 w6 o6 G6;have rT:=qD (o:=(.cells #[.int .i64 a.kind,.slice aS a.steps.length cS,.slice none 0 0,.int .i64 a.pre,.int .i64 a.tx,.int .i64 a.deed,.slice aC a.cyc.length cC] 32)) RV.o;have neV:(Value.slice al L.length cl).ownBlock≠some w1.heap.size:=qj.neT oT.o rT (by decide);have r4:=qL rT G6 neV;have z2:=qa r4 2;simp at z2;have zf:=qB r4 2;have zl4:=qd r4;have oF:=qh (qj.other (j:=2) o6 (qj.neT o6 r4 (by decide)) (.slice (some ⟨g1,0,none⟩) (L.length+1) c1));have rF:=qh (qq r4 2 (.slice (some ⟨g1,0,none⟩) (L.length+1) c1));have gk:=qh (show ∀(k:Nat) (O:Obj),k≠w1.heap.size->(Value.slice al L.length cl).ownBlock≠some k->w5.heap[k]?=some O->(w6.setCell ⟨w1.heap.size,2,none⟩ (.slice (some ⟨g1,0,none⟩) (L.length+1) c1)).heap[k]?=some O from fun k O hk hn hO=>
    (Below.heap_setCell _ _ _ _ hk).trans ((G6.grown.block k (by have:=qd hO;simp;omega) (fun e=>hn e.symm)).trans (qD hO)))
   have bw5:=(H7.o.trans (B5.o.mono (by have:=H7.o.size;omega)))
   have bF:=qh (((bw5.alloc bw5.size (.cells #[.int .i64 a.kind,.slice aS a.steps.length cS,.slice none 0 0,.int .i64 a.pre,.int .i64 a.tx,.int .i64 a.deed,.slice aC a.cyc.length cC] 32)).trans (G6.below (B:=w.heap.size) (by simp;have:=bw5.size;omega) fun j hj=>by have:=(qj.lt oT.o j hj).1;omega)).setCell (p:=⟨w1.heap.size,2,none⟩) (show w.heap.size<=w1.heap.size by omega) (.slice (some ⟨g1,0,none⟩) (L.length+1) c1));have b0F:=qh ((((B5.o.mono (Nat.zero_le _)).alloc (Nat.zero_le _) (.cells #[.int .i64 a.kind,.slice aS a.steps.length cS,.slice none 0 0,.int .i64 a.pre,.int .i64 a.tx,.int .i64 a.deed,.slice aC a.cyc.length cC] 32)).trans (G6.below (B:=0) (Nat.zero_le _) fun j hj=>Nat.zero_le _)).setCell (p:=⟨w1.heap.size,2,none⟩) (Nat.zero_le _) (.slice (some ⟨g1,0,none⟩) (L.length+1) c1));have nF:=qh (show g1≠w2.heap.size+1 from by
    rcases G6.own g1 rfl with e|e
    ·exact H4.o g1 e
    ·simp at e
     omega)
   have hT5:=qh (show ∀k:Nat,(Value.slice al L.length cl).ownBlock=some k->∃cs,w5.heap[k]?=some (.cells cs 28 (0,0)) from fun k hk=>qj.keepObj OL.o k hk);clear rT neV o6 G6 r4 bw5 x2 xf;gi_wp2_with fail;refine⟨⟨⟨⟨_,_,by simpa using rF.o,oF.o,by simp[H3.o],fun k e=>?_⟩,gk.o _ _ (by omega) (fun e=>?_) RR.o,gk.o _ _ (by omega) (fun e=>?_) RE.o,bF.o,fun j hj=>?_⟩,b0F.o,fun k O hk1 hk2 hO hM=>?_⟩,trivial⟩
   ·cases e;exact nF.o
   ·obtain ⟨cs,h⟩:=hT5.o _ e
    rw[RR.o] at h;cases h
   ·obtain ⟨cs,h⟩:=hT5.o _ e
    rw[RE.o] at h;cases h
   ·by_cases hji:j < i
    ·exact H8.o j hji
    ·obtain rfl:j=i:=by omega
     exact⟨a,hPre.o,HK.o⟩
   ·have hk3:k < w3.heap.size:=qd hO
    refine gk.o k O (fun e=>?_) (fun e=>?_) ((B5.o.block k hk3).trans hO)
    ·rcases hk1 with⟨-,h⟩|h
     ·exact h (.inl e)
     ·omega
    ·obtain ⟨cs,h⟩:=hT5.o _ e
     rw[(B5.o.block k hk3).trans hO] at h;exact hM ⟨_,_,Option.some.inj h⟩
  ·have hkd:(a.kind !=1)=true:=by simp[hk]
   have HK:=qh hk;have x:=qa RR.o;have x0:=x 0;have x1:=x 1;have x2:=x 2;have x3:=x 3;have x4:=x 4;have x5:=x 5;have x6:=x 6;have u:=qa RE.o 0;simp at x0 x1 x2 x3 x4 x5 x6 u;have xl:=qd RR.o;have ul:=qd RE.o;have xf:=fun j=>qB RR.o j;have uf:=qB RE.o 0;clear hk x;gi_wp2_with fail;have bw5:=(H7.o.trans (B5.o.mono (by have:=H7.o.size;omega)))
   have f0:(s7 w5 (w.heap.size+1) (.int .i64 a.kind) (.slice aS a.steps.length cS) (.slice none 0 0) (.int .i64 (i:Int)) (.int .i64 a.tx) (.int .i64 a.deed) (.slice aC a.cyc.length cC)).heap[w.heap.size+1]?=some (.cells #[.int .i64 a.kind,.slice aS a.steps.length cS,.slice none 0 0,.int .i64 (i:Int),.int .i64 a.tx,.int .i64 a.deed,.slice aC a.cyc.length cC] 32 (0,0)):=qbs RR.o;obtain⟨X,hX⟩:∃X,X=((s7 w5 (w.heap.size+1) (.int .i64 a.kind) (.slice aS a.steps.length cS) (.slice none 0 0) (.int .i64 (i:Int)) (.int .i64 a.tx) (.int .i64 a.deed) (.slice aC a.cyc.length cC)).setCell ⟨w.heap.size+1+1,0,none⟩ .nilIface).alloc (.cells #[.int .i64 a.kind,.slice aS a.steps.length cS,.slice none 0 0,.int .i64 (i:Int),.int .i64 a.tx,.int .i64 a.deed,.slice aC a.cyc.length cC] 32):=⟨_,rfl⟩
   have g0:X.heap[w.heap.size+1]?=some (.cells #[.int .i64 a.kind,.slice aS a.steps.length cS,.slice none 0 0,.int .i64 (i:Int),.int .i64 a.tx,.int .i64 a.deed,.slice aC a.cyc.length cC] 32 (0,0)):=by
    rw[hX];exact qD ((Below.heap_setCell _ _ _ _ (by show w.heap.size+1≠w.heap.size+1+1;omega)).trans f0)
   have g1:X.heap[w.heap.size+1+1]?=some (.cells #[.nilIface] 34 (0,0)):=by
    rw[hX];exact qD (by simpa using qq ((XS (W:=w5) (p:=w.heap.size+1) (k:=w.heap.size+1+1) (by omega)).trans RE.o) 0 .nilIface)
   have gb:Below w.heap.size w X:=by
    rw[hX];have k1:=(Jc (p:=w.heap.size+1) (c0:=.int .i64 a.kind) (c1:=.slice aS a.steps.length cS) (c2:=.slice none 0 0) (c3:=.int .i64 (i:Int)) (c4:=.int .i64 a.tx) (c5:=.int .i64 a.deed) (c6:=.slice aC a.cyc.length cC) bw5 (Nat.le_succ _)).setCell (p:=⟨w.heap.size+1+1,0,none⟩) (show w.heap.size<=w.heap.size+1+1 by omega) .nilIface;exact k1.alloc k1.size _
   have gb0:Below 0 w3 X:=by
    rw[hX];exact((Jc (p:=w.heap.size+1) (c0:=.int .i64 a.kind) (c1:=.slice aS a.steps.length cS) (c2:=.slice none 0 0) (c3:=.int .i64 (i:Int)) (c4:=.int .i64 a.tx) (c5:=.int .i64 a.deed) (c6:=.slice aC a.cyc.length cC) (B5.o.mono (Nat.zero_le _)) (Nat.zero_le _)).setCell (p:=⟨w.heap.size+1+1,0,none⟩) (Nat.zero_le _) .nilIface).alloc (Nat.zero_le _) _
   have fo:∀k,k < w5.heap.size->k≠w.heap.size+1->k≠w.heap.size+1+1->X.heap[k]?=w5.heap[k]?:=fun k hk h1 h2=>by
    rw[hX];refine(Below.heap_alloc _ _ _ (by simp[s7];exact hk)).trans ((Below.heap_setCell _ _ _ _ h2).trans (XS h1))
   have n1:∀(v:Value) (k:Nat),(∀k,v.ownBlock=some k->w3.heap.size<=k/\k < w5.heap.size)->v.ownBlock=some k->X.heap[k]?=w5.heap[k]?:=fun v k hv hk=>fo k (hv k hk).2 (by have:=(hv k hk).1;omega) (by have:=(hv k hk).1;omega);have sS:qj Xj 87 2 X (w2.heap.size+1+1) (.slice aS a.steps.length cS) a.steps:=qj.base (qj.sameB S1.o fun k hk=>n1 _ k (qj.lt S1.o) hk) (by omega);have sC:xJ X (w2.heap.size+1+1) (.slice aC a.cyc.length cC) a.cyc:=qj.base (qj.sameB S2.o fun k hk=>n1 _ k (qj.lt S2.o) hk) (by omega);have hX':=hX;simp only[s7] at hX';rw[←hX'];clear hX hX' f0;refine⟨⟨rfl,⟨i,a,_,_,by omega,hPre.o,HK.o,g0,sS,sC⟩,g1,gb⟩,gb0,fun k O hk1 hk2 hO hM=>?_⟩;have hk3:k < w3.heap.size:=qd hO;refine(fo k (by omega) ?_ ?_).trans ((B5.o.block k hk3).trans hO)
   ·rcases hk1 with⟨-,h⟩|h
    ·exact fun e=>h (.inr (.inl e))
    ·omega
   ·rcases hk1 with⟨-,h⟩|h
    ·exact fun e=>h (.inr (.inr e))
    ·omega
 ·rintro q W3 rfl ⟨⟨lv,L,h1,h2,h3,h4⟩,h5,h6,h7,h8⟩ hz hd
  obtain⟨al,cl,rfl⟩:=qj.slv h2;have y:=qa h1;have y0:=y 0;have y1:=y 1;have y2:=y 2;have y3:=y 3;have y4:=y 4;have y5:=y 5;have y6:=y 6;simp at y0 y1 y2 y3 y4 y5 y6;have yl:=qd h1;have x:=qa h5;have x0:=x 0;have x1:=x 1;have x2:=x 2;have x3:=x 3;have x4:=x 4;have x5:=x 5;have x6:=x 6;have u:=qa h6 0;simp at x0 x1 x2 x3 x4 x5 x6 u;have xl:=qd h5;have ul:=qd h6;have xf:=fun j=>qB h5 j;have uf:=qB h6 0;have H5:=qh h5;have H6:=qh h6;have H7:=qh h7;have H8:=qh h8;have HD:=qh hd;clear y x h1 h2 h3 h4 h5 h6 h7 h8 hd IT hI hIx;gi_wp2_with fail;have f0:=qbs (c0:=.int .i64 1) (c1:=.slice none 0 0) (c2:=.slice al L.length cl) (c3:=.int .i64 0) (c4:=.int .i64 0) (c5:=.int .i64 0) (c6:=.slice none 0 0) H5.o;obtain⟨X,hX⟩:∃X,X=(s7 W3 (w.heap.size+1) (.int .i64 1) (.slice none 0 0) (.slice al L.length cl) (.int .i64 0) (.int .i64 0) (.int .i64 0) (.slice none 0 0)).setCell ⟨w.heap.size+1+1,0,none⟩ .nilIface:=⟨_,rfl⟩
  have k1':X.heap[w.heap.size+1]?=some (.cells #[.int .i64 1,.slice none 0 0,.slice al L.length cl,.int .i64 0,.int .i64 0,.int .i64 0,.slice none 0 0] 32 (0,0)):=by
   rw[hX];exact(Below.heap_setCell _ _ _ _ (by show w.heap.size+1≠w.heap.size+1+1;omega)).trans f0
  have k2':X.heap[w.heap.size+1+1]?=some (.cells #[.nilIface] 34 (0,0)):=by
   rw[hX];simpa using qq ((XS (W:=W3) (p:=w.heap.size+1) (k:=w.heap.size+1+1) (by omega)).trans H6.o) 0 .nilIface
  have bX:Below w.heap.size w X:=by
   rw[hX];exact(Jc H7.o (Nat.le_succ _)).setCell (p:=⟨w.heap.size+1+1,0,none⟩) (show w.heap.size<=w.heap.size+1+1 by omega) .nilIface
  have kd:X.heap[w2.heap.size]?=some (.deferred (some [])):=by
   rw[hX];exact((Below.heap_setCell _ _ _ _ (by show w2.heap.size≠w.heap.size+1+1;omega)).trans (XS (by omega))).trans HD.o
  have hX':=hX;simp only[s7] at hX';rw[←hX'];clear hX hX' f0;refine Yf kd fun w' hb' he=>LeavesIn.fin (v:=.tuple #[.agg #[.int .i64 1,.slice none 0 0,.slice al L.length cl,.int .i64 0,.int .i64 0,.int .i64 0,.slice none 0 0],.nilIface]) ?_ ⟨.inl ⟨_,rfl,⟨_,_,_,rfl⟩,fun j hj=>H8.o j (by omega)⟩,bX.trans (hb'.mono (by omega))⟩;have c:=qa ((he _ (by omega)).trans k1');have c0:=c 0;have c1:=c 1;have c2:=c 2;have c3:=c 3;have c4:=c 4;have c5:=c 5;have c6:=c 6;have c7:=qa ((he _ (by omega)).trans k2') 0;simp at c0 c1 c2 c3 c4 c5 c6 c7;simp[results,Tryz.results9,go_sem,c0,c1,c2,c3,c4,c5,c6,c7]
 ·rintro q c i W3 hi0 hiN rfl ⟨rfl,⟨j,a,vs,vc,q1,q2,q3,q4,q5,q6⟩,h6,h7⟩ hz hd
  obtain⟨aS,cS,e1⟩:=qj.sli q5;obtain⟨aC,cC,e2⟩:=qj.sli q6;subst e1 e2;clear IT hI hIx;gi_wp2_with fail;refine Yf hd fun w' hb' he=>LeavesIn.fin (v:=.tuple #[vp {a with pre:=j} (.slice aS a.steps.length cS) (.slice aC a.cyc.length cC),.nilIface]) ?_ ⟨.inr ⟨j,a,_,_,q1,q2,q3,rfl,qj.base (qj.sameB q5 fun k hk=>he k (by have:=(qj.lt q5 k hk).1;omega)) (by omega),qj.base (qj.sameB q6 fun k hk=>he k (by have:=(qj.lt q6 k hk).1;omega)) (by omega)⟩,h7.trans (hb'.mono (by omega))⟩;have c:=qa ((he _ (by omega)).trans q4);have c0:=c 0;have c1:=c 1;have c2:=c 2;have c3:=c 3;have c4:=c 4;have c5:=c 5;have c6:=c 6;have c7:=qa ((he _ (by omega)).trans h6) 0;simp at c0 c1 c2 c3 c4 c5 c6 c7;simp[results,Tryz.results9,go_sem,vp,c0,c1,c2,c3,c4,c5,c6,c7]
end
end
def uy (x:Int):List Ev:=[⟨2,x,0,0,1,0,0,0⟩,⟨3,x,0,0,0,0,0,3⟩]
def vM (x:Int):List Ev:=[⟨2,x,0,0,2,0,x,0⟩,⟨3,x,0,0,0,0,0,1⟩]
def Nt:List Ev:=[⟨1,1,0,0,0,0,0,0⟩,⟨1,2,1,0,0,0,0,0⟩]++uy 1++uy 2++vM 1++vM 2++[⟨4,1,0,0,0,0,0,0⟩,⟨5,1,0,0,0,0,0,0⟩,⟨4,2,0,0,0,0,0,0⟩]
def JP:List Ev:=Nt++[⟨5,2,0,0,0,0,0,0⟩]
def uF (n:Nat):Au:=(zr [] 0 (JP.take n)).getD []
theorem qcQ:JP.take 13=Nt:=rfl
theorem qcK:∀n,n<=14->(zr [] 0 (JP.take n)).isSome=true:=by decide
theorem qcI:∀n,n < 14->ZE 3 [0] (uF n) (xd 3 (uF n))=none/\(jv (xF (qX 3 (uF n) (xd 3 (uF n))).2) (qX 3 (uF n) (xd 3 (uF n))).1).isSome=true:=by decide
theorem qcJ:jv (xF (qX 3 (uF 13) (xd 3 (uF 13))).2) (qX 3 (uF 13) (xd 3 (uF 13))).1=some [2,1]:=by decide
theorem Vs:ZE 3 [0] (uF 14) (xd 3 (uF 14))=none/\jv (xF (qX 3 (uF 14) (xd 3 (uF 14))).2) (qX 3 (uF 14) (xd 3 (uF 14))).1=none:=by decide
theorem KJ:xF (qX 3 (uF 14) (xd 3 (uF 14))).2=[(1,2),(2,1)]/\(qX 3 (uF 14) (xd 3 (uF 14))).1=[1,2]:=by decide
theorem qhi {c:List Int} (h:qdu [(1,2),(2,1)] [1,2] c):c=[1,2]:=by
 have t1:Tc [((1:Int),(2:Int)),(2,1)] 1 1:=.more (.one (b:=2) (by simp)) (by simp);have d2:xL [((1:Int),(2:Int)),(2,1)] 1 2 1:=(YR (n:=1) (by decide)).2 ⟨⟨2,by simp,by decide,JU.2 (by simp)⟩,fun m h1 h2 hd=>by
  obtain rfl:m=1:=by omega
  have:=JU.1 hd;simp at this⟩
 rcases h with⟨rfl,h⟩|⟨k,n,l,h1,h2,h3,h4,rfl⟩
 ·exact absurd t1 (h 1 (by simp))
 ·obtain rfl:k=1:=by
   simp at h1;rcases h1 with rfl|rfl
   ·rfl
   ·exact absurd t1 (h2 1 (by simp) (by decide))
  obtain rfl:=h3.uniq d2;obtain⟨b,r,rfl,hb,-,-,-,hr⟩:=h4;unfold QQ at hr;subst hr;simp at hb;rw[hb]
theorem qcN {a:NJ} (h:yS 3 [0] (uF 14) a):a.kind=3/\a.cyc=[1,2]:=by
 unfold yS at h;rw[Vs.1] at h;simp only at h;rw[Vs.2] at h;obtain⟨c,hc,rfl⟩:=h;rw[KJ.1,KJ.2] at hc;exact⟨rfl,qhi hc⟩
theorem Ws {n:Nat} (hn:n < 14) {a:NJ} (h:yS 3 [0] (uF n) a):a.kind=1:=by
 obtain⟨h1,h2⟩:=qcI n hn;unfold yS at h;rw[h1] at h;simp only at h;cases e:jv (xF (qX 3 (uF n) (xd 3 (uF n))).2) (qX 3 (uF n) (xd 3 (uF n))).1 with
 |none=>rw[e] at h2;cases h2
 |some l=>rw[e] at h;rw[h]
theorem Ns {a:NJ} (h:yS 3 [0] (uF 13) a):a.kind=1/\a.steps=[(2,false),(1,true)]:=by
 unfold yS at h;rw[(qcI 13 (by decide)).1] at h;simp only at h;rw[qcJ] at h;simp only at h;rw[h];exact⟨rfl,by show ZZ 3 (uF 13) (xd 3 (uF 13)) [2,1]=_;decide⟩
theorem qew:Qa 1 [0] (uF 13) 0=([0,1],true):=by decide
section
attribute [local irreducible] xE
theorem qaX (c:Int) (w:World):Calls Tryz.prog 62 #[.int .i64 c] w fun e w'=>∃v,e=.returned v/\qj Ev.cells 69 8 w' w.heap.size v (uy c)/\Below w.heap.size w w':=by
 have hO:=qj.lit (f:=Ev.cells) (e:=69) (sz:=8) w w.heap.size (Nat.le_refl _) (uy c) Ev.len (by simp[uy]);have hB:Below w.heap.size w (w.alloc (.cells ((uy c).flatMap Ev.cells).toArray 69)):=(Below.refl _ w).alloc (Nat.le_refl _) _;go_enter Tryz.func62,Tryz.ntmps62;go_wp2;go_ret;exact⟨_,rfl,hO,hB⟩
theorem NL (c:Int) (w:World):Calls Tryz.prog 63 #[.int .i64 c] w fun e w'=>∃v,e=.returned v/\qj Ev.cells 69 8 w' w.heap.size v (vM c)/\Below w.heap.size w w':=by
 have hO:=qj.lit (f:=Ev.cells) (e:=69) (sz:=8) w w.heap.size (Nat.le_refl _) (vM c) Ev.len (by simp[vM]);have hB:Below w.heap.size w (w.alloc (.cells ((vM c).flatMap Ev.cells).toArray 69)):=(Below.refl _ w).alloc (Nat.le_refl _) _;go_enter Tryz.func63,Tryz.ntmps63;go_wp2;go_ret;exact⟨_,rfl,hO,hB⟩
theorem qbe (v:Value) (l:List Ev) (w:World) (h:Sl w w.heap.size 8 v l.length (l.flatMap Ev.cells)) (hl:l.length<=100000):
  Calls Tryz.prog 27 #[v] w fun e w'=>∃v',e=.returned v'/\qj Ev.cells 69 8 w' w.heap.size v' l/\Below w.heap.size w w':=by
 obtain⟨sa,sc,rfl,-⟩:=h.ex;have H:=qh h;clear h;go_enter Tryz.func27,Tryz.ntmps27;go_wp2_with (at_make;refine vx (f:=Ev.cells) (e:=69) (sz:=8) (B:=w.heap.size) rfl _ _ _ rfl _ 64 Tryz.underlying23 ud rfl rfl (by first|omega|(simp <;> omega)) (by first|omega|(simp <;> omega)) (by first|omega|(simp <;> omega)) ?_;refine qK.halt ?_)
 refine qK.go ?_;intro w1 o1 b1 z1;have B1:=qh b1;have O1:=qh o1;clear b1 o1;go_wp2_with fail
 go_loopw [3,4] (fun v p wr=>∃(k:Nat),k<=l.length/\p=.int .i64 k/\qj Ev.cells 69 8 wr w.heap.size v (l.take k)/\Below w.heap.size w wr) (fun _ p _=>l.length - (intOf p).toNat)
 case atStart=>exact⟨0,by omega,by go_num,O1.o,B1.o⟩
 case round=>
  obtain⟨k,hk,rfl,hO,hB⟩:=hrel;obtain⟨ao,co,rfl⟩:=qj.slv hO;have hlo:(l.take k).length=k:=by rw[List.length_take];omega
  rw[hlo] at hO ⊢;have zB:=hB.size;have HB:=qh hB;have HO:=qh hO;clear hB hO;by_cases hlt:k < l.length
  ·obtain ⟨b,off,c,rfl,hb,hc,hcc⟩:=(H.o.below HB.o).atF Ev.len rfl hlt
   have hbz:b < wr.heap.size:=by omega
   have HC:=qh hc;have c0:=hcc 0 (by omega);have c1:=hcc 1 (by omega);have c2:=hcc 2 (by omega);have c3:=hcc 3 (by omega);have c4:=hcc 4 (by omega);have c5:=hcc 5 (by omega);have c6:=hcc 6 (by omega);have c7:=hcc 7 (by omega);simp only[Ev.cells,Nat.add_zero,List.getElem?_cons_zero,List.getElem?_cons_succ] at c0 c1 c2 c3 c4 c5 c6 c7;clear hc hcc;go_wp2_with (at_builtin;refine qN rfl _ _ _ rfl _ 64 Tryz.underlying23 ud rfl HO.o c (by first|omega|(simp <;> omega)) (by rfl) (by rfl) (by first|rfl|simp) rfl (ua _) (by first|omega|(simp only[List.length_append,List.length_cons,List.length_nil,List.length_replicate];omega)) (by first|omega|(simp only[List.length_append,List.length_cons,List.length_nil,List.length_replicate];omega)) ?_;refine qK.halt ?_)
   refine qK.go ?_;intro g5 c5 w5 o5 G5;have B5:=qh (HB.o.trans (G5.below zB fun q h=>(HO.o.lt q h).1));have O5:=qh o5;clear o5 G5 c0 c1 c2 c3 c4 c6 c7;go_wp2_with fail;go_roundw
   case rel=>exact⟨k+1,by omega,by go_num,by rw[jA HC.o];exact O5.o,B5.o⟩
   case measure=>simp[intOf];omega
  ·obtain rfl:k=l.length:=by omega
   rw[List.take_length] at HO;go_wp2;go_ret;exact⟨_,rfl,HO.o,HB.o⟩
theorem WW (a:Int) (b:Bool) (w:World):Calls Tryz.prog 64 #[.agg #[.int .i64 a,.bool b],.agg #[.int .i64 a,.bool b]] w fun e w'=>e=.returned (.bool true)/\Below w.heap.size w w':=by
 have hb:Below w.heap.size w ((w.alloc (.cells #[.int .i64 a,.bool b] 87)).alloc (.cells #[.int .i64 a,.bool b] 87)):=((Below.refl _ w).alloc (Nat.le_refl _) _).alloc (by simp) _;have ha:(a==a)=true:=by simp
 have hc:(b==b)=true:=by simp
 go_enter Tryz.func64,Tryz.ntmps64;go_wp2;go_ret;exact⟨rfl,hb⟩
theorem VL (v1 v2:Value) (l:List (Int×Bool)) (n:Nat) (w:World) (hn:l.length=n) (h1:Sl w w.heap.size 2 v1 n (l.flatMap Xj)) (h2:Sl w w.heap.size 2 v2 n (l.flatMap Xj)):
  Calls Tryz.prog 29 #[v1,v2] w fun e w'=>e=.returned (.bool true)/\Below w.heap.size w w':=by
 obtain⟨a1,c1,rfl,m1⟩:=h1.ex;obtain⟨a2,c2,rfl,m2⟩:=h2.ex;have H1:=qh h1;have H2:=qh h2;have HN:=qh hn;clear h1 h2 hn;have hb:((n:Int) !=(n:Int))=false:=by simp
 go_enter Tryz.func29,Tryz.ntmps29;go_wp2
 go_loopw [5] (fun i wr=>∃k:Nat,k<=n/\i=.int .i64 k/\Below w.heap.size w wr) (fun i _=>n - (intOf i).toNat)
 case atStart=>exact⟨0,by omega,rfl,Below.refl _ _⟩
 case round=>
  obtain⟨k,hk,rfl,hB⟩:=hrel;by_cases hlt:k < n
  ·obtain ⟨b1,o1,x,rfl,-,gx,hc⟩:=(H1.o.below hB).atF WO HN.o hlt
   obtain⟨b2,o2,y,rfl,-,gy,hd⟩:=(H2.o.below hB).atF WO HN.o hlt;obtain rfl:x=y:=by rw[gx] at gy;exact Option.some.inj gy
   clear gx gy;have c0:=hc 0 (by omega);have c1:=hc 1 (by omega);have d0:=hd 0 (by omega);have d1:=hd 1 (by omega);clear hc hd;simp only[Xj,Nat.add_zero,List.getElem?_cons_zero,List.getElem?_cons_succ] at c0 c1 d0 d1;have HB:=qh hB;clear hB;go_wp2;refine jM [0,0,0,1,0,0,0,1,2,0] [0,1,2,3,4,5,6,7,8,9] (by kernel_rfl) ?_;simp only[qP,qA,sD,sE,sF,sG]
   repeat first|(refine qz fun K hK=>?_;go_simp;refine hK _ _ ?_;clear hK K)|(apply qC;(intro w2 hw2;have hk1:=hw2.cell;have hk3:=hw2.heap;clear hw2;go_simp;with_reducible rfl);simp only[Act.put,sA,sB,sC])|refine qH rfl rfl ?_|(refine qQ rfl rfl fun K hK=>?_;simp only[Act.put,sA,sB,sC];refine hK _ _ ?_;clear hK K)|refine qu ?_
   refine qM (fun K hK=>?_);go_simp;refine(WW _ _ _).mono ?_;rintro e w2 ⟨rfl,b2⟩;refine hK _ _ ?_;clear hK K;have HB2:=qh (HB.o.drew.trans (b2.mono HB.o.size));clear b2
   repeat first|(refine qz fun K hK=>?_;go_simp;refine hK _ _ ?_;clear hK K)|(apply qC;(intro w2 hw2;have hk1:=hw2.cell;have hk3:=hw2.heap;clear hw2;go_simp;with_reducible rfl);simp only[Act.put,sA,sB,sC])|refine qH rfl rfl ?_|(refine qQ rfl rfl fun K hK=>?_;simp only[Act.put,sA,sB,sC];refine hK _ _ ?_;clear hK K)|refine qu ?_
   go_wp2;go_roundw
   case rel=>exact⟨k+1,by omega,by go_num,HB2.o⟩
   case measure=>simp[intOf];omega
  ·go_wp2
   go_ret;exact⟨rfl,hB⟩
theorem MN (w:World):Calls Tryz.prog 26 #[] w fun e w'=>∃ov vv,e=.returned (.agg #[ov,vv])/\qj Ob.cells 62 2 w' w.heap.size ov [⟨1,0⟩]/\qj Ev.cells 69 8 w' w.heap.size vv Nt/\Below w.heap.size w w':=by
 have b0:Below w.heap.size w (w.alloc (.cells #[.slice none 0 0,.slice none 0 0] 25)):=(Below.refl _ w).alloc (Nat.le_refl _) _;have o0:qj Ev.cells 69 8 ((w.alloc (.cells #[.slice none 0 0,.slice none 0 0] 25)).alloc (.cells #[.int .i64 1,.int .i64 1,.int .i64 0,.int .i64 0,.int .i64 0,.int .i64 0,.int .i64 0,.int .i64 0,.int .i64 1,.int .i64 2,.int .i64 1,.int .i64 0,.int .i64 0,.int .i64 0,.int .i64 0,.int .i64 0] 69)) w.heap.size (.slice (some ⟨w.heap.size+1,0,none⟩) 2 2) [⟨1,1,0,0,0,0,0,0⟩,⟨1,2,1,0,0,0,0,0⟩]:=by
  have:=qj.lit (f:=Ev.cells) (e:=69) (sz:=8) (w.alloc (.cells #[.slice none 0 0,.slice none 0 0] 25)) w.heap.size (by simp) [⟨1,1,0,0,0,0,0,0⟩,⟨1,2,1,0,0,0,0,0⟩] Ev.len (by simp);simpa[Ev.cells] using this
 have b1:Below w.heap.size w ((w.alloc (.cells #[.slice none 0 0,.slice none 0 0] 25)).alloc (.cells #[.int .i64 1,.int .i64 1,.int .i64 0,.int .i64 0,.int .i64 0,.int .i64 0,.int .i64 0,.int .i64 0,.int .i64 1,.int .i64 2,.int .i64 1,.int .i64 0,.int .i64 0,.int .i64 0,.int .i64 0,.int .i64 0] 69)):=b0.alloc (by simp) _;have r0:=qD (o:=.cells #[.int .i64 1,.int .i64 1,.int .i64 0,.int .i64 0,.int .i64 0,.int .i64 0,.int .i64 0,.int .i64 0,.int .i64 1,.int .i64 2,.int .i64 1,.int .i64 0,.int .i64 0,.int .i64 0,.int .i64 0,.int .i64 0] 69) (qy w (.cells #[.slice none 0 0,.slice none 0 0] 25));have O0:=qh o0;have B1:=qh b1;have R0:=qh r0;clear o0 b0 b1 r0;go_enter Tryz.func26,Tryz.ntmps26;go_wp2_with fail;generalize (w.alloc (.cells #[.slice none 0 0,.slice none 0 0] 25)).alloc (.cells #[.int .i64 1,.int .i64 1,.int .i64 0,.int .i64 0,.int .i64 0,.int .i64 0,.int .i64 0,.int .i64 0,.int .i64 1,.int .i64 2,.int .i64 1,.int .i64 0,.int .i64 0,.int .i64 0,.int .i64 0,.int .i64 0] 69)=W at *;have hz0:w.heap.size < W.heap.size:=qd R0.o;have hl1:(uy 1).length<=2:=Nat.le_refl _;have hl2:(uy 2).length<=2:=Nat.le_refl _;have hl3:(vM 1).length<=2:=Nat.le_refl _;have hl4:(vM 2).length<=2:=Nat.le_refl _;refine(qaX 1 _).mono ?_;rintro e X1 ⟨v1,rfl,o1,b1⟩;have P1:=qh o1;have I1:=qh (B1.o.trans (b1.mono B1.o.size));have J1:=qh (qj.below O0.o b1);have S1:=qh (qp R0.o b1 (qd R0.o));have hx1:=I1.o.size;obtain⟨q1,d1,e1⟩:∃q d,v1=.slice q 2 d:=qj.sli o1;subst e1;clear o1 b1;have hn1:(([⟨1,1,0,0,0,0,0,0⟩,⟨1,2,1,0,0,0,0,0⟩]:List Ev)).length+(uy 1).length<=9223372036854775807:=by decide
 have hb1:((([⟨1,1,0,0,0,0,0,0⟩,⟨1,2,1,0,0,0,0,0⟩]:List Ev)).length+(uy 1).length)*64<=140737488355328:=by decide
 go_wp2_with (at_builtin;refine xU rfl _ _ _ rfl _ 64 Tryz.underlying23 ud rfl J1.o (uy 1) rfl (qj.sl P1.o) hx1 rfl rfl Ev.len ua hn1 hb1 ?_;refine qK.halt ?_)
 refine qK.go ?_;intro u1 Y1 oo1 g1;obtain⟨qq1,dd1,ee1⟩:∃q d,u1=.slice q 4 d:=qj.sli oo1;subst ee1;obtain⟨L1,hL1⟩:∃L,([⟨1,1,0,0,0,0,0,0⟩,⟨1,2,1,0,0,0,0,0⟩]:List Ev)++uy 1=L:=⟨_,rfl⟩
 have HL1:=qh (show([⟨1,1,0,0,0,0,0,0⟩,⟨1,2,1,0,0,0,0,0⟩]:List Ev)++uy 1=L1 by exact hL1);have O1:=qh (show qj Ev.cells 69 8 Y1 w.heap.size (.slice qq1 4 dd1) L1 by rw[←hL1];exact oo1);have K1:=qh (I1.o.trans (g1.below hx1 fun j hj=>(qj.lt J1.o j hj).1));have T1:=qh (qL S1.o g1 (qj.neT J1.o S1.o (by decide)));clear oo1 g1 P1 I1 J1 S1 hn1 hb1 hL1;go_wp2_with fail;refine(qaX 2 _).mono ?_;rintro e X2 ⟨v2,rfl,o2,b2⟩;have P2:=qh o2;have I2:=qh (K1.o.trans (b2.mono K1.o.size));have J2:=qh (qj.below O1.o b2);have S2:=qh (qp T1.o b2 (qd T1.o));have hx2:=I2.o.size;obtain⟨q2,d2,e2⟩:∃q d,v2=.slice q 2 d:=qj.sli o2;subst e2;clear o2 b2;have hn2:(L1).length+(uy 2).length<=9223372036854775807:=by rw[←HL1.o];decide
 have hb2:((L1).length+(uy 2).length)*64<=140737488355328:=by rw[←HL1.o];decide
 go_wp2_with (at_builtin;refine xU rfl _ _ _ rfl _ 64 Tryz.underlying23 ud rfl J2.o (uy 2) rfl (qj.sl P2.o) hx2 rfl rfl Ev.len ua hn2 hb2 ?_;refine qK.halt ?_)
 refine qK.go ?_;intro u2 Y2 oo2 g2;obtain⟨qq2,dd2,ee2⟩:∃q d,u2=.slice q 6 d:=by obtain⟨q,d,h⟩:=qj.sli oo2;rw[List.length_append,←HL1.o] at h;exact⟨q,d,h⟩
 subst ee2;obtain⟨L2,hL2⟩:∃L,L1++uy 2=L:=⟨_,rfl⟩
 have HL2:=qh (show([⟨1,1,0,0,0,0,0,0⟩,⟨1,2,1,0,0,0,0,0⟩]:List Ev)++uy 1++uy 2=L2 by rw[HL1.o];exact hL2);have O2:=qh (show qj Ev.cells 69 8 Y2 w.heap.size (.slice qq2 6 dd2) L2 by rw[←hL2];exact oo2);have K2:=qh (I2.o.trans (g2.below hx2 fun j hj=>(qj.lt J2.o j hj).1));have T2:=qh (qL S2.o g2 (qj.neT J2.o S2.o (by decide)));clear oo2 g2 P2 I2 J2 S2 hn2 hb2 hL2 HL1;go_wp2_with fail;refine(NL 1 _).mono ?_;rintro e X3 ⟨v3,rfl,o3,b3⟩;have P3:=qh o3;have I3:=qh (K2.o.trans (b3.mono K2.o.size));have J3:=qh (qj.below O2.o b3);have S3:=qh (qp T2.o b3 (qd T2.o));have hx3:=I3.o.size;obtain⟨q3,d3,e3⟩:∃q d,v3=.slice q 2 d:=qj.sli o3;subst e3;clear o3 b3;have hn3:(L2).length+(vM 1).length<=9223372036854775807:=by rw[←HL2.o];decide
 have hb3:((L2).length+(vM 1).length)*64<=140737488355328:=by rw[←HL2.o];decide
 go_wp2_with (at_builtin;refine xU rfl _ _ _ rfl _ 64 Tryz.underlying23 ud rfl J3.o (vM 1) rfl (qj.sl P3.o) hx3 rfl rfl Ev.len ua hn3 hb3 ?_;refine qK.halt ?_)
 refine qK.go ?_;intro u3 Y3 oo3 g3;obtain⟨qq3,dd3,ee3⟩:∃q d,u3=.slice q 8 d:=by obtain⟨q,d,h⟩:=qj.sli oo3;rw[List.length_append,←HL2.o] at h;exact⟨q,d,h⟩
 subst ee3;obtain⟨L3,hL3⟩:∃L,L2++vM 1=L:=⟨_,rfl⟩
 have HL3:=qh (show([⟨1,1,0,0,0,0,0,0⟩,⟨1,2,1,0,0,0,0,0⟩]:List Ev)++uy 1++uy 2++vM 1=L3 by rw[HL2.o];exact hL3);have O3:=qh (show qj Ev.cells 69 8 Y3 w.heap.size (.slice qq3 8 dd3) L3 by rw[←hL3];exact oo3);have K3:=qh (I3.o.trans (g3.below hx3 fun j hj=>(qj.lt J3.o j hj).1));have T3:=qh (qL S3.o g3 (qj.neT J3.o S3.o (by decide)));clear oo3 g3 P3 I3 J3 S3 hn3 hb3 hL3 HL2;go_wp2_with fail;refine(NL 2 _).mono ?_;rintro e X4 ⟨v4,rfl,o4,b4⟩;have P4:=qh o4;have I4:=qh (K3.o.trans (b4.mono K3.o.size));have J4:=qh (qj.below O3.o b4);have S4:=qh (qp T3.o b4 (qd T3.o));have hx4:=I4.o.size;obtain⟨q4,d4,e4⟩:∃q d,v4=.slice q 2 d:=qj.sli o4;subst e4;clear o4 b4;have hn4:(L3).length+(vM 2).length<=9223372036854775807:=by rw[←HL3.o];decide
 have hb4:((L3).length+(vM 2).length)*64<=140737488355328:=by rw[←HL3.o];decide
 go_wp2_with (at_builtin;refine xU rfl _ _ _ rfl _ 64 Tryz.underlying23 ud rfl J4.o (vM 2) rfl (qj.sl P4.o) hx4 rfl rfl Ev.len ua hn4 hb4 ?_;refine qK.halt ?_)
 refine qK.go ?_;intro u4 Y4 oo4 g4;obtain⟨qq4,dd4,ee4⟩:∃q d,u4=.slice q 10 d:=by obtain⟨q,d,h⟩:=qj.sli oo4;rw[List.length_append,←HL3.o] at h;exact⟨q,d,h⟩
 subst ee4;obtain⟨L4,hL4⟩:∃L,L3++vM 2=L:=⟨_,rfl⟩
 have HL4:=qh (show([⟨1,1,0,0,0,0,0,0⟩,⟨1,2,1,0,0,0,0,0⟩]:List Ev)++uy 1++uy 2++vM 1++vM 2=L4 by rw[HL3.o];exact hL4);have O4:=qh (show qj Ev.cells 69 8 Y4 w.heap.size (.slice qq4 10 dd4) L4 by rw[←hL4];exact oo4);have K4:=qh (I4.o.trans (g4.below hx4 fun j hj=>(qj.lt J4.o j hj).1));have T4:=qh (qL S4.o g4 (qj.neT J4.o S4.o (by decide)));clear oo4 g4 P4 I4 J4 S4 hn4 hb4 hL4 HL3;have lz:qj Ev.cells 69 8 (Y4.alloc (.cells #[.int .i64 4,.int .i64 1,.int .i64 0,.int .i64 0,.int .i64 0,.int .i64 0,.int .i64 0,.int .i64 0,.int .i64 5,.int .i64 1,.int .i64 0,.int .i64 0,.int .i64 0,.int .i64 0,.int .i64 0,.int .i64 0,.int .i64 4,.int .i64 2,.int .i64 0,.int .i64 0,.int .i64 0,.int .i64 0,.int .i64 0,.int .i64 0] 69)) w.heap.size (.slice (some ⟨Y4.heap.size,0,none⟩) 3 3) [⟨4,1,0,0,0,0,0,0⟩,⟨5,1,0,0,0,0,0,0⟩,⟨4,2,0,0,0,0,0,0⟩]:=by
  have:=qj.lit (f:=Ev.cells) (e:=69) (sz:=8) Y4 w.heap.size K4.o.size [⟨4,1,0,0,0,0,0,0⟩,⟨5,1,0,0,0,0,0,0⟩,⟨4,2,0,0,0,0,0,0⟩] Ev.len (by simp);simpa[Ev.cells] using this
 have bz:Below w.heap.size w (Y4.alloc (.cells #[.int .i64 4,.int .i64 1,.int .i64 0,.int .i64 0,.int .i64 0,.int .i64 0,.int .i64 0,.int .i64 0,.int .i64 5,.int .i64 1,.int .i64 0,.int .i64 0,.int .i64 0,.int .i64 0,.int .i64 0,.int .i64 0,.int .i64 4,.int .i64 2,.int .i64 0,.int .i64 0,.int .i64 0,.int .i64 0,.int .i64 0,.int .i64 0] 69)):=K4.o.alloc K4.o.size _;have hx5:=bz.size;have hn5:L4.length+([⟨4,1,0,0,0,0,0,0⟩,⟨5,1,0,0,0,0,0,0⟩,⟨4,2,0,0,0,0,0,0⟩]:List Ev).length<=9223372036854775807:=by rw[←HL4.o];decide
 have hb5:(L4.length+([⟨4,1,0,0,0,0,0,0⟩,⟨5,1,0,0,0,0,0,0⟩,⟨4,2,0,0,0,0,0,0⟩]:List Ev).length)*64<=140737488355328:=by rw[←HL4.o];decide
 have LZ5:=qh lz;have BZ5:=qh bz;have OZ5:=qh (qj.alloc O4.o (.cells #[.int .i64 4,.int .i64 1,.int .i64 0,.int .i64 0,.int .i64 0,.int .i64 0,.int .i64 0,.int .i64 0,.int .i64 5,.int .i64 1,.int .i64 0,.int .i64 0,.int .i64 0,.int .i64 0,.int .i64 0,.int .i64 0,.int .i64 4,.int .i64 2,.int .i64 0,.int .i64 0,.int .i64 0,.int .i64 0,.int .i64 0,.int .i64 0] 69));have RZ5:=qh (qD (o:=.cells #[.int .i64 4,.int .i64 1,.int .i64 0,.int .i64 0,.int .i64 0,.int .i64 0,.int .i64 0,.int .i64 0,.int .i64 5,.int .i64 1,.int .i64 0,.int .i64 0,.int .i64 0,.int .i64 0,.int .i64 0,.int .i64 0,.int .i64 4,.int .i64 2,.int .i64 0,.int .i64 0,.int .i64 0,.int .i64 0,.int .i64 0,.int .i64 0] 69) T4.o);clear lz bz;go_wp2_with (at_builtin;refine xU rfl _ _ _ rfl _ 64 Tryz.underlying23 ud rfl OZ5.o [⟨4,1,0,0,0,0,0,0⟩,⟨5,1,0,0,0,0,0,0⟩,⟨4,2,0,0,0,0,0,0⟩] rfl (qj.sl LZ5.o) hx5 rfl rfl Ev.len ua hn5 hb5 ?_;refine qK.halt ?_)
 refine qK.go ?_;intro u5 Y5 oo5 g5;obtain⟨qq5,dd5,ee5⟩:∃q d,u5=.slice q 13 d:=by obtain⟨q,d,h⟩:=qj.sli oo5;rw[List.length_append,←HL4.o] at h;exact⟨q,d,h⟩
 subst ee5;have O5:=qh (show qj Ev.cells 69 8 Y5 w.heap.size (.slice qq5 13 dd5) Nt by
  have e:Nt=L4++[⟨4,1,0,0,0,0,0,0⟩,⟨5,1,0,0,0,0,0,0⟩,⟨4,2,0,0,0,0,0,0⟩]:=by rw[←HL4.o];rfl
  rw[e];exact oo5)
 have K5:=qh (BZ5.o.trans (g5.below hx5 fun j hj=>(qj.lt OZ5.o j hj).1));have T5:=qh (qL RZ5.o g5 (qj.neT OZ5.o RZ5.o (by decide)));clear oo5 g5 LZ5 BZ5 OZ5 RZ5 hn5 hb5 HL4;have hl5:=qd T5.o;have yf:=fun o=>qB T5.o o;have y:=qa T5.o;have y0:=y 0;have y1:=y 1;simp at y0 y1;clear y;go_wp2_with fail;have S6:=qq (qq T5.o 0 (.slice (some ⟨Y5.heap.size,0,none⟩) 1 1)) 1 (.slice qq5 13 dd5);have B6:=(K5.o.setCell (p:=⟨w.heap.size,0,none⟩) (Nat.le_refl _) (.slice (some ⟨Y5.heap.size,0,none⟩) 1 1)).setCell (p:=⟨w.heap.size,1,none⟩) (Nat.le_refl _) (.slice qq5 13 dd5);have O6:=qj.other (j:=1) (qj.other (j:=0) O5.o (qj.neT O5.o T5.o (by decide)) (.slice (some ⟨Y5.heap.size,0,none⟩) 1 1)) (qj.neT O5.o T5.o (by decide)) (.slice qq5 13 dd5);have z6:((Y5.setCell ⟨w.heap.size,0,none⟩ (.slice (some ⟨Y5.heap.size,0,none⟩) 1 1)).setCell ⟨w.heap.size,1,none⟩ (.slice qq5 13 dd5)).heap.size=Y5.heap.size:=by simp
 obtain⟨X,hX⟩:∃X,X=(Y5.setCell ⟨w.heap.size,0,none⟩ (.slice (some ⟨Y5.heap.size,0,none⟩) 1 1)).setCell ⟨w.heap.size,1,none⟩ (.slice qq5 13 dd5):=⟨_,rfl⟩
 rw[←hX] at S6 B6 O6 z6 ⊢;clear hX;have lo:qj Ob.cells 62 2 (X.alloc (.cells #[.int .i64 1,.int .i64 0] 62)) w.heap.size (.slice (some ⟨X.heap.size,0,none⟩) 1 1) [⟨1,0⟩]:=by
  have:=qj.lit (f:=Ob.cells) (e:=62) (sz:=2) X w.heap.size B6.size [⟨1,0⟩] Ob.len (by simp);simpa[Ob.cells] using this
 rw[z6] at lo;have R7:=qD (o:=.cells #[.int .i64 1,.int .i64 0] 62) S6;have c0:=qa R7 0;have c1:=qa R7 1;simp at c0 c1;refine bodyPost_ret (v:=.agg #[.slice (some ⟨Y5.heap.size,0,none⟩) 1 1,.slice qq5 13 dd5]) (by simp[results,Tryz.results26,go_sem,c0,c1]) rfl ?_;exact⟨_,_,rfl,lo,qj.alloc O6 _,B6.alloc B6.size _⟩
end
section
attribute [local irreducible] xE
theorem Ki {v:Value} {l:List xz} {B:Nat} (w:World) (h:qj xz.cells 133 1 w B v l) (hl:l.length<=400):
  Calls Tryz.prog 51 #[v] w fun e w'=>∃v',e=.returned v'/\qj xz.cells 133 1 w' w.heap.size v' l/\Below w.heap.size w w':=by
 have eq1:∀X:World,Sem.run Tryz.prog (binOp BinOp.eql 131 (.slice none 0 0) (.slice none 0 0)) X=.ok (.bool true) X:=fun X=>by kernel_rfl
 have eq2:∀(X:World) (g n c:Nat),Sem.run Tryz.prog (binOp BinOp.eql 131 (.slice (some ⟨g,0,none⟩) n c) (.slice none 0 0)) X=.ok (.bool false) X:=fun X g n c=>by kernel_rfl
 rcases qj.form h with⟨rfl,rfl⟩|⟨g,cap,rfl,hg,hgl⟩
 ·go_enter Tryz.func51,Tryz.ntmps51
  go_wp2;go_ret;exact⟨_,rfl,qj.nil _ _,Below.refl _ _⟩
 ·have H:=qh h
  have o0:=qj.lit (f:=xz.cells) (e:=133) (sz:=1) w w.heap.size (Nat.le_refl _) [] xz.len (by simp);have b0:Below w.heap.size w (w.alloc (.cells (([]:List xz).flatMap xz.cells).toArray 133)):=(Below.refl _ w).alloc (Nat.le_refl _) _;have O0:=qh o0;have B0:=qh b0;have hs:=qh ((qj.sl h).below b0);clear h o0 b0;go_enter Tryz.func51,Tryz.ntmps51;go_wp2_with (at_builtin;refine xU rfl _ _ _ rfl _ 8 Tryz.underlying131 Wg rfl O0.o l rfl hs.o (by first|omega|(simp <;> omega)) rfl rfl xz.len VT (by first|omega|(simp <;> omega)) (by first|omega|(simp <;> omega)) ?_;refine qK.halt ?_)
  refine qK.go ?_;intro v' w2 o2 g2;have O2:=qh o2;have B2:=qh (B0.o.trans (g2.below (by simp) fun k hk=>(qj.lt O0.o k hk).1));clear o2 g2;go_wp2;go_ret;exact⟨_,rfl,O2.o,B2.o⟩
def VU (ms:List xz) (L:List Nat):List xz:=L.filterMap fun i=>ms[i]?
def ixP (ms:List xz) (q:Nat->Bool) (m:xz):Bool:=(List.range ms.length).any fun i=>(match ms[i]? with
 |some m'=>m'.p==m.p
 |none=>false)&&q i
def isW (A:Au) (o:Int) (i:Nat):Bool:=match A[i]? with
 |some s=>(fnd o (ja s)).isSome
 |none=>false
def isR (A:Au) (o v:Int) (i:Nat):Bool:=match A[i]? with
 |some s=>fnd o (zg s)==some v
 |none=>false
section
variable {ms:List xz} {L:List Nat} {q:Nat->Bool}
theorem We (inj:∀(j k:Nat) (m m':xz),ms[j]?=some m->ms[k]?=some m'->m.p=m'.p->j=k) {i:Nat} {m:xz} (hi:ms[i]?=some m):ixP ms q m=q i:=by
 have hil:=(List.getElem?_eq_some_iff.1 hi).1;cases hq:q i with
 |true=>
  unfold ixP;rw[List.any_eq_true];exact⟨i,List.mem_range.2 hil,by rw[hi,hq];simp⟩
 |false=>
  unfold ixP;rw[List.any_eq_false];intro j hj;have hjl:=List.mem_range.1 hj;have hj':ms[j]?=some ms[j]:=List.getElem?_eq_getElem hjl;rw[hj'];by_cases e:ms[j].p=m.p
  ·obtain rfl:=inj j i _ _ hj' hi e
   simp[hq]
  ·simp [e]
theorem Ya {i:Nat} (hi:i < ms.length):VU ms (i::L)=ms[i]::VU ms L:=by
 unfold VU;rw[List.filterMap_cons,List.getElem?_eq_getElem hi]
theorem vD (inj:∀(j k:Nat) (m m':xz),ms[j]?=some m->ms[k]?=some m'->m.p=m'.p->j=k):∀{L:List Nat},(∀i ∈ L,i < ms.length)->(VU ms L).filter (fun m=>!ixP ms q m)=VU ms (L.filter fun i=>!q i)
 |[],_=>rfl
 |i::L,h=>by
  have hi:=h i (by simp);rw[Ya hi,List.filter_cons,List.filter_cons,We inj (List.getElem?_eq_getElem hi),vD inj fun j hj=>h j (by simp[hj])]
  split
  ·rw [Ya hi]
  ·rfl
theorem XZ:∀{L:List Nat},(∀i ∈ L,i < ms.length)->(VU ms L).length=L.length
 |[],_=>rfl
 |i::L,h=>by rw[Ya (h i (by simp)),List.length_cons,List.length_cons,XZ fun j hj=>h j (by simp[hj])]
theorem Mh {m:xz} (h:m ∈ VU ms L):∃i ∈ L,ms[i]?=some m:=List.mem_filterMap.1 h
theorem qea:VU ms (List.range ms.length)=ms:=by
 apply List.ext_getElem
 ·rw [XZ fun i hi=>List.mem_range.1 hi,List.length_range]
 ·intro k h1 h2
  have hk:(VU ms (List.range ms.length))[k]?=ms[k]?:=by
   have:∀(n:Nat),n<=ms.length->VU ms (List.range n)=ms.take n:=by
    intro n
    induction n with
    |zero=>intro _;rfl
    |succ n ih=>
     intro hn;have:=ih (by omega);unfold VU at this ⊢;rw[List.range_succ,List.filterMap_append,this,List.take_add_one,List.filterMap_cons,List.getElem?_eq_getElem (by omega)];rfl
   rw[this _ (Nat.le_refl _),List.take_length]
  rw[List.getElem?_eq_getElem h1,List.getElem?_eq_getElem h2] at hk;exact Option.some.inj hk
end
section
variable {W:World} {lo hi pW bB pO:Nat} {lev o:Int} {ov vv lv:Value} {ms:List xz} {A:Au} {T:List Bool}
theorem v_1 (hF:xT W lo hi pW bB lev ov vv ms lv A T) (hd:Qg A) (ho:dI o) (hO:W.heap[pO]?=some (.cells #[.int .i64 o] 3 (0,0))) {i:Nat} {m:xz} (hi':ms[i]?=some m):
  Calls Tryz.prog 52 #[xD m.p,.pointer (some ⟨pO,0,none⟩)] W fun e w'=>e=.returned (.bool (!(T.getD i false&&isW A o i)))/\Below W.heap.size W w':=by
 have hil:=(List.getElem?_eq_some_iff.1 hi').1;obtain⟨m0,s,h1,h2,q⟩:=hF.get (k:=i) (by have:=hF.len;omega);rw[hi'] at h1;obtain rfl:=Option.some.inj h1;have r:=q.row;have hwl:=q.wr.lt;have LK:=qh (show ∀X:World,X.heap[m.wm]?=W.heap[m.wm]?->(Instr.lookup 138 (.map (some m.wm)) (.int .i64 o) true).run Tryz.prog X=.ok (.tuple #[.int .i64 ((fnd o (ja s)).getD 0),.bool (fnd o (ja s)).isSome]) X from fun X hX=>Yd (q.wr.obj hX) (hd s (List.mem_of_getElem? h2)).2 ho rfl);have ew:isW A o i=(fnd o (ja s)).isSome:=by unfold isW;rw[h2]
 rw[ew];obtain⟨tk,htk⟩:∃tk,T.getD i false=tk:=⟨_,rfl⟩
 obtain⟨sw,hsw⟩:∃sw,(fnd o (ja s)).isSome=sw:=⟨_,rfl⟩
 obtain⟨gw,hgw⟩:∃gw,(fnd o (ja s)).getD 0=gw:=⟨_,rfl⟩
 rw[htk] at r;rw[htk,hsw];rw[hsw,hgw] at LK;have ym:=qa r;have ym8:=ym 8;have ym10:=ym 10;simp at ym8 ym10;have yml:=qd r;have yo:=qa hO 0;simp at yo;have yol:=qd hO;clear ym r q hF hd ho hO ew htk hsw hgw h2;unfold xD;go_enter Tryz.func52,Tryz.ntmps52;go_wp2_with fail;refine qI (W.heap.size) [0,0,0,1,1,1,0,0,0,0,0] (.fin [0,1,2,3,4,5,6,7,8,9,10]) (by kernel_rfl) ?_;simp only[xi,qP,qA,sD,sE,sF,sG]
 repeat first|(refine qz fun K hK=>?_;go_simp;refine hK _ _ ?_;clear hK K)|(apply qC;(intro w2 hw2;have hk1:=hw2.cell;have hk3:=hw2.1;clear hw2;go_simp;with_reducible rfl);simp only[Act.put,sA,sB,sC])
 refine xM (fun K hK=>?_);refine⟨.tuple #[.int .i64 gw,.bool sw],fun w2 hw2=>?_,?_⟩
 ·have lk:=LK.o w2 (hw2.2 m.wm hwl)
  go_simp
 refine hK _ _ ?_;clear hK K
 repeat first|(refine qz fun K hK=>?_;go_simp;refine hK _ _ ?_;clear hK K)|refine qu ?_
 cases tk <;> cases sw
 all_goals
  go_wp2_with fail;go_ret;exact⟨rfl,(Below.refl _ W).drew⟩
theorem v_2 (hF:xT W lo hi pW bB lev ov vv ms lv A T) (hd:Qg A) (ho:dI o) (hO:W.heap[pO]?=some (.cells #[.int .i64 o] 3 (0,0))) {pT B:Nat} {vo:Value} {O:List Int} (hT:W.heap[pT]?=some (.cells #[vo] 30 (0,0))) (hvo:xJ W B vo O) (hne:0 < O.length) (hOl:O.length<=1000) {i:Nat} {m:xz} (hi':ms[i]?=some m):
  Calls Tryz.prog 53 #[xD m.p,.pointer (some ⟨pO,0,none⟩),.pointer (some ⟨pT,0,none⟩)] W fun e w'=>e=.returned (.bool (!isR A o (O.getLastD 0) i))/\Below W.heap.size W w':=by
 have hil:=(List.getElem?_eq_some_iff.1 hi').1;obtain⟨m0,s,h1,h2,q⟩:=hF.get (k:=i) (by have:=hF.len;omega);rw[hi'] at h1;obtain rfl:=Option.some.inj h1;have r:=q.row;have hwl:=q.rd.lt;have LK:=qh (show ∀X:World,X.heap[m.r]?=W.heap[m.r]?->(Instr.lookup 138 (.map (some m.r)) (.int .i64 o) true).run Tryz.prog X=.ok (.tuple #[.int .i64 ((fnd o (zg s)).getD 0),.bool (fnd o (zg s)).isSome]) X from fun X hX=>Yd (q.rd.obj hX) (hd s (List.mem_of_getElem? h2)).1 ho rfl);have ew:isR A o (O.getLastD 0) i=(fnd o (zg s)==some (O.getLastD 0)):=by unfold isR;rw[h2]
 rw[ew];obtain⟨x,hx⟩:∃x,fnd o (zg s)=x:=⟨_,rfl⟩
 rw[hx];rw[hx] at LK;obtain⟨z,hz⟩:∃z,O.getLastD 0=z:=⟨_,rfl⟩
 rw[hz];obtain⟨c,hc⟩:∃n:Nat,O.length=n+1:=⟨O.length - 1,by omega⟩
 have hlast:O[c]?=some z:=by
  rw[←hz,List.getLastD_eq_getLast?,List.getLast?_eq_getElem?];have:O.length - 1=c:=by omega
  rw[this,List.getElem?_eq_getElem (by omega)];rfl
 obtain⟨av,cv,e1⟩:=qj.sli hvo;subst e1;have hsl:=(show Sl W W.heap.size 1 (.slice av O.length cv) O.length (O.map (.int .i64)) by rw[←ux];exact qj.sl hvo).intAt (k:=c) (by omega);obtain⟨b2,o2,z2,hav,hb2,hz2,hcc⟩:=hsl;subst hav;rw[hlast] at hz2;obtain rfl:=Option.some.inj hz2;rw[hc] at hT;have ym:=qa r;have ym7:=ym 7;simp at ym7;have yml:=qd r;have yo:=qa hO 0;have yt:=qa hT 0;simp at yo yt;have yol:=qd hO;have ytl:=qd hT;have hc1:((c+1:Nat):Int) - 1=c:=by omega
 have hcl:c<=1000:=by omega
 have hw1:wrap64 (((c+1:Nat):Int) - 1)=c:=by rw[hc1];unfold wrap64;omega
 clear ym r q hF hd ho hO hT hvo ew h2 hz hlast hne hOl hc hx;unfold xD;go_enter Tryz.func53,Tryz.ntmps53;go_wp2_with fail;refine qI (W.heap.size) [0,0,0,1,1,1,0,0,0,0,0] (.fin [0,1,2,3,4,5,6,7,8,9,10]) (by kernel_rfl) ?_;simp only[xi,qP,qA,sD,sE,sF,sG]
 repeat first|(refine qz fun K hK=>?_;go_simp;refine hK _ _ ?_;clear hK K)|(apply qC;(intro w2 hw2;have hk1:=hw2.cell;have hk3:=hw2.1;clear hw2;go_simp;with_reducible rfl);simp only[Act.put,sA,sB,sC])
 refine xM (fun K hK=>?_);refine⟨.tuple #[.int .i64 (x.getD 0),.bool x.isSome],fun w2 hw2=>?_,?_⟩
 ·have lk:=LK.o w2 (hw2.2 m.r hwl)
  go_simp
 refine hK _ _ ?_;clear hK K
 repeat first|(refine qz fun K hK=>?_;go_simp;refine hK _ _ ?_;clear hK K)|refine qu ?_
 cases x with
 |none=>
  simp only[Option.isSome_none,Option.getD_none];go_wp2_with fail;go_ret;exact⟨rfl,(Below.refl _ W).drew⟩
 |some x=>
  simp only[Option.isSome_some,Option.getD_some];go_wp2_with fail;go_ret;refine⟨?_,(Below.refl _ W).drew⟩;by_cases e:x=z
  ·subst e;simp
  ·have:(some x==some z)=false:=by simpa using e
   rw[this];simp[e]
theorem v_3 (hF:xT W lo hi pW bB lev ov vv ms lv A T) {pN B:Nat} {vn:Value} {j:Nat} {mj:xz} (hj:ms[j]?=some mj) (hN:W.heap[pN]?=some (.cells #[vn] 131 (0,0))) (hvn:qj xz.cells 133 1 W B vn [mj]) {i:Nat} {m:xz} (hi':ms[i]?=some m):
  Calls Tryz.prog 54 #[xD m.p,.pointer (some ⟨pN,0,none⟩)] W fun e w'=>e=.returned (.bool (decide (i=j)))/\Below W.heap.size W w':=by
 have hil:=(List.getElem?_eq_some_iff.1 hi').1;have hjl:=(List.getElem?_eq_some_iff.1 hj).1;obtain⟨m0,s,h1,h2,q⟩:=hF.get (k:=i) (by have:=hF.len;omega);rw[hi'] at h1;obtain rfl:=Option.some.inj h1;obtain⟨m1,s1,h3,h4,q1⟩:=hF.get (k:=j) (by have:=hF.len;omega);rw[hj] at h3;obtain rfl:=Option.some.inj h3;have hpe:=qdU q.row q1.row;have hdec:decide (m.p=mj.p)=decide (i=j):=by
  by_cases e:m.p=mj.p
  ·obtain rfl:=hF.inj _ _ _ _ hi' hj e
   simp[e]
  ·have:i≠j:=by
    rintro rfl;rw[hi'] at hj;exact e (by rw[Option.some.inj hj])
   simp[e,this]
 rw[hdec] at hpe;obtain⟨a,c,e1⟩:=qj.sli hvn;subst e1;simp only[List.length_cons,List.length_nil,Nat.zero_add] at hvn hN;obtain⟨b,off,m2,hat,hb,hmk,hc⟩:=(qj.sl hvn).atF xz.len rfl (k:=0) (by simp);subst hat;simp at hmk;subst hmk;have c0:=hc 0 (by decide);simp[xz.cells,xD] at c0;have yt:=qa hN 0;simp at yt;have ytl:=qd hN;clear hc hvn hN q q1 hF h2 h4 hdec;unfold xD;go_enter Tryz.func54,Tryz.ntmps54;go_wp2_with fail;go_ret;exact⟨rfl,Below.refl _ _⟩
theorem qfD {w:World} (hF:xT w lo hi pW bB lev ov vv ms lv A T) (hh:hi<=w.heap.size) (hd:Qg A) (ho:dI o) (hO:w.heap[pO]?=some (.cells #[.int .i64 o] 3 (0,0))) {B:Nat} {v:Value} {l:List xz} (hv:qj xz.cells 133 1 w B v l) (hB:hi<=B) (hp:pO < B) (hL:∀m ∈ l,∃i:Nat,ms[i]?=some m):
  Zs Tryz.prog 52 #[.pointer (some ⟨pO,0,none⟩)] (fun m:xz=>xD m.p) (ixP ms fun i=>!(T.getD i false&&isW A o i)) (· ∈ l) w v.ownBlock:=by
 intro W x hx hg;obtain⟨i,hi'⟩:=hL x hx;have ne:∀k,k < B->some k≠v.ownBlock:=fun k hk e=>by have:=(qj.lt hv k e.symm).1;omega
 have hF':=hF.keep (w':=W) (hi':=hi) (Nat.le_refl _) fun k _ hk=>hg.block k (by omega) (ne k (by omega));have hO':=(hg.block pO (qd hO) (ne pO hp)).trans hO;rw[We hF.inj hi'];exact v_1 hF' hd ho hO' hi'
theorem qfC {w:World} (hF:xT w lo hi pW bB lev ov vv ms lv A T) (hh:hi<=w.heap.size) (hd:Qg A) (ho:dI o) (hO:w.heap[pO]?=some (.cells #[.int .i64 o] 3 (0,0))) {pT C:Nat} {vo:Value} {O:List Int} (hT:w.heap[pT]?=some (.cells #[vo] 30 (0,0))) (hvo:xJ w C vo O) (hne:0 < O.length) (hOl:O.length<=1000)
  {B:Nat} {v:Value} {l:List xz} (hv:qj xz.cells 133 1 w B v l) (hB:hi<=B) (hp:pO < B) (hpT:pT < B) (hvB:∀k,vo.ownBlock=some k->k < B) (hL:∀m ∈ l,∃i:Nat,ms[i]?=some m):
  Zs Tryz.prog 53 #[.pointer (some ⟨pO,0,none⟩),.pointer (some ⟨pT,0,none⟩)] (fun m:xz=>xD m.p) (ixP ms fun i=>!isR A o (O.getLastD 0) i) (· ∈ l) w v.ownBlock:=by
 intro W x hx hg;obtain⟨i,hi'⟩:=hL x hx;have ne:∀k,k < B->some k≠v.ownBlock:=fun k hk e=>by have:=(qj.lt hv k e.symm).1;omega
 have hF':=hF.keep (w':=W) (hi':=hi) (Nat.le_refl _) fun k _ hk=>hg.block k (by omega) (ne k (by omega));have hO':=(hg.block pO (qd hO) (ne pO hp)).trans hO;have hT':=(hg.block pT (qd hT) (ne pT hpT)).trans hT;have hvo':xJ W C vo O:=qj.sameB hvo fun k hk=>hg.block k (qj.lt hvo k hk).2 (ne k (hvB k hk));rw[We hF.inj hi'];exact v_2 hF' hd ho hO' hT' hvo' hne hOl hi'
theorem qfB {w:World} (hF:xT w lo hi pW bB lev ov vv ms lv A T) (hh:hi<=w.heap.size) {pN C:Nat} {vn:Value} {j:Nat} {mj:xz} (hj:ms[j]?=some mj) (hN:w.heap[pN]?=some (.cells #[vn] 131 (0,0))) (hvn:qj xz.cells 133 1 w C vn [mj])
  {B:Nat} {v:Value} {l:List xz} (hv:qj xz.cells 133 1 w B v l) (hB:hi<=B) (hpN:v.ownBlock≠some pN) (hvC:∀k,v.ownBlock=some k->k < C) (hL:∀m ∈ l,∃i:Nat,ms[i]?=some m):
  Zs Tryz.prog 54 #[.pointer (some ⟨pN,0,none⟩)] (fun m:xz=>xD m.p) (ixP ms fun i=>decide (i=j)) (· ∈ l) w v.ownBlock:=by
 intro W x hx hg;obtain⟨i,hi'⟩:=hL x hx;have ne:∀k,k < B->some k≠v.ownBlock:=fun k hk e=>by have:=(qj.lt hv k e.symm).1;omega
 have hF':=hF.keep (w':=W) (hi':=hi) (Nat.le_refl _) fun k _ hk=>hg.block k (by omega) (ne k (by omega));have hN':=(hg.block pN (qd hN) fun e=>hpN e.symm).trans hN;have hvn':qj xz.cells 133 1 W C vn [mj]:=qj.sameB hvn fun k hk=>hg.block k (qj.lt hvn k hk).2 fun e=>by have:=hvC k e.symm;have:=(qj.lt hvn k hk).1;omega
 rw[We hF.inj hi'];exact v_3 hF' hj hN' hvn' hi'
end
theorem Jw {A:Au} {T:List Bool} {o:Int}:Qt A T o=(List.range A.length).filter fun i=>!!(T.getD i false&&isW A o i):=by
 unfold Qt;congr 1;funext i;unfold isW;rw[Bool.not_not];cases A[i]? <;> rfl
theorem Jp {A:Au} {o v:Int} {L:List Nat}:Zg A o v L=L.filter fun i=>!!isR A o v i:=by
 unfold Zg;congr 1;funext i;unfold isR;rw[Bool.not_not];cases A[i]? <;> rfl
theorem qfn {A:Au} {o:Int} {j:Nat} {s:St} (h:A[j]?=some s):wrV A o j=(fnd o (ja s)).getD 0:=by unfold wrV;rw[h]
theorem qbd {A:Au} {o:Int} {n:Nat} {O:List Int}:zN A o n [] O=(O,true):=by cases n <;> rfl
theorem qbc {A:Au} {o:Int} {n j:Nat} {L:List Nat} {O:List Int} (hL:L≠[]) (hN:Zg A o (O.getLastD 0) L=[j]):zN A o (n+1) L O=zN A o n (L.filter fun i=>!decide (i=j)) (O++[wrV A o j]):=by
 obtain⟨x,L,rfl⟩:=List.exists_cons_of_ne_nil hL;have hf:(fun i=>!decide (i=j))=(fun i:Nat=>i !=j):=by
  funext i;rw[Bool.eq_iff_iff];simp
 rw[zN,hN,hf];exact fun h=>by cases h
theorem qdC {A:Au} {o:Int} {n:Nat} {L:List Nat} {O:List Int} (hL:L≠[]) (hN:(Zg A o (O.getLastD 0) L).length≠1):zN A o (n+1) L O=(O,false):=by
 obtain⟨x,L,rfl⟩:=List.exists_cons_of_ne_nil hL;rw[zN]
 ·split
  ·rename_i j e
   rw[e] at hN;exact absurd rfl hN
  ·rfl
 ·exact fun h=>by cases h
section
variable {w:World} {ov vv:Value} {os:List Ob} {r:Option Au} {A:Au} {lev o:Int}
theorem JO (h:Uk w ov vv os r) (e:yB os r=some A) (hl:lev=1\/lev=2\/lev=3) (hal:A.length<=200) (ho:0<=o/\o < os.length):Calls Tryz.prog 20 #[.agg #[ov,vv],.int .i64 lev,.int .i64 o] w fun e w'=>
  ∃v b,e=.returned (.tuple #[v,.bool b,.nilIface])/\xJ w' w.heap.size v (Qa lev (os.map (·.init)) A o).1/\b=(Qa lev (os.map (·.init)) A o).2/\Below w.heap.size w w':=by
 obtain⟨ao,co,hov,-⟩:=h.ho.ex;obtain⟨av,nv,cv,hvv⟩:=h.hvv;have HD:=qh (h.hD A (yH e).1);have hol:=HD.o.ol;obtain⟨c,rfl⟩:∃c:Nat,o=c:=⟨o.toNat,by omega⟩
 have hcl:c < os.length:=by omega
 have hdo:dI (c:Int):=by
  unfold dI Lit.wf;simp[IntKind.min,IntKind.max,IntKind.bits,IntKind.signed];omega
 have b0:Below w.heap.size w ((w.alloc (.cells #[ov,vv] 25)).alloc (.cells #[.int .i64 (c:Int)] 3)):=((Below.refl _ w).alloc (Nat.le_refl _) _).alloc (by simp) _;have PC:=qh (qfh (lev:=lev) (h.below b0) e hl);have r0:=qD (o:=.cells #[.int .i64 (c:Int)] 3) (qy w (.cells #[ov,vv] 25));have r1:=qy (w.alloc (.cells #[ov,vv] 25)) (.cells #[.int .i64 (c:Int)] 3);have z0:((w.alloc (.cells #[ov,vv] 25)).alloc (.cells #[.int .i64 (c:Int)] 3)).heap.size=w.heap.size+2:=by simp
 simp only[World.size_alloc] at r1;have HH:=qh h;have R0:=qh r0;have R1:=qh r1;have B0:=qh b0;have Z0:=qh z0;have HDO:=qh hdo;subst hov hvv;have hq1:decide ((c:Int) < 0)=false:=by simp
 have hq2:decide ((os.length:Int)<=(c:Int))=false:=by simp;omega
 clear h b0 e r0 r1 z0 hdo;go_enter Tryz.func20,Tryz.ntmps20;go_wp2_with fail;generalize (w.alloc (.cells #[.slice ao os.length co,.slice av nv cv] 25)).alloc (.cells #[.int .i64 (c:Int)] 3)=Wb at *;refine PC.o.mono ?_;rintro e W1 ⟨pW,bB,ms,lv,rfl,hF,b1⟩;have B1:=qh (B0.o.trans (b1.mono B0.o.size));obtain⟨T,hT⟩:∃T,xd lev A=T:=⟨_,rfl⟩
 obtain⟨al,cl,hlv0⟩:=qj.sli hF.lst;subst hlv0;have hml:ms.length=A.length:=hF.len;have HML:=qh hml;have hms:ms.length<=200:=by omega
 have R0:=qh (qp R0.o b1 (qd R0.o));have R1:=qh (qp R1.o b1 (qd R1.o));have y0:=qa R0.o 0;have y1:=qa R1.o 0;simp at y0 y1;have yl0:=qd R0.o;have yl1:=qd R1.o;have yq:=qa hF.row 3;simp at yq;have yql:=qd hF.row;rw[hT] at hF;have F1:=qh hF;have HT:=qh hT;have CL:=qh (Ki W1 hF.lst (by omega));have hsz:=b1.size;have hz2:=Z0.o;have hw1:w.heap.size+2<=W1.heap.size:=by omega
 clear b1 hF hT hml hz2;go_wp2_with fail;refine CL.o.mono ?_;rintro e W2 ⟨v1,rfl,o1,b2⟩;have F2:=qh (F1.o.below b2 (Nat.le_refl _) (Nat.le_refl _));have R02:=qh (qp R0.o b2 yl0);have R12:=qh (qp R1.o b2 yl1);have hz2:=b2.size;have P1:=qh (qfD F2.o hz2 HD.o.mv HDO.o R12.o o1 (Nat.le_refl _) yl1 fun m hm=>(List.mem_iff_getElem?.1 hm));have DL:=qh (YD W2 o1 (by omega) (enters_of Tryz.func52 (by kernel_rfl) rfl) P1.o);have B2:=qh b2;have O1:=qh o1;obtain⟨a1,c1,e1⟩:=qj.sli o1;subst e1;clear o1 b2 P1;go_wp2_with fail;refine DL.o.mono ?_;rintro e W3 ⟨v3,rfl,o3,g3⟩;have hz3:=g3.size;have F3:=qh (F2.o.keep (w':=W3) (hi':=W1.heap.size) (Nat.le_refl _) fun k _ hk=>g3.grown.block k (by omega) (fun e=>by have:=(qj.lt O1.o k e.symm).1;omega));have B3:=qh (B2.o.trans ((g3.below (B:=W1.heap.size) hz2 fun k hk=>(qj.lt O1.o k hk).1)));have BW:=qh (B1.o.trans (B3.o.mono (by omega)));have R03:=qh (qp R0.o B3.o yl0);have R13:=qh (qp R1.o B3.o yl1);have e3:=vD (q:=fun i=>!(T.getD i false&&isW A c i)) F3.o.inj (L:=List.range ms.length) (fun i hi=>List.mem_range.1 hi);rw[qea,HML.o,←Jw] at e3;have O3:=qh (show qj xz.cells 133 1 W3 W1.heap.size v3 (VU ms (Qt A T c)) by rw[←e3];exact o3);obtain⟨a3,c3,e4⟩:=qj.sli O3.o;subst e4;obtain⟨b5,o5,ob,hat,hb5,hob,hcc⟩:=((HH.o.ho.below BW.o).atF Ob.len rfl hcl)
 subst hat;have z0:=hcc 0 (by decide);have z1:=hcc 1 (by decide);simp only[Ob.cells,Nat.add_zero,List.getElem?_cons_zero,List.getElem?_cons_succ] at z0 z1;have y0:=qa R03.o 0;have y1:=qa R13.o 0;simp at y0 y1;have yl0:=qd R03.o;have yl1:=qd R13.o;have hb5':b5 < W3.heap.size:=by omega
 have HOB:=qh hob;clear e3 o3 g3 DL hob hcc CL;obtain⟨res,hres0⟩:∃res,Qa lev (os.map (·.init)) A c=res:=⟨_,rfl⟩
 have HR0:=qh hres0;have hres:zN A c ((Qt A T c).length+1) (Qt A T c) [ob.init]=res:=by
  rw[←hres0];unfold Qa;rw[HT.o];have:(os.map (·.init)).getD ((c:Int)).toNat 0=ob.init:=by
   rw[Int.toNat_natCast,List.getD_eq_getElem?_getD,List.getElem?_map,HOB.o];rfl
  rw[this]
 have HRES:=qh hres;have lt4:xJ ((W3.alloc (.cells #[.int .i64 ob.init] 3)).alloc (.cells #[.slice (some ⟨W3.heap.size,0,none⟩) 1 1] 30)) W3.heap.size (.slice (some ⟨W3.heap.size,0,none⟩) 1 1) [ob.init]:=by
  have:=qj.lit (f:=zK) (e:=3) (sz:=1) W3 W3.heap.size (Nat.le_refl _) [ob.init] (fun _=>rfl) (by simp);exact qj.alloc (by simpa[zK] using this) _
 have rt4:=qy (W3.alloc (.cells #[.int .i64 ob.init] 3)) (.cells #[.slice (some ⟨W3.heap.size,0,none⟩) 1 1] 30);simp only[World.size_alloc] at rt4;have b4:Below W3.heap.size W3 ((W3.alloc (.cells #[.int .i64 ob.init] 3)).alloc (.cells #[.slice (some ⟨W3.heap.size,0,none⟩) 1 1] 30)):=((Below.refl _ W3).alloc (Nat.le_refl _) _).alloc (by simp) _;have LT4:=qh lt4;have RT4:=qh rt4;have O4:=qh (qj.below O3.o b4);have hz13:W1.heap.size<=W3.heap.size:=B3.o.size;have B4:=qh (B3.o.trans (b4.mono hz13));have hlv:(Qt A T c).length<=200:=by
  rw[Jw];exact Nat.le_trans (List.length_filter_le _ _) (by simp;exact hal)
 have HLV:=qh (show ∀i ∈ Qt A T c,i < ms.length from fun i hi=>by rw[Jw] at hi;have:=List.mem_range.1 (List.mem_filter.1 hi).1;rw[HML.o];exact this);clear hres0 hres lt4 rt4 b4;go_wp2_with fail;generalize (W3.alloc (.cells #[.int .i64 ob.init] 3)).alloc (.cells #[.slice (some ⟨W3.heap.size,0,none⟩) 1 1] 30)=W4 at *;clear y0 y1 z0 z1 yq yql
 go_loopw [11] (fun p wr=>∃(L:List Nat) (O:List Int) (vo:Value) (n:Nat),qj xz.cells 133 1 wr W1.heap.size p (VU ms L)/\(∀i ∈ L,i < ms.length)/\L.length<=n/\O.length+L.length<=201/\0 < O.length/\wr.heap[W3.heap.size+1]?=some (.cells #[vo] 30 (0,0))/\xJ wr W3.heap.size vo O/\zN A c (n+1) L O=res/\Below W1.heap.size W1 wr)
  (fun p _=>match p with|.slice _ n _=>n|_=>0)
 case atStart=>exact⟨_,[ob.init],_,_,O4.o,HLV.o,Nat.le_refl _,by simp;omega,by simp,RT4.o,LT4.o,HRES.o,B4.o⟩
 case round=>
  obtain⟨L,O,vo,n,hp,hL,hn,hOL,hO0,hT,hvo,hres,hB⟩:=hrel;obtain⟨a5,c5,e5⟩:=qj.sli hp;subst e5;obtain⟨a6,c6,e6⟩:=qj.sli hvo;subst e6;have hlen:(VU ms L).length=L.length:=XZ hL;obtain⟨m5,hm5⟩:∃m,(VU ms L).length=m:=⟨_,rfl⟩
  have hwz:=hB.size;have HP:=qh hp;have HL:=qh hL;have HLEN:=qh hlen;have HM5:=qh hm5;have HT':=qh hT;have HVO:=qh hvo;have HRS:=qh hres;have HB:=qh hB;have yt:=qa hT 0;simp at yt;have ytl:=qd hT;have hm5l:m5<=201:=by rw[←hm5,hlen];omega
  have hOl:O.length<=201:=by omega
  have yl1':w.heap.size+1 < W1.heap.size:=by omega
  rw[hm5] at hp ⊢;by_cases hne:L=[]
  ·have hm0:m5=0:=by rw[←hm5,hlen,hne];rfl
   subst hm0;have HE:=qh (show res=(O,true) by rw[←hres,hne,qbd]);have BZ:=qh (B1.o.trans (hB.mono (by omega)));have hz9:w.heap.size<=W3.heap.size:=by omega
   clear hp hL hlen hm5 hT hvo hres hB;go_wp2_with fail;refine bodyPost_ret (v:=.tuple #[.slice a6 O.length c6,.bool true,.nilIface]) (by simp[results,Tryz.results20,go_sem]) rfl ⟨_,_,rfl,?_,?_,BZ.o⟩
   ·rw [HR0.o,HE.o];exact qj.base HVO.o hz9
   ·rw [HR0.o,HE.o]
  ·have hmp:0 < m5:=by rw[←hm5,hlen];exact List.length_pos_iff.2 hne
   have hq5:decide ((0:Int) < (m5:Int))=true:=by simp;omega
   have HNE:=qh hne;have CL:=qh (Ki wr HP.o (by rw[HM5.o];omega));rw[hm5] at CL;clear hp hL hlen hm5 hT hvo hres hB hne;go_wp2_with fail;refine CL.o.mono ?_;rintro e w5 ⟨v5,rfl,o5,b5⟩;have hz5:=b5.size;have B5:=qh (HB.o.trans (b5.mono hwz));have F5:=qh (F1.o.below B5.o (Nat.le_refl _) (Nat.le_refl _));have R5:=qh (qp R1.o B5.o yl1');have T5:=qh (qp HT'.o b5 ytl);have V5:=qh (qj.below HVO.o b5);have L5:=qh (qj.below HP.o b5);have P2:=qh (qfC F5.o B5.o.size HD.o.mv HDO.o R5.o T5.o V5.o hO0 (by omega) o5 hwz (by omega) ytl (fun k hk=>(qj.lt HVO.o k hk).2) fun m hm=>by obtain⟨i,-,h⟩:=Mh hm;exact⟨i,h⟩);have DL:=qh (YD w5 o5 (by rw[HM5.o];omega) (enters_of Tryz.func53 (by kernel_rfl) rfl) P2.o);have O5:=qh o5;have BB5:=qh b5;obtain⟨a7,c7,e7⟩:=qj.sli o5;rw[HM5.o] at e7;subst e7;clear o5 b5 P2;go_wp2_with fail;refine DL.o.mono ?_;rintro e w6 ⟨v6,rfl,o6,g6⟩;have hz6:=g6.size;have e6:=vD (q:=fun i=>!isR A c (O.getLastD 0) i) F5.o.inj HL.o;rw[←Jp] at e6;obtain⟨N,hN⟩:∃N,Zg A c (O.getLastD 0) L=N:=⟨_,rfl⟩
   rw[hN] at e6;have O6:=qh (show qj xz.cells 133 1 w6 wr.heap.size v6 (VU ms N) by rw[←e6];exact o6);have hNL:∀i ∈ N,i < ms.length/\i ∈ L:=fun i hi=>by
    rw[←hN,Jp] at hi;have:=(List.mem_filter.1 hi).1;exact⟨HL.o i this,this⟩
   have HN:=qh hN;have HNL:=qh hNL;have hN6:(VU ms N).length=N.length:=XZ fun i hi=>(hNL i hi).1;obtain⟨a8,c8,e8⟩:=qj.sli o6;rw[e6,hN6] at e8;subst e8;have B6:=qh ((BB5.o.trans (g6.below (B:=wr.heap.size) hz5 fun k hk=>(qj.lt O5.o k hk).1)));obtain⟨k6,hk6⟩:∃k,N.length=k:=⟨_,rfl⟩
   have T6:=qh (qp HT'.o B6.o ytl);have V6:=qh (qj.below HVO.o B6.o);have L6:=qh (qj.below HP.o B6.o);have y6:=qa T6.o 0;simp at y6;have y6l:=qd T6.o;have hk6l:k6<=201:=by
    rw[←hk6,←hN,Jp];exact Nat.le_trans (List.length_filter_le _ _) (by omega)
   rw[hk6];have HK6:=qh hk6;clear o6 g6 e6 hN hNL hN6 hk6 DL CL yt;by_cases h1:k6=1
   ·subst h1
    obtain⟨j,rfl⟩:=List.length_eq_one_iff.1 HK6.o;have hjl:j < ms.length:=(HNL.o j (by simp)).1;have HJL:=qh (HNL.o j (by simp)).2;have hmj:VU ms [j]=[ms[j]]:=Ya (L:=[]) hjl;obtain⟨mj,hmj2⟩:∃m,ms[j]=m:=⟨_,rfl⟩
    have HMJ:=qh (show ms[j]?=some mj by rw[List.getElem?_eq_getElem hjl,hmj2]);have o6:=O6.o;rw[hmj,hmj2] at o6;have B7:=qh (B6.o.alloc B6.o.size (.cells #[.slice a8 1 c8] 131));have O7:=qh (qj.alloc o6 (.cells #[.slice a8 1 c8] 131));have N7:=qh (qy w6 (.cells #[.slice a8 1 c8] 131));have T7:=qh (qD (o:=.cells #[.slice a8 1 c8] 131) T6.o);have V7:=qh (qj.alloc V6.o (.cells #[.slice a8 1 c8] 131));have L7:=qh (qj.alloc L6.o (.cells #[.slice a8 1 c8] 131));have hz7:w6.heap.size < (w6.alloc (.cells #[.slice a8 1 c8] 131)).heap.size:=by simp
    clear o6 hmj hmj2 y6 y6l;go_wp2_with fail;generalize w6.alloc (.cells #[.slice a8 1 c8] 131)=w7 at *;have F7:=qh (F1.o.below (HB.o.trans (B7.o.mono hwz)) (Nat.le_refl _) (Nat.le_refl _));have R7:=qh (qp R1.o (HB.o.trans (B7.o.mono hwz)) yl1');obtain⟨b8,o8,m8,h81,h82,h83,h84⟩:=(qj.sl O7.o).atF xz.len rfl (k:=0) (by simp);subst h81;simp at h83;subst h83;have c0:=h84 0 (by decide);simp only[xz.cells,Nat.add_zero,Nat.zero_mul,List.getElem?_cons_zero,xD] at c0;obtain⟨m9,s,g91,g92,q9⟩:=F7.o.get (k:=j) (by rw[←HML.o];exact hjl);rw[HMJ.o] at g91;obtain rfl:=Option.some.inj g91;have ym:=qa q9.row 8;simp at ym;have yml:=qd q9.row;have hwl:=q9.wr.lt;have LK:=qh (show ∀X:World,X.heap[mj.wm]?=w7.heap[mj.wm]?->(Instr.lookup 138 (.map (some mj.wm)) (.int .i64 (c:Int)) false).run Tryz.prog X=.ok (.int .i64 ((fnd (c:Int) (ja s)).getD 0)) X from fun X hX=>Mj (q9.wr.obj hX) (HD.o.mv s (List.mem_of_getElem? g92)).2 HDO.o);have HWV:=qh (qfn (o:=(c:Int)) g92);have yo:=qa R7.o 0;have yt:=qa T7.o 0;have yn:=qa N7.o 0;simp at yo yt yn;have yol:=qd R7.o;have ytl7:=qd T7.o;have ynl:=qd N7.o;have ytf:=qB T7.o 0;have h82':b8 < w7.heap.size:=h82;clear h84 q9 g91 g92 h82;obtain⟨gw,hgw⟩:∃gw,(fnd (c:Int) (ja s)).getD 0=gw:=⟨_,rfl⟩
    rw[hgw] at LK HWV;clear hgw;refine jM [1,1,0,1,0,0,1,1,1,3,2,2] [0,1,2,3,4,5,6,7,8,9,10,11] (by kernel_rfl) ?_;simp only[qP,qA,sD,sE,sF,sG]
    repeat first|(refine qz fun K hK=>?_;go_simp;refine hK _ _ ?_;clear hK K)|(apply qC;(intro w2 hw2;have hk1:=hw2.cell;have hk3:=hw2.heap;clear hw2;go_simp;with_reducible rfl);simp only[Act.put,sA,sB,sC])|refine qH rfl rfl ?_|(refine qQ rfl rfl fun K hK=>?_;simp only[Act.put,sA,sB,sC];refine hK _ _ ?_;clear hK K)|refine qu ?_
    refine xM (fun K hK=>?_);refine⟨.int .i64 gw,fun w2 hw2=>?_,?_⟩
    ·have lk:=LK.o w2 (hw2.heap mj.wm (show w7.heap[mj.wm]?.isSome=true by rw[Array.getElem?_eq_getElem hwl];rfl))
     go_simp
    refine hK _ _ ?_;clear hK K;refine qG (fun K hK=>?_);go_simp;refine hK _ _ (jp.alloc _ _) ?_;clear hK K;refine qM (fun K' hK=>?_);rw[uz];refine ui _ _ _ rfl _ 8 Tryz.underlying30 Yi rfl V7.o.drew gw (by first|omega|(simp <;> omega)) (by rfl) (by rfl) (by first|rfl|simp) rfl (XC _) (by first|omega|(simp only[List.length_append,List.length_cons,List.length_nil,List.length_replicate];omega)) (by first|omega|(simp only[List.length_append,List.length_cons,List.length_nil,List.length_replicate];omega)) ?_;intro g9 c9 w8 o8' G8;have hne:=qj.neT V7.o T7.o (by decide);have rt8:=qL (jf T7.o) G8 hne;have hne8:=qj.neT o8' rt8 (by decide);have T9:=qh (qq rt8 0 (.slice (some ⟨g9,0,none⟩) (O.length+1) c9));have V9:=qh (qj.other (j:=0) o8' hne8 (.slice (some ⟨g9,0,none⟩) (O.length+1) c9));have B9:=qh ((((Below.refl W3.heap.size w7).drew.trans (G8.below (B:=W3.heap.size) (by exact Nat.le_of_lt (Nat.lt_of_succ_lt ytl7)) fun j hj=>(qj.lt V7.o j hj).1)).setCell (p:=⟨W3.heap.size+1,0,none⟩) (show W3.heap.size<=W3.heap.size+1 by omega) (.slice (some ⟨g9,0,none⟩) (O.length+1) c9)));have neL:∀k,(Value.slice a5 m5 c5).ownBlock=some k->(Value.slice a6 O.length c6).ownBlock≠some k:=fun k hk=>by
     obtain⟨cs,hcs⟩:=qj.keepObj L7.o k (by rw[HM5.o];exact hk);exact qj.neT V7.o hcs (by decide)
    have neN:∀k,(Value.slice (some ⟨b8,o8,none⟩) 1 c8).ownBlock=some k->(Value.slice a6 O.length c6).ownBlock≠some k:=fun k hk=>by
     obtain⟨cs,hcs⟩:=qj.keepObj O7.o k hk;exact qj.neT V7.o hcs (by decide)
    have l8:=qj.grw (qj.drew L7.o) G8 (by rw[HM5.o];exact neL);have n8:=qj.grw (qj.drew O7.o) G8 neN;have L9:=qh (qj.other (j:=0) l8 (qj.neT l8 rt8 (by decide)) (.slice (some ⟨g9,0,none⟩) (O.length+1) c9));have O9:=qh (qj.other (j:=0) n8 (qj.neT n8 rt8 (by decide)) (.slice (some ⟨g9,0,none⟩) (O.length+1) c9));have rn8:=qL (jf N7.o) G8 (qj.neT V7.o N7.o (by decide));have N9:=qh (qJ rn8 (show W3.heap.size+1≠w6.heap.size by omega) (j:=0) (v:=.slice (some ⟨g9,0,none⟩) (O.length+1) c9));have y8l:=qd rt8;have y8:=qa rt8 0;simp at y8;have y8f:=qB rt8 0;clear rt8 o8' G8 hne hne8 neL neN l8 n8 rn8 ym yml yo yt yn yol ytl7 ynl ytf c0;refine hK _ _ ?_;clear hK K'
    repeat first|(refine qz fun K hK=>?_;go_simp;refine hK _ _ ?_;clear hK K)|(apply qC;(intro w2 hw2;have hk1:=hw2.cell;have hk3:=hw2.heap;clear hw2;go_simp;with_reducible rfl);simp only[Act.put,sA,sB,sC])|refine qH rfl rfl ?_|(refine qQ rfl rfl fun K hK=>?_;simp only[Act.put,sA,sB,sC];refine hK _ _ ?_;clear hK K)|refine qu ?_
    refine qM (fun K' hK=>?_);go_simp;refine hK _ _ ?_;clear hK K'
    repeat first|(refine qz fun K hK=>?_;go_simp;refine hK _ _ ?_;clear hK K)|(apply qC;(intro w2 hw2;have hk1:=hw2.cell;have hk3:=hw2.heap;clear hw2;go_simp;with_reducible rfl);simp only[Act.put,sA,sB,sC])|refine qH rfl rfl ?_|(refine qQ rfl rfl fun K hK=>?_;simp only[Act.put,sA,sB,sC];refine hK _ _ ?_;clear hK K)|refine qu ?_
    go_wp2_with fail;generalize w8.setCell ⟨W3.heap.size+1,0,none⟩ (.slice (some ⟨g9,0,none⟩) (O.length+1) c9)=w9 at *;have BF:=qh ((HB.o.trans (B7.o.mono hwz)).trans (B9.o.mono hz13));have F9:=qh (F1.o.below BF.o (Nat.le_refl _) (Nat.le_refl _));have hw79:=B9.o.size;have hw67:=B7.o.size;have L9':=qh (show qj xz.cells 133 1 w9 W1.heap.size (.slice a5 m5 c5) (VU ms L) by have:=L9.o;rw[HM5.o] at this;exact this);have hlo:∀k,(Value.slice a5 m5 c5).ownBlock=some k->k < wr.heap.size:=fun k hk=>(qj.lt HP.o k (by rw[HM5.o];exact hk)).2;have hr6:wr.heap.size<=w6.heap.size:=by have:=BB5.o.size;omega
    have P3:=qh (qfB F9.o BF.o.size HMJ.o N9.o O9.o L9'.o (Nat.le_refl _) (fun e=>by have:=hlo _ e;omega) hlo fun m hm=>by obtain⟨i,-,h⟩:=Mh hm;exact⟨i,h⟩);have DL:=qh (YD w9 L9'.o (by rw[HM5.o];omega) (enters_of Tryz.func54 (by kernel_rfl) rfl) P3.o);clear P3;refine DL.o.mono ?_;rintro e w10 ⟨v10,rfl,o10,g10⟩;have e10:=vD (q:=fun i=>decide (i=j)) F9.o.inj HL.o;rw[e10] at o10;obtain⟨a10,c10,e11⟩:=qj.sli o10;have hL':∀i ∈ L.filter (fun i=>!decide (i=j)),i < ms.length:=fun i hi=>HL.o i (List.mem_filter.1 hi).1;rw[XZ hL'] at e11;subst e11;have hlt:(L.filter fun i=>!decide (i=j)).length < L.length:=by
     refine List.length_filter_lt_length_iff_exists.2 ⟨j,HJL.o,by simp⟩
    obtain⟨n',rfl⟩:∃n',n=n'+1:=⟨n - 1,by omega⟩
    have HRS':=qh (show zN A c (n'+1) (L.filter fun i=>!decide (i=j)) (O++[gw])=res by rw[←HRS.o,qbc HNE.o HN.o,HWV.o]);have B10:=qh (BF.o.trans (g10.below BF.o.size fun k hk=>(qj.lt L9'.o k hk).1));have T10:=qh (qL T9.o g10 (qj.neT L9'.o T9.o (by decide)));have V10:=qh (qj.grwT V9.o L9'.o (by decide) g10);have O10:=qh o10;have hml':L.length=m5:=by rw[←HLEN.o,HM5.o]
    have HLM:=qh hml';clear o10 g10 DL e10 hml';go_wp2_with fail;go_roundw
    case rel=>exact⟨_,O++[gw],_,n',O10.o,hL',by omega,by simp;omega,by simp,by simpa using T10.o,by simpa using V10.o,HRS'.o,B10.o⟩
    case measure=>have:=HLM.o;simp only;omega
   ·have hq6:((k6:Int) !=1)=true:=by simp;omega
    have HE:=qh (show res=(O,false) by rw[←HRS.o,qdC HNE.o (by rw[HN.o,HK6.o];exact h1)]);have BZ:=qh (B1.o.trans ((HB.o.trans (B6.o.mono hwz)).mono (by omega)));have hz9:w.heap.size<=W3.heap.size:=by omega
    clear h1;go_wp2_with fail;refine bodyPost_ret (v:=.tuple #[.slice a6 O.length c6,.bool false,.nilIface]) (by simp[results,Tryz.results20,go_sem]) rfl ⟨_,_,rfl,?_,?_,BZ.o.alloc BZ.o.size _⟩
    ·rw [HR0.o,HE.o];exact qj.alloc (qj.base V6.o hz9) _
    ·rw [HR0.o,HE.o]
end
end
