/- Parts of the proof; the first: The searches of all prefixes of a history, one by one. Conditions: those of each theorem, as typed. -/
import Derived.Test.YtkfhgifhfkcehaaGreatDoorQC24
import Derived.OwnWalkIn
set_option linter.unusedVariables false
set_option linter.unusedSimpArgs false
set_option linter.unusedSectionVars false
set_option maxRecDepth 100000
set_option maxHeartbeats 4000000
namespace Go.Proofs.YtkfhgifhfkcehaaGreatDoor
open Go.Maps Go.RowKit
section
attribute [local irreducible] xL
attribute [local go_sem] Oper.semAt_some
theorem l_runs {w:World} {a1 a2:Option Addr} {n1 n2 c1 c2:Nat} {most:Int}:Calls Tryz.prog 101 #[.agg #[.slice a1 n1 c1,.slice a2 n2 c2],.int .i64 most] w fun e w'=>e=.returned (.func (.func 142) #[] #[.pointer (some ⟨w.heap.size,0,none⟩),.pointer (some ⟨w.heap.size+1,0,none⟩)])/\
  w'=(w.alloc (.cells #[.slice a1 n1 c1,.slice a2 n2 c2] 37)).alloc (.cells #[.int .i64 most] 3):=by
 go_enter Tryz.func101,Tryz.ntmps101;go_wp2;go_ret;exact⟨rfl,rfl⟩
def HandR (ev:Value) (_:Nat->Prop) (i:Nat) (_:World) (_:Nat) (args:Array Value):Prop:=∃(y:Bool) (a:Option Addr) (n c:Nat) (k:Int) (er:Value),args=#[.int .i64 i,.agg #[.bool y,.slice a n c,.int .i64 k,er]]/\(er=.nilIface/\y=true\/er=ev)
def GoesR (args:Array Value):Prop:=∃(x:Value) (y:Bool) (a:Option Addr) (n c:Nat) (k:Int),args=#[x,.agg #[.bool y,.slice a n c,.int .i64 k,.nilIface]]
def PartOk (os:List Ob) (es:List Ev):Prop:=∀n,n<=es.length->∃A,Fed (es.take n) A/\A.length<=12/\(∀s ∈ A,∀d ∈ s.deeds,DdR os.length d)/\(gmOf 3 A).Ends (0,os.map (·.init))
theorem r_iter (w0:World) (E:Nat->Prop) (Gd:World->Prop) (p1 p2 most:Nat) (os:List Ob) (es:List Ev) (ov vv:Value) {t0:TypeId} {v0:Value} (hmo:1<=most/\most<=65536) (hne:os≠[]) (hr:RegOk os) (hel:es.length<=400) (hol:os.length<=100000) (hes:∀e ∈ es,EvOk os.length e) (hpart:PartOk os es)
  (hgl:∀A,Gd A->xa A/\PowAt A/\ErrAt 15 A/\0 < A.heap.size/\A.cell? ⟨0,0,none⟩=some (.iface t0 v0))
  (hE:∀k,E k->k < w0.heap.size) (hE1:¬E p1) (hE2:¬E p2) (r1:w0.heap[p1]?=some (.cells #[ov,vv] 37 (0,0))) (r2:w0.heap[p2]?=some (.cells #[.int .i64 most] 3 (0,0)))
  (ho:Sl w0 w0.heap.size 2 ov os.length (os.flatMap Ob.cells)) (hv:Sl w0 w0.heap.size 8 vv es.length (es.flatMap Ev.cells)):
  IterC Tryz.prog MStep (Lb w0.heap.size E) (fun _=>True) GoesR 142 #[.pointer (some ⟨p1,0,none⟩),.pointer (some ⟨p2,0,none⟩)] 3
   (fun W=>Below w0.heap.size w0 W) Gd (HandR (.iface t0 v0)) (es.length+1):=by
 intro l J Jx W hP hGd hJ hJx hY h0;obtain⟨a1,c1,rfl,m1⟩:=ho.ex;obtain⟨a2,c2,rfl,m2⟩:=hv.ex;have b0:Below W.heap.size W (W.alloc (.cells #[.func (.yield l) #[] #[]] 267)):=(Below.refl _ W).alloc (Nat.le_refl _) _;have q0:=qy W (.cells #[.func (.yield l) #[] #[]] 267);have k1:=qp (qp r1 hP (qh r1)) b0 (by have:=qh r1;have:=hP.size;omega);have y:=qg k1;have y0:=y 0;have y1:=y 1;simp at y0 y1;have l1:=qh k1;have hW0:=hP.size;have CP:=qj (c_Prefixes (.slice a1 os.length c1) (.slice a2 es.length c2) os es _ (((ho.below hP).more hP.size |>.below b0).more b0.size) (((hv.below hP).more hP.size |>.below b0).more b0.size) hol (by omega));have HP:=qj hP;have B0:=qj b0;have Q0:=qj q0;have HGd:=qj hGd;have HJ:=qj hJ;have HJx:=qj hJx;have HY:=qj hY;have H0:=qj h0;have HR2:=qj r2;have HPART:=qj hpart;have HGL:=qj hgl;have HES:=qj hes;have HE:=qj hE;have HR:=qj hr;have HNE:=qj hne;clear hP b0 q0 k1 y hGd hJ hJx hY h0 r1 r2 ho hv hpart hgl hes hE hr hne;refine callsIn_of_wp_marks Tryz.func142 rfl trivial ?_ rfl;simp only[Tryz.ntmps142,List.size_toArray,List.length_cons,List.length_nil,Nat.reduceAdd,Nat.reduceSub,Array.replicate_succ,Array.replicate_zero,List.push_toArray,List.append_toArray,List.nil_append,List.cons_append];gi_wp2_with fail;refine⟨trivial,(callsIn_wide.2 CP.o).mono ?_⟩;rintro e w1 ⟨rfl,hH,b1⟩;simp only[World.size_alloc] at hH b1;have B1:=qj (B0.o.trans (b1.mono (Nat.le_succ _)));have Q1:=qj (qp Q0.o b1 (Nat.lt_succ_self _));have R21:=qj (qp (qp HR2.o HP.o (qh HR2.o)) B1.o (by have:=qh HR2.o;omega));have hz1:W.heap.size+1<=w1.heap.size:=by have:=b1.size;rwa [World.size_alloc] at this
 have HH:=qj hH;obtain⟨E',hE'⟩:∃E':Nat->Prop,Hid (E'=fun k=>E k\/w0.heap.size<=k/\k < W.heap.size):=⟨_,qj rfl⟩
 have hEb:∀k,E' k->k < W.heap.size+1:=by
  rw[hE'.o];rintro k (h|h)
  ·have:=HE.o k h;omega
  ·omega
 have CI:=c_iter 2 w1 E' (W.heap.size+1) (W.heap.size+1) os es hol (by omega) hH (Nat.le_refl _) hEb;have l2:=qh HR2.o;clear hH b1 CP B0 Q0 y0 y1 l1;gi_wp2_with fail;obtain⟨qs,hqs⟩:∃qs:Nat->Prop,Hid (qs=fun k=>k=w1.heap.size\/k=w1.heap.size+1):=⟨_,qj rfl⟩
 have hqW:∀k,qs k->W.heap.size<=k:=by rw[hqs.o];rintro k (rfl|rfl) <;> omega
 have hI:∀(q:Nat->Prop) (i:Nat) (A B:World),(q=fun _=>False)->(J qs i A/\w1.heap.size<=A.heap.size/\A.heap[W.heap.size]?=some (.cells #[.func (.yield l) #[] #[]] 267 (0,0))/\A.heap[p2]?=some (.cells #[.int .i64 most] 3 (0,0)))->w1.heap.size<=A.heap.size->Below w1.heap.size A B->(∀k,k < A.heap.size->k≠w1.heap.size+1->¬q k->B.heap[k]?=A.heap[k]?)->
   J qs i B/\w1.heap.size<=B.heap.size/\B.heap[W.heap.size]?=some (.cells #[.func (.yield l) #[] #[]] 267 (0,0))/\B.heap[p2]?=some (.cells #[.int .i64 most] 3 (0,0)):=by
  rintro q i A B rfl ⟨h1,h2,h3,h4⟩ hs hb he;exact⟨HJ.o qs i A B trivial h1 (by omega) (hb.mono (by omega)) (fun k hk hq=>he k hk (fun e=>hq (by rw[hqs.o];exact .inr e)) (fun h=>h)),Nat.le_trans h2 hb.size,(he _ (qh h3) (by omega) (fun h=>h)).trans h3,(he _ (qh h4) (by omega) (fun h=>h)).trans h4⟩
 have hIx:∀(q:Nat->Prop) (c:Code) (i:Nat) (A B:World),(q=fun _=>False)->(c=.ret/\Jx qs i A/\w1.heap.size<=A.heap.size)->w1.heap.size<=A.heap.size->Below w1.heap.size A B->(∀k,k < A.heap.size->k≠w1.heap.size+1->¬q k->B.heap[k]?=A.heap[k]?)->c=.ret/\Jx qs i B/\w1.heap.size<=B.heap.size:=by
  rintro q c i A B rfl ⟨rfl,h1,h2⟩ hs hb he;exact⟨rfl,HJx.o qs i A B trivial h1 (by omega) (hb.mono (by omega)) (fun k hk hq=>he k hk (fun e=>hq (by rw[hqs.o];exact .inr e)) (fun h=>h)),Nat.le_trans h2 hb.size⟩
 refine wpIn_range_ownC (M:=MStep) (L:=Lb w1.heap.size E') (Qs:=fun q=>q=fun _=>False) (G:=fun _=>True) (m:=2) (gf:=189) (N:=es.length+1) (H:=HandX os es) rfl (enters_of Tryz.func189 (by kernel_rfl) rfl) (fun _ h=>h.1) CI (fun _ i W hb args h=>by obtain⟨_,_,rfl,-⟩:=h;rfl)
  (fun _ i A=>J qs i A/\w1.heap.size<=A.heap.size/\A.heap[W.heap.size]?=some (.cells #[.func (.yield l) #[] #[]] 267 (0,0))/\A.heap[p2]?=some (.cells #[.int .i64 most] 3 (0,0))) (fun _ c i A=>c=.ret/\Jx qs i A/\w1.heap.size<=A.heap.size) hI hIx (fun _ _ _ _ _=>trivial)
  (fun q hq hq2=>⟨HJ.o qs 0 W w1 trivial (H0.o qs trivial hqW) (Nat.le_refl _) B1.o (fun k hk _=>B1.o.block k hk),Nat.le_refl _,Q1.o,R21.o⟩) (fun W hW=>hW) (fun r h=>by obtain⟨_,_,h⟩:=h;cases h) (fun r h=>by obtain⟨_,_,h⟩:=h;cases h) ?_ ?_ ?_
 ·rintro q i W1 hb args hi rfl hIi hq hlo hhi ⟨ov',vv',rfl,o',v'⟩
  obtain⟨a3,c3,rfl⟩:=qq.slv o';obtain⟨a4,c4,rfl⟩:=qq.slv v';have hti:(es.take i).length=i:=by rw[List.length_take];omega
  rw[hti] at v' ⊢;clear hti;gi_wp2_with fail;refine⟨(Below.refl _ _).alloc (Nat.le_refl _) _,?_⟩;intro w2 z2 k2 b2;have bf:Below w1.heap.size W1 w2:=((Below.refl w1.heap.size W1).alloc (by omega) _).trans b2;have kf:∀k,k < W1.heap.size->k≠w1.heap.size+1->w2.heap[k]?=W1.heap[k]?:=fun k hk hn=>(k2 k hn).trans (Below.heap_alloc _ _ _ (by omega));obtain⟨hJ2,hs2,q2,r22⟩:=hI _ i W1 w2 rfl hIi (by omega) bf fun k hk hn _=>kf k hk hn;have o2:=qq.fr (S:=fun k=>k=w1.heap.size+1) o' ⟨bf.mono (Nat.zero_le _),kf⟩ fun k hk e=>by have:=(qq.lt o' k hk).1;omega
  have v2:=qq.fr (S:=fun k=>k=w1.heap.size+1) v' ⟨bf.mono (Nat.zero_le _),kf⟩ fun k hk e=>by have:=(qq.lt v' k hk).1;omega
  have r9:w2.heap[W1.heap.size]?=some (.cells #[.slice a3 os.length c3,.slice a4 i c4] 37 (0,0)):=(k2 _ (by omega)).trans (qy W1 _);have l9:=qh r9;generalize W1.heap.size=p9 at *;have y:=qg r9;have y0:=y 0;have y1:=y 1;have y2:=qg r22 0;have y3:=qg q2 0;simp at y0 y1 y2 y3;have l2':=qh r22;have l3':=qh q2;obtain⟨gW,gP,gA,gB1,gB2⟩:=HGL.o w2 (HGd.o qs i w2 trivial hJ2);obtain⟨A,hfed,hA12,hdd,hends⟩:=HPART.o i (by omega);have SR:=qj (s_Run 3 (.inr (.inr rfl)) most hmo _ _ os (es.take i) A w2 (qq.sl o2) (qq.sl v2) HNE.o HR.o (by rw[List.length_take];omega) (fun e he=>HES.o e (List.mem_of_mem_take he)) gW hfed hA12 gP gA ⟨gB1,gB2⟩ hdd hends);have HJ2:=qj hJ2;have HQ2:=qj q2;have HR22:=qj r22;have HI:=qj hI;clear z2 k2 b2 bf kf hIi o2 v2 o' v' r9 y gW gP gA gB1 gB2 hfed hA12 hdd hends hJ2 q2 r22 hI hIx CI;gi_wp2_with fail;refine⟨trivial,(callsIn_wide.2 SR.o).mono ?_⟩;rintro e w3 ⟨yb,a5,n5,c5,k5,er,rfl,her,b3⟩;have HER:=qj her;have B3:=qj b3;have hs3:w1.heap.size<=w3.heap.size:=Nat.le_trans hs2 b3.size;have q3:=qg (qp HQ2.o b3 l3') 0;simp at q3;have l3'':W.heap.size < w3.heap.size:=by omega
  have HSH:=qj (show er=.nilIface\/∃t v,er=.iface t v from her.elim (fun h=>.inl h.1) fun h=>.inr ⟨_,_,h⟩);have b4:Below w2.heap.size w2 (w3.alloc (.cells #[.bool yb,.slice a5 n5 c5,.int .i64 k5] 68)):=b3.alloc b3.size _;have B4:=qj b4;have hs4:=b4.size;have J4:=HJ.o qs i w2 _ trivial HJ2.o (by omega) (b4.mono (by omega)) fun k hk _=>b4.block k hk;have hqs2:∀k,qs k->W.heap.size<=k/\k < (w3.alloc (.cells #[.bool yb,.slice a5 n5 c5,.int .i64 k5] 68)).heap.size:=fun k hk=>⟨hqW k hk,by
   rw[hqs.o] at hk;have h2:w1.heap.size+2<=w2.heap.size:=by omega
   rcases hk with rfl|rfl <;> omega⟩
  obtain⟨fn,tmps,assign,body,hy,hR⟩:=HY.o qs i _ _ #[.int .i64 i,.agg #[.bool yb,.slice a5 n5 c5,.int .i64 k5,er]] hi trivial J4 hqs2 (by omega) (Nat.le_refl _) ⟨yb,a5,n5,c5,k5,er,rfl,her⟩;have KMf:=qj (show ∀W3,xM MStep (Lb w0.heap.size E) W.heap.size (w3.alloc (.cells #[.bool yb,.slice a5 n5 c5,.int .i64 k5] 68)).heap.size (w3.alloc (.cells #[.bool yb,.slice a5 n5 c5,.int .i64 k5] 68)) W3->xM MStep (Lb w1.heap.size E') w1.heap.size hb w2 W3 from fun W3 hk=>⟨(B4.o.mono (Nat.zero_le _)).trans hk.base,fun k O h1 h2 hO hM=>hk.block k O (by
   rcases h1 with⟨ha,hb'⟩|h
   ·rw [hE'.o] at hb'
    by_cases h0:k < w0.heap.size
    ·exact .inl ⟨h0,fun e=>hb' (.inl e)⟩
    ·exact .inr (Nat.le_of_not_lt fun h=>hb' (.inr ⟨by omega,h⟩))
   ·exact .inr (by omega)) (by omega) ((B4.o.block k (by omega)).trans hO) hM⟩)
  have IRf:=qj (show ∀W3,xM MStep (Lb w0.heap.size E) W.heap.size (w3.alloc (.cells #[.bool yb,.slice a5 n5 c5,.int .i64 k5] 68)).heap.size (w3.alloc (.cells #[.bool yb,.slice a5 n5 c5,.int .i64 k5] 68)) W3->W3.heap[W.heap.size]?=some (.cells #[.func (.yield l) #[] #[]] 267 (0,0))/\W3.heap[p2]?=some (.cells #[.int .i64 most] 3 (0,0)) from fun W3 hk=>⟨hk.block _ _ (.inr (Nat.le_refl _)) (by omega) (qp HQ2.o B4.o l3') (mStep_not (by decide)),hk.block _ _ (.inl ⟨l2,hE2⟩) (by omega) (qp HR22.o B4.o l2') (mStep_not (by decide))⟩);clear SR b3 her y0 y1 y2 y3 J4 hqs2 b4 hqs hqW;rcases HSH.o with rfl|⟨t9,v9,rfl⟩
  ·gi_wp2_with fail
   refine RoundIn.mono ⟨trivial,fun c cs _=>hR.2 c cs (fun d hd=>by cases hd)⟩ ?_;rintro e W3 (⟨rfl,⟨hJ3,hk3⟩,-⟩|⟨rfl,hJx3,hk3⟩)
   ·have K3:=qj (KMf.o W3 hk3)
    have I3:=qj (IRf.o W3 hk3);have Z3:=qj hk3.size;have J3:=qj hJ3;clear hk3 hJ3;gi_wp2_with fail;exact⟨⟨⟨J3.o,by have:=Z3.o;omega,I3.o.1,I3.o.2⟩,K3.o⟩,trivial⟩
   ·have K3:=qj (KMf.o W3 hk3)
    have Z3:=qj hk3.size;have J3:=qj hJx3;clear hk3 hJx3;gi_wp2_with fail;exact⟨⟨rfl,J3.o,by have:=Z3.o;omega⟩,K3.o⟩
  ·gi_wp2_with fail
   refine RoundIn.mono ⟨trivial,fun c cs _=>hR.2 c cs (fun d hd=>by cases hd)⟩ ?_;rintro e W3 (⟨rfl,⟨hJ3,hk3⟩,hG3⟩|⟨rfl,hJx3,hk3⟩)
   ·obtain ⟨x,y,a,n,c,k,hg⟩:=hG3
    simp at hg
   ·have K3:=qj (KMf.o W3 hk3)
    have Z3:=qj hk3.size;have J3:=qj hJx3;clear hk3 hJx3;gi_wp2_with fail;exact⟨⟨rfl,J3.o,by have:=Z3.o;omega⟩,K3.o⟩
 ·rintro q W3 rfl ⟨h1,-,-,-⟩ hz hd
  clear hI hIx CI;gi_wp2_with fail;refine leaves_mark1 hd fun w' hb' he=>LeavesIn.fin (results_none rfl _ _ _) ⟨⟨_,rfl⟩,qs,trivial,.inl (HJ.o qs _ W3 w' trivial h1 (by omega) (hb'.mono (by omega)) fun k hk hq=>he k fun e=>hq (by rw[hqs.o];exact .inl e))⟩
 ·rintro q c i W3 hi0 hiN rfl ⟨rfl,h1,h2⟩ hz hd
  clear hI hIx CI;gi_wp2_with fail;refine leaves_mark1 hd fun w' hb' he=>LeavesIn.fin (results_none rfl _ _ _) ⟨⟨_,rfl⟩,qs,trivial,.inr ⟨i,hi0,hiN,HJx.o qs _ W3 w' trivial h1 (by omega) (hb'.mono (by omega)) fun k hk hq=>he k fun e=>hq (by rw[hqs.o];exact .inl e)⟩⟩
end
section
attribute [local irreducible] xL
attribute [local go_sem] Oper.semAt_some
theorem infoZ:(Tryz.prog.info? 49).map (fun i=>(i.zero,i.size,i.bytes))=some (some (.slice none 0 0),1,24):=by kernel_rfl
theorem wpListIn_appF {α:Type} {f:α->List Value} {e:TypeId} {sz B:Nat} {v:Value} {l:List α} {F:Fence} {n:Nat} {P:Program} {ops:Array Oper} {rest:List Oper} {o:Oper} {a:Act} {Q:Exit->Act->World->Prop} (hgd:o.guard=none) (s x:Operand) (t:TypeId)
  (ho:o.op=.call {callee:=.builtin .append,args:=#[s,x],argTypes:=#[t,t]})
  (z:Value) (bytes:Nat) (ht:P.underlying t=some (.slice e)) (hinfo:(P.info? e).map (fun i=>(i.zero,i.size,i.bytes))=some (some z,sz,bytes))
  (hzs:z.cells.size=sz) {w0:World} (hown:qq f e sz w0 B v l) (y:α) (hbase:B<=w0.heap.size) (hs:a.eval s=v)
  {g0:Nat} (hx:a.eval x=.slice (some ⟨g0,0,none⟩) 1 1) (hg0:g0=w0.heap.size) (hl:(f y).length=sz) (h1:∀u ∈ f y,u.oneCell'=true) (hn:l.length+1<=9223372036854775807) (hby:(l.length+1)*bytes<=140737488355328)
  (hK:∀g cap w',qq f e sz w' B (.slice (some ⟨g,0,none⟩) (l.length+1) cap) (l++[y])->Grw w0 w' v (.slice (some ⟨g,0,none⟩) (l.length+1) cap)->wpListIn F n P ops Q rest (a.put o.dst (.slice (some ⟨g,0,none⟩) (l.length+1) cap)) w'):
  wpListIn F n P ops Q (o::rest) a (w0.alloc (.cells (f y).toArray e)):=by
 subst hg0;obtain⟨i0,hi,hz0,hz1,hz2⟩:=info_parts hinfo;obtain⟨g,cap,w',hr,hown',hgrow,hg⟩:=run_append1 (P:=P) (w0.alloc (.cells (f y).toArray e)) B t o.type e i0 z sz bytes ht hi hz0 hz1 hz2 hzs v l.length (l.flatMap f) (hown.alloc _) _ 1 1 (by omega) (f y) (by simpa using hl)
  (cells_new_add w0 (f y) e) h1 (by unfold maxLen;omega) hby (by simp;omega)
 refine wpListIn_plain hgd fun K hK'=>?_;unfold Oper.wpIn;refine⟨?_,?_⟩
 ·simp [Oper.about,ho,resolve,Target.leads,Sem.run_pure]
 ·rw [Oper.semAt_plain F _ _ (by rw[ho];intro c hc';cases hc')]
  simp[execOp,ho,resolve,invoke,builtin,hs,hx,hr,Result.andThen];refine hK' _ _ (hK g cap w' (by simpa[qq,List.flatMap_append] using hown') ⟨?_,?_⟩)
  ·exact ⟨hgrow.os,hgrow.tape,hgrow.output,Nat.le_trans (by simp) hgrow.size,fun k hk hne=>(hgrow.block k (by simp;omega) hne).trans (Below.heap_alloc w0 _ k hk)⟩
  ·intro k hk
   simp only[Value.ownBlock,Option.some.injEq] at hk;subst hk;rcases hg with hg|hg
   ·right;rw[hg];simp
   ·exact .inl hg
theorem wpIn_rK {n:Nat} {P:Program} {Q:Exit->Act->World->Prop} {l:List Oper} {id rd:Nat} {a:Act} {w:World} (S:Nat->Prop) (ks:List Nat) (t:Tr)
  (hB:(P.follows .mixedOrders&&Region.noSelect l.toArray&&Nat.beq t.len l.length&&checkT l ks t (Array.replicate l.length false)&&RN.noDefer l)=true) (h:yp (RK.KeepsN S) P Q l ks t a w.drew):(Code.region id l.toArray true).wpIn (Fence.wide.inRound rd) n P Q a w:=by
 simp only[Bool.and_eq_true] at hB;obtain⟨⟨⟨⟨hm,hs⟩,hn⟩,hB⟩,hd⟩:=hB;refine wpIn_region_any hm (RN.wpAnyIn_of_X (R:=RK.KeepsN S) (kd:=fun i=>ks.getD i 2) rd (RN.noDefer_ne hd) _ _ _ _ ?_);have:=wpT_any hs t (Array.replicate l.length false) a _ (closed_none _) hB h;rw[Nat.eq_of_beq_eq_true hn] at this;simpa using this
theorem max_some (a b:Int):∃c:Int,∀(ts:Array TypeId) (ty:TypeId) (X:World),(Builtin.max_ ts ty #[.int .i64 a,.int .i64 b]).run Tryz.prog X=.ok (.int .i64 c) X:=
 ⟨_,fun ts ty X=>by rw[run_max_int2]⟩
abbrev z5 (W:World) (p:Nat):World:=((((W.setCell ⟨p,0,none⟩ (.bool false)).setCell ⟨p,1,none⟩ (.slice none 0 0)).setCell ⟨p,2,none⟩ (.slice none 0 0)).setCell ⟨p,3,none⟩ (.int .i64 0)).setCell ⟨p,4,none⟩ (.int .i64 0)
theorem z5_row {W:World} {p:Nat} (h:W.heap[p]?=some (.cells #[.bool false,.slice none 0 0,.slice none 0 0,.int .i64 0,.int .i64 0] 75 (0,0))):(z5 W p).heap[p]?=some (.cells #[.bool false,.slice none 0 0,.slice none 0 0,.int .i64 0,.int .i64 0] 75 (0,0)):=by
 simpa using qB (qB (qB (qB (qB h 0 (.bool false)) 1 (.slice none 0 0)) 2 (.slice none 0 0)) 3 (.int .i64 0)) 4 (.int .i64 0)
theorem z5_other {W:World} {p k:Nat} (h:k≠p):(z5 W p).heap[k]?=W.heap[k]?:=
 (Below.heap_setCell _ _ _ _ h).trans ((Below.heap_setCell _ _ _ _ h).trans ((Below.heap_setCell _ _ _ _ h).trans ((Below.heap_setCell _ _ _ _ h).trans (Below.heap_setCell _ _ _ _ h))))
theorem z5_below {N:Nat} {W0 W:World} {p:Nat} (h:Below N W0 W) (hp:N<=p):Below N W0 (z5 W p):=
 ((((h.setCell (p:=⟨p,0,none⟩) hp _).setCell (p:=⟨p,1,none⟩) hp _).setCell (p:=⟨p,2,none⟩) hp _).setCell (p:=⟨p,3,none⟩) hp _).setCell (p:=⟨p,4,none⟩) hp _
structure VerI (w:World) (bv D:Nat) (q:Nat->Prop) (i:Nat) (A:World):Prop where
 box:∃(k:Int) (lv:Value) (L:List Value),A.heap[bv]?=some (.cells #[.bool true,.slice none 0 0,lv,.int .i64 0,.int .i64 k] 75 (0,0))/\qq yz 49 1 A bv lv L/\L.length=i/\∀k,lv.ownBlock=some k->k≠D/\¬q k
 r0:A.heap[w.heap.size+1]?=some (.cells #[.bool false,.slice none 0 0,.slice none 0 0,.int .i64 0,.int .i64 0] 75 (0,0))
 r1:A.heap[w.heap.size+1+1]?=some (.cells #[.nilIface] 30 (0,0))
 bel:Below w.heap.size w A
 apart:∀k,q k->bv < k
structure VerX (w:World) (ev:Value) (bv:Nat) (q:Nat->Prop) (A:World):Prop where
 r0:A.heap[w.heap.size+1]?=some (.cells #[.bool false,.slice none 0 0,.slice none 0 0,.int .i64 0,.int .i64 0] 75 (0,0))
 r1:A.heap[w.heap.size+1+1]?=some (.cells #[ev] 30 (0,0))
 bel:Below w.heap.size w A
 apart:∀k,q k->bv < k
def VerPost (w:World) (ev:Value) (e:Ending) (w':World):Prop:=∃(y:Bool) (a:Option Addr) (n c:Nat) (p k:Int) (er:Value),e=.returned (.tuple #[.agg #[.bool y,.slice none 0 0,.slice a n c,.int .i64 p,.int .i64 k],er])/\(er=.nilIface/\y=true\/er=ev)/\Below w.heap.size w w'
theorem l_opaque (most:Nat) (hmo:1<=most/\most<=65536) (ov vv:Value) (os:List Ob) (es:List Ev) (A:Au) (w:World) (ho:Sl w w.heap.size 2 ov os.length (os.flatMap Ob.cells)) (he:Sl w w.heap.size 8 vv es.length (es.flatMap Ev.cells)) (hne:os≠[]) (hr:RegOk os) (hel:es.length<=400) (hes:∀e ∈ es,EvOk os.length e) (hW:xa w) (hF:Fed es A) (hA:A.length<=12)
  (hP:PowAt w) (hEa:ErrAt 15 w) {t0:TypeId} {v0:Value} (hEb:0 < w.heap.size/\w.cell? ⟨0,0,none⟩=some (.iface t0 v0)) (hpart:PartOk os es):
  Calls Tryz.prog 53 #[.agg #[ov,vv],.int .i64 most] w (VerPost w (.iface t0 v0)):=by
 obtain⟨ao,co,rfl,mo⟩:=ho.ex;obtain⟨ae,ce,rfl,me⟩:=he.ex;obtain⟨hm1,hm2⟩:=hmo;have q1:decide ((most:Int) < 1)=false:=by simp;omega
 have q2:decide ((most:Int) > 65536)=false:=by simp;omega
 have q2':decide (65536 < (most:Int))=false:=by simp;omega
 have q3:decide ((A.length:Int) > 12)=false:=by simp;omega
 have q3':decide (12 < (A.length:Int))=false:=by simp;omega
 have b0:Below w.heap.size w (((w.alloc (.cells #[.slice ao os.length co,.slice ae es.length ce] 37)).alloc (.cells #[.bool false,.slice none 0 0,.slice none 0 0,.int .i64 0,.int .i64 0] 75)).alloc (.cells #[.nilIface] 30)):=(((Below.refl _ w).alloc (Nat.le_refl _) _).alloc (by simp) _).alloc (by simp;omega) _;have z0:(((w.alloc (.cells #[.slice ao os.length co,.slice ae es.length ce] 37)).alloc (.cells #[.bool false,.slice none 0 0,.slice none 0 0,.int .i64 0,.int .i64 0] 75)).alloc (.cells #[.nilIface] 30)).heap.size=w.heap.size+3:=by simp
 have r0:=qF (o:=.cells #[.nilIface] 30) (qF (o:=.cells #[.bool false,.slice none 0 0,.slice none 0 0,.int .i64 0,.int .i64 0] 75) (qy w (.cells #[.slice ao os.length co,.slice ae es.length ce] 37)));have r1:=qF (o:=.cells #[.nilIface] 30) (qy (w.alloc (.cells #[.slice ao os.length co,.slice ae es.length ce] 37)) (.cells #[.bool false,.slice none 0 0,.slice none 0 0,.int .i64 0,.int .i64 0] 75));have r2:=qy ((w.alloc (.cells #[.slice ao os.length co,.slice ae es.length ce] 37)).alloc (.cells #[.bool false,.slice none 0 0,.slice none 0 0,.int .i64 0,.int .i64 0] 75)) (.cells #[.nilIface] 30);simp only[World.size_alloc] at r1 r2;have B0:=qj b0;have R0:=qj r0;have R1:=qj r1;have R2:=qj r2;have Z0:=qj z0;have HO:=qj ho;have HV:=qj he;have HR:=qj hr;have HNE:=qj hne;have HES:=qj hes;have HW:=qj hW;have HP:=qj hP;have HEA:=qj hEa;have HEB:=qj hEb;have HPART:=qj hpart;have HFED:=qj hF;clear b0 r0 r1 r2 z0 ho he hr hne hes hW hP hEa hEb hpart hF;refine(callsIn_wide (n:=3+2)).1 ?_;refine callsIn_of_wp_marks Tryz.func53 rfl trivial ?_ rfl;simp only[Tryz.ntmps53,List.size_toArray,List.length_cons,List.length_nil,Nat.reduceAdd,Nat.reduceSub,Array.replicate_succ,Array.replicate_zero,List.push_toArray,List.append_toArray,List.nil_append,List.cons_append];gi_wp2_with fail;obtain⟨W,hW0⟩:∃W,W=(((w.alloc (.cells #[.slice ao os.length co,.slice ae es.length ce] 37)).alloc (.cells #[.bool false,.slice none 0 0,.slice none 0 0,.int .i64 0,.int .i64 0] 75)).alloc (.cells #[.nilIface] 30)):=⟨_,rfl⟩
 rw[←hW0] at B0 R0 R1 R2 Z0 ⊢;clear hW0;have TB:=qj (sh_Table _ _ os es A W ((HO.o.below B0.o).more B0.o.size) ((HV.o.below B0.o).more B0.o.size) HNE.o HR.o hel HES.o (HW.o.below B0.o) HFED.o);refine⟨trivial,(callsIn_wide.2 TB.o).mono ?_⟩;rintro e w1 ⟨tv,rfl,⟨rs,hrs,hrl,-⟩,b1⟩;obtain⟨a9,c9,rfl⟩:=qq.slv hrs;have q3:decide ((rs.length:Int) > 12)=false:=by simp;omega
 have q3':decide (12 < (rs.length:Int))=false:=by simp;omega
 have hz1:=b1.size;have R0:=qj (qp R0.o b1 (qh R0.o));have R1:=qj (qp R1.o b1 (qh R1.o));have R2:=qj (qp R2.o b1 (qh R2.o));have B1:=qj (B0.o.trans (b1.mono B0.o.size));have y:=qg R0.o;have y0:=y 0;have y1:=y 1;simp at y0 y1;have yl:=qh R0.o;clear y TB b1 hrs hrl;gi_wp2_with fail;refine⟨trivial,(callsIn_wide.2 l_runs).mono ?_⟩;rintro e w2 ⟨rfl,rfl⟩;have bq:Below w1.heap.size w1 (((w1.alloc (.cells #[.bool true,.slice none 0 0,.slice none 0 0,.int .i64 0,.int .i64 0] 75)).alloc (.cells #[.slice ao os.length co,.slice ae es.length ce] 37)).alloc (.cells #[.int .i64 most] 3)):=(((Below.refl _ w1).alloc (Nat.le_refl _) _).alloc (by simp) _).alloc (by simp;omega) _;have zq:(((w1.alloc (.cells #[.bool true,.slice none 0 0,.slice none 0 0,.int .i64 0,.int .i64 0] 75)).alloc (.cells #[.slice ao os.length co,.slice ae es.length ce] 37)).alloc (.cells #[.int .i64 most] 3)).heap.size=w1.heap.size+3:=by simp
 have s0:=qF (o:=.cells #[.int .i64 most] 3) (qF (o:=.cells #[.slice ao os.length co,.slice ae es.length ce] 37) (qy w1 (.cells #[.bool true,.slice none 0 0,.slice none 0 0,.int .i64 0,.int .i64 0] 75)));have s1:=qF (o:=.cells #[.int .i64 most] 3) (qy (w1.alloc (.cells #[.bool true,.slice none 0 0,.slice none 0 0,.int .i64 0,.int .i64 0] 75)) (.cells #[.slice ao os.length co,.slice ae es.length ce] 37));have s2:=qy ((w1.alloc (.cells #[.bool true,.slice none 0 0,.slice none 0 0,.int .i64 0,.int .i64 0] 75)).alloc (.cells #[.slice ao os.length co,.slice ae es.length ce] 37)) (.cells #[.int .i64 most] 3);simp only[World.size_alloc] at s1 s2;have BQ:=qj bq;have ZQ:=qj zq;have S0:=qj s0;have S1:=qj s1;have S2:=qj s2;clear bq zq s0 s1 s2 y0 y1 yl;gi_wp2_with fail;generalize ((w1.alloc (.cells #[.bool true,.slice none 0 0,.slice none 0 0,.int .i64 0,.int .i64 0] 75)).alloc (.cells #[.slice ao os.length co,.slice ae es.length ce] 37)).alloc (.cells #[.int .i64 most] 3)=wq at *;have hzq:wq.heap.size<=w1.heap.size+3/\w1.heap.size+3<=wq.heap.size:=⟨by rw[ZQ.o];exact Nat.le_refl _,by rw[ZQ.o];exact Nat.le_refl _⟩
 have hzw:w.heap.size+3<=w1.heap.size:=by have:=Z0.o;omega
 have bw:Below w.heap.size w wq:=B1.o.trans (BQ.o.mono (by omega));have t0':=qp R1.o BQ.o (qh R1.o);have t1':=qp R2.o BQ.o (qh R2.o);have hne2:w1.heap.size+1+1≠w.heap.size+1:=by omega
 have IT:=qj (r_iter wq (fun k=>k=w1.heap.size\/k=w.heap.size+1\/k=w.heap.size+1+1) (fun A=>Below w.heap.size w A) (w1.heap.size+1) (w1.heap.size+1+1) most os es _ _ ⟨hm1,hm2⟩ HNE.o HR.o hel (by have:=HR.o.1;omega) HES.o HPART.o
  (fun A hA=>⟨HW.o.below hA,HP.o.below hA,HEA.o.below hA,by have:=hA.size;have:=HEB.o.1;omega,qu hA HEB.o.1 HEB.o.2⟩)
  (by rintro k (rfl|rfl|rfl) <;> omega) (by rintro(h|h|h) <;> omega) (by rintro(h|h|h) <;> omega) S1.o S2.o ((HO.o.below bw).more bw.size) ((HV.o.below bw).more bw.size))
 have hI:∀(q:Nat->Prop) (i:Nat) (A B:World),True->VerI w w1.heap.size (wq.heap.size+1) q i A->wq.heap.size<=A.heap.size->Below wq.heap.size A B->(∀k,k < A.heap.size->k≠wq.heap.size+1->¬q k->B.heap[k]?=A.heap[k]?)->VerI w w1.heap.size (wq.heap.size+1) q i B:=by
  rintro q i A B - ⟨⟨k,lv,L,h1,h2,h3,h4⟩,h5,h6,h7,h8⟩ hs hb he;have nq:∀j,j<=w1.heap.size->¬q j:=fun j hj e=>by have:=h8 j e;omega
  exact⟨⟨k,lv,L,(he _ (qh h1) (by omega) (nq _ (Nat.le_refl _))).trans h1,qq.fr (S:=fun k=>k=wq.heap.size+1\/q k) h2 ⟨hb.mono (Nat.zero_le _),fun k hk hn=>he k hk (fun e=>hn (.inl e)) (fun e=>hn (.inr e))⟩ fun k hk hn=>hn.elim (h4 k hk).1 (h4 k hk).2,h3,h4⟩,
   (he _ (qh h5) (by omega) (nq _ (by omega))).trans h5,(he _ (qh h6) (by omega) (nq _ (by omega))).trans h6,h7.trans (hb.mono (by omega)),h8⟩
 have hIx:∀(q:Nat->Prop) (c:Code) (i:Nat) (A B:World),True->(c=.ret/\VerX w (.iface t0 v0) w1.heap.size q A)->wq.heap.size<=A.heap.size->Below wq.heap.size A B->(∀k,k < A.heap.size->k≠wq.heap.size+1->¬q k->B.heap[k]?=A.heap[k]?)->c=.ret/\VerX w (.iface t0 v0) w1.heap.size q B:=by
  rintro q c i A B - ⟨rfl,h5,h6,h7,h8⟩ hs hb he;have nq:∀j,j<=w1.heap.size->¬q j:=fun j hj e=>by have:=h8 j e;omega
  exact⟨rfl,(he _ (qh h5) (by omega) (nq _ (by omega))).trans h5,(he _ (qh h6) (by omega) (nq _ (by omega))).trans h6,h7.trans (hb.mono (by omega)),h8⟩
 have S0':=S0.o;refine wpIn_range_ownC (M:=MStep) (L:=Lb wq.heap.size fun k=>k=w1.heap.size\/k=w.heap.size+1\/k=w.heap.size+1+1) (Qs:=fun _=>True) (G:=GoesR) (m:=3) (gf:=142) (N:=es.length+1) (H:=HandR (.iface t0 v0)) rfl (enters_of Tryz.func142 (by kernel_rfl) rfl) (fun _ h=>h.1) IT.o (fun _ i W hb args h=>by obtain⟨_,_,_,_,_,_,rfl,-⟩:=h;rfl)
  (VerI w w1.heap.size (wq.heap.size+1)) (fun q c i A=>c=.ret/\VerX w (.iface t0 v0) w1.heap.size q A) hI hIx (fun q i A _ h=>h.bel) (fun q _ hq=>⟨⟨0,.slice none 0 0,[],S0',qq.nil _ _,rfl,fun k e=>by cases e⟩,t0',t1',bw,fun k hk=>by have:=hq k hk;omega⟩) (fun W hW=>hW) (fun r h=>by obtain⟨_,_,h⟩:=h;cases h) (fun r h=>by obtain⟨_,_,h⟩:=h;cases h) ?_ ?_ ?_
 ·rintro q i W1 hb args hi - hIi hq hlo hhi ⟨yb,a,n,c,k,er,rfl,her⟩
  clear IT;rcases her with⟨rfl,rfl⟩|rfl
  ·gi_wp2_with fail
   refine⟨(Below.refl _ _).alloc (Nat.le_refl _) _,?_⟩;intro w2 z2 k2 b2;have bf:Below wq.heap.size W1 w2:=((Below.refl wq.heap.size W1).alloc (by omega) _).trans b2;have kf:∀k,k < W1.heap.size->k≠wq.heap.size+1->w2.heap[k]?=W1.heap[k]?:=fun k hk hn=>(k2 k hn).trans (Below.heap_alloc _ _ _ (by omega));obtain⟨⟨kk,lv,L,h1,h2,h3,h4⟩,h5,h6,h7,h8⟩:=hI q i W1 w2 trivial hIi (by omega) bf fun k hk hn _=>kf k hk hn;have r9:w2.heap[W1.heap.size]?=some (.cells #[.bool true,.slice a n c,.int .i64 k,.nilIface] 204 (0,0)):=(k2 _ (by omega)).trans (qy W1 _);have z9:w2.heap.size=W1.heap.size+1:=by rw[z2];simp
   obtain⟨al,cl,rfl⟩:=qq.slv h2;obtain⟨km,hmax⟩:=max_some kk k;generalize hp9:W1.heap.size=p9 at *;have y:=qg r9;have y0:=y 0;have y1:=y 1;have y2:=y 2;have y3:=y 3;have x:=qg h1;have x2:=x 2;have x4:=x 4;simp at y0 y1 y2 y3 x2 x4;have yl:=qh r9;have xl:=qh h1;have xf2:=qx h1 2;have xf4:=qx h1 4;have rT:=qB h1 4 (.int .i64 km);have oT:=qq.other (j:=4) h2 (qq.neT h2 h1 (by decide)) (.int .i64 km);have hLm:L.length<=500:=by omega
   have hbs:w1.heap.size<=(w2.setCell ⟨w1.heap.size,4,none⟩ (.int .i64 km)).heap.size:=by simp;omega
   have H1:=qj h1;have H2:=qj h2;have H3:=qj h3;have H4:=qj h4;have H5:=qj h5;have H6:=qj h6;have H7:=qj h7;have H8:=qj h8;have R9:=qj r9;have Z9:=qj z9;have BF:=qj bf;have KF:=qj kf;have HI:=qj hI;clear y x h1 h2 h3 h4 h5 h6 h7 h8 r9 z9 z2 k2 b2 bf kf hI hIx hIi;gi_wp2_with (gi_at_builtin;refine wpListIn_appF rfl _ _ _ rfl _ 24 Tryz.underlying73 infoZ rfl oT (.slice a n c) hbs (by rfl) (by rfl) (by first|rfl|simp) rfl (val_one _) (by omega) (by omega) ?_;refine xt.halt ?_)
   refine xt.go ?_;intro g1 c1 w4 o4 G4;have rT':(w2.setCell ⟨w1.heap.size,4,none⟩ (.int .i64 km)).heap[w1.heap.size]?=some (.cells #[.bool true,.slice none 0 0,.slice al L.length cl,.int .i64 0,.int .i64 km] 75 (0,0)):=by simpa using rT
   have neV:(Value.slice al L.length cl).ownBlock≠some w1.heap.size:=qq.neT oT rT' (by decide);have r4:=qQ rT' G4 neV;have x:=qg r4 2;simp at x;have xf:=qx r4 2;have xl4:=qh r4;have oF:=qj (qq.other (j:=2) o4 (qq.neT o4 r4 (by decide)) (.slice (some ⟨g1,0,none⟩) (L.length+1) c1));have rF:=qj (qB r4 2 (.slice (some ⟨g1,0,none⟩) (L.length+1) c1));have gk:=qj (show ∀(k:Nat) (O:Obj),k≠w1.heap.size->(Value.slice al L.length cl).ownBlock≠some k->w2.heap[k]?=some O->(w4.setCell ⟨w1.heap.size,2,none⟩ (.slice (some ⟨g1,0,none⟩) (L.length+1) c1)).heap[k]?=some O from fun k O hk hn hO=>
    (Below.heap_setCell _ _ _ _ hk).trans ((G4.grown.block k (by have:=qh hO;simp;omega) (fun e=>hn e.symm)).trans ((Below.heap_setCell _ _ _ _ hk).trans hO)))
   have bF:=qj (((H7.o.setCell (p:=⟨w1.heap.size,4,none⟩) (show w.heap.size<=w1.heap.size by omega) (.int .i64 km)).trans (G4.below (B:=w.heap.size) (by simp;have:=Z9.o;omega) fun j hj=>by have:=(qq.lt oT j hj).1;omega)).setCell (p:=⟨w1.heap.size,2,none⟩) (show w.heap.size<=w1.heap.size by omega) (.slice (some ⟨g1,0,none⟩) (L.length+1) c1));have b0F:=qj (((((Below.refl 0 w2).setCell (p:=⟨w1.heap.size,4,none⟩) (Nat.zero_le _) (.int .i64 km)).trans (G4.below (B:=0) (Nat.zero_le _) fun j hj=>Nat.zero_le _)).setCell (p:=⟨w1.heap.size,2,none⟩) (Nat.zero_le _) (.slice (some ⟨g1,0,none⟩) (L.length+1) c1)));have nF:=qj (show g1≠wq.heap.size+1/\¬q g1 from by
    rcases G4.own g1 rfl with e|e
    ·exact H4.o g1 e
    ·simp at e
     have:=Z9.o;exact⟨by omega,fun h=>by have:=(hq g1 h).2;omega⟩)
   have hT5:=qj (show ∀k:Nat,(Value.slice al L.length cl).ownBlock=some k->∃cs,w2.heap[k]?=some (.cells cs 49 (0,0)) from fun k hk=>qq.keepObj H2.o k hk);clear oT rT rT' neV o4 G4 r4 xl xf2 xf4 x2 x4 y0 y1 y2 y3 yl hmax;gi_wp2_with fail;refine⟨⟨⟨⟨km,_,_,by simpa using rF.o,oF.o,by simp[H3.o],fun k e=>?_⟩,gk.o _ _ (by omega) (fun e=>?_) H5.o,gk.o _ _ (by omega) (fun e=>?_) H6.o,bF.o,H8.o⟩,b0F.o,fun k O hk1 hk2 hO hM=>?_⟩,⟨_,_,_,_,_,_,rfl⟩⟩
   ·cases e;exact nF.o
   ·obtain ⟨cs,h⟩:=hT5.o _ e
    rw[H5.o] at h;cases h
   ·obtain ⟨cs,h⟩:=hT5.o _ e
    rw[H6.o] at h;cases h
   ·refine gk.o k O (fun e=>?_) (fun e=>?_) hO
    ·rcases hk1 with⟨-,h⟩|h
     ·exact h (.inl e)
     ·omega
    ·obtain ⟨cs,h⟩:=hT5.o _ e
     rw[hO] at h;exact hM ⟨_,_,Option.some.inj h⟩
  ·gi_wp2_with fail
   refine⟨(Below.refl _ _).alloc (Nat.le_refl _) _,?_⟩;intro w2 z2 k2 b2;have bf:Below wq.heap.size W1 w2:=((Below.refl wq.heap.size W1).alloc (by omega) _).trans b2;have kf:∀k,k < W1.heap.size->k≠wq.heap.size+1->w2.heap[k]?=W1.heap[k]?:=fun k hk hn=>(k2 k hn).trans (Below.heap_alloc _ _ _ (by omega));obtain⟨-,h5,h6,h7,h8⟩:=hI q i W1 w2 trivial hIi (by omega) bf fun k hk hn _=>kf k hk hn;have r9:w2.heap[W1.heap.size]?=some (.cells #[.bool yb,.slice a n c,.int .i64 k,.iface t0 v0] 204 (0,0)):=(k2 _ (by omega)).trans (qy W1 _);have z9:w2.heap.size=W1.heap.size+1:=by rw[z2];simp
   generalize hp9:W1.heap.size=p9 at *;have y:=qg r9;have y3:=y 3;simp at y3;have yl:=qh r9;have x:=qg h5;have x0:=x 0;have x1:=x 1;have x2:=x 2;have x3:=x 3;have x4:=x 4;have u:=qg h6 0;simp at x0 x1 x2 x3 x4 u;have xl:=qh h5;have ul:=qh h6;have xf:=fun j=>qx h5 j;have uf:=qx h6 0;have H5:=qj h5;have H6:=qj h6;have H7:=qj h7;have H8:=qj h8;have Z9:=qj z9;clear y x h5 h6 h7 h8 z9 r9 z2 k2 b2 bf kf hI hIx hIi;gi_wp2_with fail;refine wpIn_rK (fun k=>k=p9) [0,0,1,3,2] (.fin [0,1,2,3,4]) (by kernel_rfl) ?_;simp only[yp,qP,qD,sD,sE,sF,sG]
   repeat first|(refine qC fun K hK=>?_;go_simp;refine hK _ _ ?_;clear hK K)|(apply qJ;(intro w2 hw2;have hk1:=hw2.cell;have hk3:=hw2.1;clear hw2;go_simp;with_reducible rfl);simp only[Act.put,sA,sB,sC])
   refine qI (fun K hK=>?_);go_simp;refine hK _ _ ⟨by simp,fun k hk=>by rw[hk];exact z5_other (by omega)⟩ ?_;clear hK K;refine qN (fun K hK=>?_);go_simp;refine hK _ _ ?_;clear hK K
   repeat refine qA ?_
   gi_wp2_with fail;obtain⟨X,hX⟩:∃X,X=(((((w2.setCell ⟨w.heap.size+1,0,none⟩ (.bool false)).setCell ⟨w.heap.size+1,1,none⟩ (.slice none 0 0)).setCell ⟨w.heap.size+1,2,none⟩ (.slice none 0 0)).setCell ⟨w.heap.size+1,3,none⟩ (.int .i64 0)).setCell ⟨w.heap.size+1,4,none⟩ (.int .i64 0)).setCell ⟨w.heap.size+1+1,0,none⟩ (.iface t0 v0):=⟨_,rfl⟩
   rw[←hX];have f0:X.heap[w.heap.size+1]?=some (.cells #[.bool false,.slice none 0 0,.slice none 0 0,.int .i64 0,.int .i64 0] 75 (0,0)):=by
    rw[hX];exact(Below.heap_setCell _ _ _ _ (by show w.heap.size+1≠w.heap.size+1+1;omega)).trans (z5_row H5.o)
   have f1:X.heap[w.heap.size+1+1]?=some (.cells #[.iface t0 v0] 30 (0,0)):=by
    rw[hX];simpa using qB ((z5_other (W:=w2) (p:=w.heap.size+1) (k:=w.heap.size+1+1) (by omega)).trans H6.o) 0 (.iface t0 v0)
   have fb:Below w.heap.size w X:=by
    rw[hX];exact(z5_below H7.o (Nat.le_succ _)).setCell (p:=⟨w.heap.size+1+1,0,none⟩) (show w.heap.size<=w.heap.size+1+1 by omega) _
   have fb0:Below 0 w2 X:=by
    rw[hX];exact(z5_below (Below.refl 0 w2) (Nat.zero_le _)).setCell (p:=⟨w.heap.size+1+1,0,none⟩) (Nat.zero_le _) _
   have fo:∀k,k≠w.heap.size+1->k≠w.heap.size+1+1->X.heap[k]?=w2.heap[k]?:=fun k h1 h2=>by
    rw[hX];exact(Below.heap_setCell _ _ _ _ h2).trans (z5_other h1)
   clear hX;refine⟨⟨rfl,f0,f1,fb.drew,H8.o⟩,fb0.drew,fun k O hk1 hk2 hO hM=>?_⟩;refine(fo k ?_ ?_).trans hO
   ·rcases hk1 with⟨-,h⟩|h
    ·exact fun e=>h (.inr (.inl e))
    ·omega
   ·rcases hk1 with⟨-,h⟩|h
    ·exact fun e=>h (.inr (.inr e))
    ·omega
 ·rintro q W3 - ⟨⟨kk,lv,L,h1,h2,h3,h4⟩,h5,h6,h7,h8⟩ hz hd
  obtain⟨al,cl,rfl⟩:=qq.slv h2;have y:=qg h1;have y0:=y 0;have y1:=y 1;have y2:=y 2;have y3:=y 3;have y4:=y 4;simp at y0 y1 y2 y3 y4;have yl:=qh h1;have x:=qg h5;have x0:=x 0;have x1:=x 1;have x2:=x 2;have x3:=x 3;have x4:=x 4;have u:=qg h6 0;simp at x0 x1 x2 x3 x4 u;have xl:=qh h5;have ul:=qh h6;have xf:=fun j=>qx h5 j;have uf:=qx h6 0;have H5:=qj h5;have H6:=qj h6;have H7:=qj h7;have HD:=qj hd;clear y x h1 h2 h3 h4 h5 h6 h7 h8 hd IT hI hIx;gi_wp2_with fail;have k1:=qB (qB (qB (qB (qB H5.o 0 (.bool true)) 1 (.slice none 0 0)) 2 (.slice al L.length cl)) 3 (.int .i64 0)) 4 (.int .i64 kk);have bX:=((((((H7.o.setCell (p:=⟨w.heap.size+1,0,none⟩) (Nat.le_succ _) (.bool true)).setCell (p:=⟨w.heap.size+1,1,none⟩) (Nat.le_succ _) (.slice none 0 0)).setCell (p:=⟨w.heap.size+1,2,none⟩) (Nat.le_succ _) (.slice al L.length cl)).setCell (p:=⟨w.heap.size+1,3,none⟩) (Nat.le_succ _) (.int .i64 0)).setCell (p:=⟨w.heap.size+1,4,none⟩) (Nat.le_succ _) (.int .i64 kk)).setCell (p:=⟨w.heap.size+1+1,0,none⟩) (show w.heap.size<=w.heap.size+1+1 by omega) .nilIface)
  obtain⟨X,hX⟩:∃X,X=((((((W3.setCell ⟨w.heap.size+1,0,none⟩ (.bool true)).setCell ⟨w.heap.size+1,1,none⟩ (.slice none 0 0)).setCell ⟨w.heap.size+1,2,none⟩ (.slice al L.length cl)).setCell ⟨w.heap.size+1,3,none⟩ (.int .i64 0)).setCell ⟨w.heap.size+1,4,none⟩ (.int .i64 kk)).setCell ⟨w.heap.size+1+1,0,none⟩ .nilIface):=⟨_,rfl⟩
  have oth:∀k,k≠w.heap.size+1->k≠w.heap.size+1+1->X.heap[k]?=W3.heap[k]?:=fun k h1 h2=>by
   rw[hX];exact(Below.heap_setCell _ _ _ _ h2).trans ((Below.heap_setCell _ _ _ _ h1).trans ((Below.heap_setCell _ _ _ _ h1).trans ((Below.heap_setCell _ _ _ _ h1).trans ((Below.heap_setCell _ _ _ _ h1).trans (Below.heap_setCell _ _ _ _ h1)))))
  have kd:=(oth wq.heap.size (by omega) (by omega)).trans HD.o;have k1':X.heap[w.heap.size+1]?=some (.cells #[.bool true,.slice none 0 0,.slice al L.length cl,.int .i64 0,.int .i64 kk] 75 (0,0)):=by
   rw[hX];exact(Below.heap_setCell _ _ _ _ (by show w.heap.size+1≠w.heap.size+1+1;omega)).trans (by simpa using k1)
  have k2':X.heap[w.heap.size+1+1]?=some (.cells #[.nilIface] 30 (0,0)):=by
   rw[hX];have ne:w.heap.size+1+1≠w.heap.size+1:=by omega
   simpa using qB ((Below.heap_setCell _ _ _ _ ne).trans ((Below.heap_setCell _ _ _ _ ne).trans ((Below.heap_setCell _ _ _ _ ne).trans ((Below.heap_setCell _ _ _ _ ne).trans ((Below.heap_setCell _ _ _ _ ne).trans H6.o))))) 0 .nilIface
  rw[←hX] at bX ⊢;refine leaves_mark1 kd fun w' hb' he=>LeavesIn.fin (v:=.tuple #[.agg #[.bool true,.slice none 0 0,.slice al L.length cl,.int .i64 0,.int .i64 kk],.nilIface]) ?_ ⟨true,al,_,cl,0,kk,_,rfl,.inl ⟨rfl,rfl⟩,bX.trans (hb'.mono (by omega))⟩;have c:=qg ((he _ (by omega)).trans k1');have c0:=c 0;have c1:=c 1;have c2:=c 2;have c3:=c 3;have c4:=c 4;have c5:=qg ((he _ (by omega)).trans k2') 0;simp at c0 c1 c2 c3 c4 c5;simp[results,Tryz.results53,go_sem,c0,c1,c2,c3,c4,c5]
 ·rintro q c i W3 hi0 hiN - ⟨rfl,h5,h6,h7,h8⟩ hz hd
  clear IT hI hIx;gi_wp2_with fail;refine leaves_mark1 hd fun w' hb' he=>LeavesIn.fin (v:=.tuple #[.agg #[.bool false,.slice none 0 0,.slice none 0 0,.int .i64 0,.int .i64 0],.iface t0 v0]) ?_ ⟨false,none,0,0,0,0,_,rfl,.inr rfl,h7.trans (hb'.mono (by omega))⟩;have c:=qg ((he _ (by omega)).trans h5);have c0:=c 0;have c1:=c 1;have c2:=c 2;have c3:=c 3;have c4:=c 4;have c5:=qg ((he _ (by omega)).trans h6) 0;simp at c0 c1 c2 c3 c4 c5;simp[results,Tryz.results53,go_sem,c0,c1,c2,c3,c4,c5]
end
section
attribute [local irreducible] xL
theorem l_Judge (most:Nat) (hmo:1<=most/\most<=65536) (ov vv:Value) (os:List Ob) (es:List Ev) (A:Au) (w:World) (ho:Sl w w.heap.size 2 ov os.length (os.flatMap Ob.cells)) (he:Sl w w.heap.size 8 vv es.length (es.flatMap Ev.cells)) (hne:os≠[]) (hr:RegOk os) (hel:es.length<=400) (hes:∀e ∈ es,EvOk os.length e) (hW:xa w) (hF:Fed es A) (hA:A.length<=12)
  (hP:PowAt w) (hEa:ErrAt 15 w) {t0:TypeId} {v0:Value} (hEb:0 < w.heap.size/\w.cell? ⟨0,0,none⟩=some (.iface t0 v0)) (hpart:PartOk os es):
  Calls Tryz.prog 28 #[.agg #[ov,vv],.int .i64 4,.int .i64 most] w (VerPost w (.iface t0 v0)):=by
 obtain⟨ao,co,rfl,mo⟩:=ho.ex;obtain⟨ae,ce,rfl,me⟩:=he.ex;have b0:Below w.heap.size w ((w.alloc (.cells #[.slice ao os.length co,.slice ae es.length ce] 37)).alloc (.cells #[.bool false,.slice none 0 0,.slice none 0 0,.int .i64 0,.int .i64 0] 75)):=((Below.refl _ w).alloc (Nat.le_refl _) _).alloc (by simp) _;have r0:((w.alloc (.cells #[.slice ao os.length co,.slice ae es.length ce] 37)).alloc (.cells #[.bool false,.slice none 0 0,.slice none 0 0,.int .i64 0,.int .i64 0] 75)).heap[w.heap.size]?=some (.cells #[.slice ao os.length co,.slice ae es.length ce] 37 (0,0)):=qF (qy w _);have r8:((w.alloc (.cells #[.slice ao os.length co,.slice ae es.length ce] 37)).alloc (.cells #[.bool false,.slice none 0 0,.slice none 0 0,.int .i64 0,.int .i64 0] 75)).heap[w.heap.size+1]?=some (.cells #[.bool false,.slice none 0 0,.slice none 0 0,.int .i64 0,.int .i64 0] 75 (0,0)):=qL (by simp);go_enter Tryz.func28,Tryz.ntmps28;go_wp2_with fail;generalize (w.alloc (.cells #[.slice ao os.length co,.slice ae es.length ce] 37)).alloc (.cells #[.bool false,.slice none 0 0,.slice none 0 0,.int .i64 0,.int .i64 0] 75)=W at *;have SC:=qj (l_opaque most hmo (.slice ao os.length co) (.slice ae es.length ce) os es A W ((ho.below b0).more b0.size) ((he.below b0).more b0.size) hne hr hel hes (hW.below b0) hF hA (hP.below b0) (hEa.below b0) ⟨by have:=b0.size;have:=hEb.1;omega,qu b0 hEb.1 hEb.2⟩ hpart);have y:=qg r0;have y0:=y 0;have y1:=y 1;simp at y0 y1;have yl:=qh r0;have R8:=qj r8;have B0:=qj b0;clear y r0 r8 b0 ho he hne hr hel hes hW hF hA hP hEa hEb hpart;go_wp2_with fail;refine SC.o.mono ?_;rintro e W1 ⟨yb,a,n,c,pp,k,er,rfl,hres,b1⟩;have r8:=qp R8.o b1 (qh R8.o);have y:=qg r8;have u0:=y 0;have u1:=y 1;have u2:=y 2;have u3:=y 3;have u4:=y 4;simp at u0 u1 u2 u3 u4;have uf:=fun j=>qx r8 j;have ul:=qh r8;have rT:=qB (qB (qB (qB (qB r8 0 (.bool yb)) 1 (.slice none 0 0)) 2 (.slice a n c)) 3 (.int .i64 pp)) 4 (.int .i64 k);have cc:=qg rT;have cc0:=cc 0;have cc1:=cc 1;have cc2:=cc 2;have cc3:=cc 3;have cc4:=cc 4;simp at cc0 cc1 cc2 cc3 cc4;have BB:=qj (B0.o.trans (b1.mono B0.o.size));clear y cc rT r8 SC b1;go_wp2_with fail;refine bodyPost_ret (v:=.tuple #[.agg #[.bool yb,.slice none 0 0,.slice a n c,.int .i64 pp,.int .i64 k],er]) ?hres rfl ?_
 case hres=>simp[results,Tryz.results28,go_sem,cc0,cc1,cc2,cc3,cc4]
 exact⟨yb,a,n,c,pp,k,er,rfl,hres,((((BB.o.setCell (p:=⟨w.heap.size+1,0,none⟩) (Nat.le_succ _) _).setCell (p:=⟨w.heap.size+1,1,none⟩) (Nat.le_succ _) _).setCell (p:=⟨w.heap.size+1,2,none⟩) (Nat.le_succ _) _).setCell (p:=⟨w.heap.size+1,3,none⟩) (Nat.le_succ _) _).setCell (p:=⟨w.heap.size+1,4,none⟩) (Nat.le_succ _) _⟩
end
