/- Parts of the proof; the first: Last writes, first reads, who writes a version: plain lists. Conditions: those of each theorem, as typed. -/
import Derived.Test.YtcpfbphcldocpaaGreatDoorQC04
import Derived.Test.YtcpfbphcldocpaaGreatDoorQC09
import Derived.Shelf.Abstract
set_option linter.unusedVariables false
set_option linter.unusedSimpArgs false
set_option linter.unusedSectionVars false
set_option maxRecDepth 100000
set_option maxHeartbeats 4000000
namespace Go.Proofs.YtcpfbphcldocpaaGreatDoor
open Go.Maps Go.RowKit
def yO (g:Dd->Int) (o:Int) (X:List Dd) (r:Option Int):Option Int:=X.foldl (fun r d=>if d.obj=o then some (g d) else r) r
section
variable {g:Dd->Int} {o:Int}
theorem XX (X Y:List Dd) (r:Option Int):yO g o (X++Y) r=yO g o Y (yO g o X r):=by unfold yO;rw[List.foldl_append]
theorem Xu {c:Int} (hc:c≠o):∀(X:List Dd) (r:Option Int),yO g o (X.filter fun x=>x.obj !=c) r=yO g o X r
 |[],r=>rfl
 |d::X,r=>by
  have ih:=Xu hc X;by_cases e:d.obj=c
  ·rw [List.filter_cons_of_neg (by simp[e])]
   rw[ih];unfold yO;rw[List.foldl_cons,if_neg (by rw[e];exact hc)]
  ·rw [List.filter_cons_of_pos (by simp[e])]
   unfold yO at ih ⊢;rw[List.foldl_cons,List.foldl_cons,ih]
theorem Yb:∀{X:List Dd} {M:Mi},za M->fnd o (X.foldl (fun m d=>upd d.obj (g d) m) M)=yO g o X (fnd o M)
 |[],M,_=>rfl
 |d::X,M,h=>by
  rw[List.foldl_cons,Yb (zG h)];unfold yO;rw[List.foldl_cons];by_cases e:d.obj=o
  ·rw [if_pos e,e,ja h]
  ·rw [if_neg e,jz h fun h=>e h.symm]
theorem uJ:∀{X:List Dd} {M:Mi},za M->za (X.foldl (fun m d=>upd d.obj (g d) m) M)
 |[],M,h=>h
 |d::X,M,h=>by rw[List.foldl_cons];exact uJ (zG h)
end
theorem YL (s:St):za (yG s):=uJ List.Pairwise.nil
theorem Qe (s:St):za (zb s):=uJ List.Pairwise.nil
theorem Xl (s:St) (o:Int):fnd o (yG s)=yO Dd.got o (xt [] s.deeds) none:=Yb List.Pairwise.nil
theorem Mx (s:St) (o:Int):fnd o (zb s)=yO Dd.val o (xX s.deeds) none:=Yb List.Pairwise.nil
def lwR (l:List Dd) (o:Int):Option Int:=l.foldl (fun r d=>if d.op=2/\d.ret=1/\d.obj=o then some d.val else r) none
def lwA (l:List Dd) (o:Int):Option Int:=l.foldl (fun r d=>if d.op=2/\d.obj=o then some d.val else r) none
theorem zy {α:Type} {p:List α->Prop} (h0:p []) (h1:∀l a,p l->p (l++[a])) (l:List α):p l:=by
 rw[←List.reverse_reverse l];generalize l.reverse=r
 induction r with
 |nil=>exact h0
 |cons a r ih=>rw[List.reverse_cons];exact h1 _ _ ih
theorem jS (l:List Dd) (d:Dd):xX (l++[d])=if d.op=2/\d.ret=1 then(xX l).filter (fun o=>o.obj !=d.obj)++[d] else xX l:=by unfold xX;rw[List.foldl_append];rfl
theorem uN (l:List Dd) (d:Dd) (o:Int):lwR (l++[d]) o=if d.op=2/\d.ret=1/\d.obj=o then some d.val else lwR l o:=by unfold lwR;rw[List.foldl_append];rfl
theorem Zs (l:List Dd) (d:Dd) (o:Int):lwA (l++[d]) o=if d.op=2/\d.obj=o then some d.val else lwA l o:=by unfold lwA;rw[List.foldl_append];rfl
theorem UY (o:Int) (l:List Dd):yO Dd.val o (xX l) none=lwR l o:=by
 induction l using zy with
 |h0=>rfl
 |h1 l d ih=>
  rw[jS,uN];by_cases hw:d.op=2/\d.ret=1
  ·rw [if_pos hw,XX]
   by_cases e:d.obj=o
   ·rw [if_pos ⟨hw.1,hw.2,e⟩]
    simp[yO,e]
   ·rw [if_neg (fun h=>e h.2.2),Xu e,ih]
    simp[yO,e]
  ·rw [if_neg hw,if_neg (fun h=>hw ⟨h.1,h.2.1⟩),ih]
theorem Vj (s:St) (o:Int):fnd o (zb s)=lwR s.deeds o:=(Mx s o).trans (UY o s.deeds)
theorem lw_full {l:List Dd} (h:∀d ∈ l,d.op=2->d.ret=1) (o:Int):lwA l o=lwR l o:=by
 induction l using zy with
 |h0=>rfl
 |h1 l d ih=>
  rw[Zs,uN,ih fun x hx=>h x (by simp[hx])];have:=h d (by simp);by_cases e:d.op=2
  ·simp [e,this e]
  ·simp [e]
theorem Rt {l:List Dd} {o v:Int} (h:lwR l o=some v):∃d ∈ l,d.op=2/\d.ret=1/\d.obj=o/\d.val=v:=by
 induction l using zy with
 |h0=>cases h
 |h1 l d ih=>
  rw[uN] at h
  split at h
  ·rename_i e
   exact⟨d,by simp,e.1,e.2.1,e.2.2,Option.some.inj h⟩
  ·obtain ⟨x,hx,h⟩:=ih h
   exact⟨x,by simp[hx],h⟩
theorem lwA_none {l:List Dd} {o:Int} (h:lwA l o=none):∀d ∈ l,¬(d.op=2/\d.obj=o):=by
 induction l using zy with
 |h0=>intro d hd;cases hd
 |h1 l d ih=>
  rw[Zs] at h
  split at h
  ·cases h
  ·rename_i e
   intro x hx;rcases List.mem_append.1 hx with hx|hx
   ·exact ih h x hx
   ·rw [List.mem_singleton.1 hx];exact e
def uw (met:List Int) (l:List Dd):List Int:=l.foldl (fun met d=>if xu d||decide (d.op=2) then d.obj::met else met) met
theorem QM:∀(l m:List Dd) (met:List Int),xt met (l++m)=xt met l++xt (uw met l) m
 |[],m,met=>rfl
 |d::l,m,met=>by
  rw[List.cons_append,xt,xt,QM l m,List.append_assoc];rfl
theorem Zq:∀{l:List Dd} {met:List Int} {x:Int},x ∈ met->x ∈ uw met l
 |[],_,_,h=>h
 |d::l,met,x,h=>by
  unfold uw;rw[List.foldl_cons];refine Zq (l:=l) ?_
  split
  ·exact List.mem_cons_of_mem _ h
  ·exact h
theorem jp:∀{l:List Dd} {met:List Int} {r:Dd},r ∈ xt met l->r ∈ l/\xu r=true/\r.obj ∉ met/\r.obj ∈ uw met l
 |[],_,_,h=>by cases h
 |d::l,met,r,h=>by
  rw[xt] at h;rcases List.mem_append.1 h with h|h
  ·split at h
   ·rename_i e
    rw[List.mem_singleton.1 h];simp only[Bool.and_eq_true,Bool.not_eq_true'] at e;refine⟨List.mem_cons_self ..,e.1,by simpa using e.2,?_⟩;unfold uw;rw[List.foldl_cons];refine Zq (l:=l) ?_;rw[e.1];simp
   ·cases h
  ·obtain ⟨h1,h2,h3,h4⟩:=jp h
   refine⟨List.mem_cons_of_mem _ h1,h2,fun hm=>h3 ?_,?_⟩
   ·split
    ·exact List.mem_cons_of_mem _ hm
    ·exact hm
   ·unfold uw at h4 ⊢
    rw[List.foldl_cons];exact h4
theorem Uc {o:Int}:∀{l:List Dd} {met:List Int},o ∈ uw met l->o ∉ met->(∀d ∈ l,¬(d.op=2/\d.obj=o))->∃r ∈ xt met l,r.obj=o
 |[],met,h,hn,_=>absurd h hn
 |d::l,met,h,hn,hw=>by
  rw[xt];by_cases e:xu d=true/\d.obj=o
  ·refine ⟨d,List.mem_append.2 (.inl ?_),e.2⟩
   have:(xu d&&!met.contains d.obj)=true:=by simp[e.1,e.2,hn]
   rw[if_pos this];simp
  ·have h':o ∈ uw (if (xu d||decide (d.op=2))=true then d.obj::met else met) l:=h
   obtain⟨r,hr,ho⟩:=Uc (l:=l) h' (by
    split
    ·rename_i h2
     intro hm;rcases List.mem_cons.1 hm with hm|hm
     ·simp only[Bool.or_eq_true,decide_eq_true_eq] at h2
      rcases h2 with h2|h2
      ·exact e ⟨h2,hm.symm⟩
      ·exact hw d (List.mem_cons_self ..) ⟨h2,hm.symm⟩
     ·exact hn hm
    ·exact hn) fun x hx=>hw x (List.mem_cons_of_mem _ hx)
   exact⟨r,List.mem_append.2 (.inr hr),ho⟩
section
variable {A:Au} {o v:Int}
def Wrs (A:Au) (o v:Int) (j:Nat):Prop:=∃s,A[j]?=some s/\Jv s=true/\fnd o (zb s)=some v
theorem by1_wrs {r:Option Nat} {i j:Nat} (h:Mr A o v r i=some j):Wrs A o v j\/r=some j:=by
 unfold Mr at h
 split at h
 ·rename_i s hs
  split at h
  ·rename_i hc
   simp only[Bool.and_eq_true,beq_iff_eq] at hc;obtain rfl:=Option.some.inj h;exact .inl ⟨s,hs,hc⟩
  ·exact .inr h
 ·exact .inr h
theorem RY:∀{l:List Nat} {r:Option Nat} {j:Nat},l.foldl (Mr A o v) r=some j->Wrs A o v j\/r=some j
 |[],r,j,h=>.inr h
 |i::l,r,j,h=>by
  rw[List.foldl_cons] at h;rcases RY h with h|h
  ·exact .inl h
  ·exact by1_wrs h
theorem byF_wrs {j:Nat} (h:WV A o v=some j):Wrs A o v j:=by
 rcases RY h with h|h
 ·exact h
 ·cases h
theorem Xn {os:List Ob}:∀{l:List Dd} {rd:List Int} {wr wr':List (Int×Int)},xH os rd wr l=some wr'->(∀p ∈ wr,p ∈ wr')/\∀d ∈ l,d.op≠1->(d.obj,d.val) ∈ wr'/\(d.obj,d.val) ∉ wr
 |[],rd,wr,wr',h=>by
  simp only[xH,Option.some.injEq] at h;subst h;exact⟨fun p hp=>hp,fun d hd=>nomatch hd⟩
 |d::l,rd,wr,wr',h=>by
  rw[xH] at h
  split at h
  ·cases h
  ·split at h
   ·split at h
    ·rename_i hd
     obtain⟨h1,h2⟩:=Xn h;refine⟨h1,fun x hx hne=>?_⟩;rcases List.mem_cons.1 hx with rfl|hx
     ·exact absurd hd hne
     ·exact h2 x hx hne
    ·split at h
     ·rename_i hc
      obtain⟨h1,h2⟩:=Xn h;refine⟨fun p hp=>h1 p (List.mem_cons_of_mem _ hp),fun x hx hne=>?_⟩;rcases List.mem_cons.1 hx with rfl|hx
      ·exact ⟨h1 _ (List.mem_cons_self ..),hc.2.1⟩
      ·obtain ⟨h3,h4⟩:=h2 x hx hne
       exact⟨h3,fun hm=>h4 (List.mem_cons_of_mem _ hm)⟩
     ·cases h
   ·cases h
end
section
attribute [local irreducible] xL
def yU (w:World) (b:Nat) (met:List Int) (n:Nat):Prop:=∃M,qL w b M/\∀k:Int,∃c:Nat,c<=n/\(M k).getD (.int .i64 0)=.int .i64 c/\(c=0↔k ∉ met)
section
variable {w w':World} {b n:Nat} {met:List Int}
theorem yU.obj (h:yU w b met n) (hw:w'.heap[b]?=w.heap[b]?):yU w' b met n:=let ⟨M,h1,h2⟩:=h;⟨M,h1.obj hw,h2⟩
theorem yU.lt (h:yU w b met n):b < w.heap.size:=let ⟨M,h1,h2⟩:=h;h1.lt
theorem yU.made (h:w.heap[b]?=some (.map #[] 0)):yU w b [] 0:=⟨_,qL.made h,fun c=>⟨0,Nat.le_refl _,rfl,by simp⟩⟩
theorem yU.mono {n':Nat} (h:yU w b met n) (hn:n<=n'):yU w b met n':=let ⟨M,h1,h2⟩:=h;⟨M,h1,fun k=>let ⟨c,a,r⟩:=h2 k;⟨c,by omega,r⟩⟩
theorem YT (w:World):(zeroValue 3).run Tryz.prog w=.ok (.int .i64 0) w:=by kernel_rfl
theorem yU.put {M:Int->Option Value} {a:Int} {c:Nat} (h:qL w' b (UN M a (some (.int .i64 ((c:Int)+1))))) (h2:∀k:Int,∃c:Nat,c<=n/\(M k).getD (.int .i64 0)=.int .i64 c/\(c=0↔k ∉ met)) (hc:c<=n):yU w' b (a::met) (n+1):=by
 refine⟨_,h,fun k=>?_⟩;by_cases e:k=a
 ·subst e;rw[xD];exact⟨c+1,by omega,by simp,by simp⟩
 ·rw [qV e]
  obtain⟨c',h1,h2,h3⟩:=h2 k;exact⟨c',by omega,h2,by rw[h3];simp[e]⟩
end
theorem qj.sli {α:Type} {f:α->List Value} {e:TypeId} {sz B:Nat} {w:World} {v:Value} {l:List α} (h:qj f e sz w B v l):∃a c,v=.slice a l.length c:=by
 rcases qj.form h with⟨h1,h2⟩|⟨g,cap,h1,-⟩
 ·exact ⟨_,_,by rw[h1,h2];rfl⟩
 ·exact ⟨_,_,h1⟩
theorem qj.neM {α:Type} {f:α->List Value} {e:TypeId} {sz B b:Nat} {w:World} {v:Value} {l:List α} (h:qj f e sz w B v l) (hm:∃es c,w.heap[b]?=some (.map es c)):v.ownBlock≠some b:=fun e=>by
 obtain⟨es,c,hm⟩:=hm;obtain⟨c2,hc2⟩:=h.keepObj b e;rw[hm] at hc2;cases hc2
theorem QK:∀(l:List Dd) (met:List Int),(xt met l).length<=l.length
 |[],_=>Nat.le_refl _
 |d::l,met=>by
  rw[xt,List.length_append,List.length_cons];have:=QK l (if xu d||decide (d.op=2) then d.obj::met else met);generalize (xt (if xu d||decide (d.op=2) then d.obj::met else met) l)=r at *
  split
  ·rw [List.length_singleton];omega
  ·rw [List.length_nil];omega
theorem p_Reads (i th st be fi tr:Int) (dv:Value) (l:List Dd) (w:World) (hd:Sl w w.heap.size 8 dv l.length (l.flatMap Dd.cells)) (hl:l.length<=400):
  Calls Tryz.prog 42 #[.agg #[.int .i64 i,.int .i64 th,.int .i64 st,.int .i64 be,.int .i64 fi,.int .i64 tr,dv]] w fun e w'=>∃v,e=.returned v/\XH w' w.heap.size v (xt [] l)/\Below w.heap.size w w':=by
 obtain⟨ad,cd,rfl,md⟩:=hd.ex;have hmm:=@run_makeMap Tryz.prog;have HD:=qd hd;clear hd md;go_enter Tryz.func42,Tryz.ntmps42;go_wp2_with fail;have B0:=qd (show Below w.heap.size w ((w.alloc (.cells #[.int .i64 i,.int .i64 th,.int .i64 st,.int .i64 be,.int .i64 fi,.int .i64 tr,.slice ad l.length cd] 49)).alloc (.map #[] 0)) from((Below.refl _ w).alloc (Nat.le_refl _) _).alloc (by simp) _);have C0:=qd (show yU ((w.alloc (.cells #[.int .i64 i,.int .i64 th,.int .i64 st,.int .i64 be,.int .i64 fi,.int .i64 tr,.slice ad l.length cd] 49)).alloc (.map #[] 0)) (w.heap.size+1) [] 0 from yU.made (by have:=heap_alloc_new (w.alloc (.cells #[.int .i64 i,.int .i64 th,.int .i64 st,.int .i64 be,.int .i64 fi,.int .i64 tr,.slice ad l.length cd] 49)) (.map #[] 0);simpa using this));generalize ((w.alloc (.cells #[.int .i64 i,.int .i64 th,.int .i64 st,.int .i64 be,.int .i64 fi,.int .i64 tr,.slice ad l.length cd] 49)).alloc (.map #[] 0))=W at *
 go_loopw [4,12] (fun q p wr=>∃(k:Nat),k<=l.length/\p=.int .i64 k/\XH wr w.heap.size q (xt [] (l.take k))/\yU wr (w.heap.size+1) (uw [] (l.take k)) k/\Below w.heap.size w wr) (fun _ p _=>l.length - (intOf p).toNat)
 case atStart=>exact⟨0,by omega,by go_num,qj.nil _ _,C0.o,B0.o⟩
 case round=>
  obtain⟨k,hk,rfl,qo,qc,qb⟩:=hrel;clear B0 C0 W;have hsz:=qb.size;have hcl:=qc.lt;obtain⟨X,hX⟩:∃X,xt [] (l.take k)=X:=⟨_,rfl⟩
  rw[hX] at qo;obtain⟨aq,cq,rfl⟩:=qj.sli qo;have HXX:=qd hX;have QO:=qd qo;have QC:=qd qc;have QB:=qd qb;clear qo qc qb hX;by_cases hlt:k < l.length
  ·obtain ⟨b,off,d,rfl,hb,hdk,hc⟩:=HD.o.atF Dd.len rfl hlt
   have HR:=qd (show xt [] (l.take (k+1))=xt [] (l.take k)++(if xu d&&!(uw [] (l.take k)).contains d.obj then[d] else[]) by
    rw[List.take_add_one,hdk,Option.toList_some,QM];simp[xt])
   have HM:=qd (show uw [] (l.take (k+1))=(if xu d||decide (d.op=2) then d.obj::uw [] (l.take k) else uw [] (l.take k)) by
    rw[List.take_add_one,hdk,Option.toList_some];unfold uw;rw[List.foldl_append];rfl)
   obtain⟨ob,op,ke,va,re,go,at_,ba⟩:=d;have c0:wr.cell? ⟨b,off+k*8,none⟩=some (.int .i64 ob):=qp QB.o hb (hc 0 (by decide));have c1:wr.cell? ⟨b,off+k*8+1,none⟩=some (.int .i64 op):=qp QB.o hb (hc 1 (by decide));have c2:wr.cell? ⟨b,off+k*8+2,none⟩=some (.int .i64 ke):=qp QB.o hb (hc 2 (by decide));have c3:wr.cell? ⟨b,off+k*8+3,none⟩=some (.int .i64 va):=qp QB.o hb (hc 3 (by decide));have c4:wr.cell? ⟨b,off+k*8+4,none⟩=some (.int .i64 re):=qp QB.o hb (hc 4 (by decide));have c5:wr.cell? ⟨b,off+k*8+5,none⟩=some (.int .i64 go):=qp QB.o hb (hc 5 (by decide));have c6:wr.cell? ⟨b,off+k*8+6,none⟩=some (.int .i64 at_):=qp QB.o hb (hc 6 (by decide));have c7:wr.cell? ⟨b,off+k*8+7,none⟩=some (.int .i64 ba):=qp QB.o hb (hc 7 (by decide));have hbw:b < wr.heap.size:=by omega
   obtain⟨Y,hY⟩:∃Y,uw [] (l.take k)=Y:=⟨_,rfl⟩
   rw[HXX.o] at HR;rw[hY] at QC HM HR;have hXl:X.length<=400:=by
    rw[←HXX.o];exact Nat.le_trans (QK _ _) (by rw[List.length_take];omega)
   clear hc hdk hY;by_cases e1:op=1
   ·subst e1
    by_cases e4:re=3
    ·subst e4
     have b3:Below wr.heap.size wr (wr.alloc (.cells #[.int .i64 ob,.int .i64 1,.int .i64 ke,.int .i64 va,.int .i64 3,.int .i64 go,.int .i64 at_,.int .i64 ba] 112)):=(Below.refl _ wr).alloc (Nat.le_refl _) _;have r3:=qs wr (.cells #[.int .i64 ob,.int .i64 1,.int .i64 ke,.int .i64 va,.int .i64 3,.int .i64 go,.int .i64 at_,.int .i64 ba] 112);have QO3:=qd (qj.below QO.o b3);have QC3:=qd (QC.o.obj (b3.block _ hcl));have B3:=qd (QB.o.trans (b3.mono hsz));have hz3:(wr.alloc (.cells #[.int .i64 ob,.int .i64 1,.int .i64 ke,.int .i64 va,.int .i64 3,.int .i64 go,.int .i64 at_,.int .i64 ba] 112)).heap.size=wr.heap.size+1:=by simp
     have HZ3:=qd (show w.heap.size<=(wr.alloc (.cells #[.int .i64 ob,.int .i64 1,.int .i64 ke,.int .i64 va,.int .i64 3,.int .i64 go,.int .i64 at_,.int .i64 ba] 112)).heap.size by omega);have hne3:(Value.slice aq X.length cq).ownBlock≠some wr.heap.size:=fun e=>absurd (qj.lt QO.o _ e).2 (Nat.lt_irrefl _);have y:=qa r3;have y0:=y 0;have y1:=y 1;have y2:=y 2;have y3:=y 3;have y4:=y 4;have y5:=y 5;have y6:=y 6;have y7:=y 7;simp at y0 y1 y2 y3 y4 y5 y6 y7;have yl:=qe r3;clear y;obtain⟨M,hM,hM2⟩:=QC3.o;obtain⟨c,hcn,hg,hc0⟩:=hM2 ob;have lk:=(hM.look Tryz.underlying3 Tryz.underlying138 (YT _) ob rfl).1;rw[hg] at lk;have hc4:c<=400:=by omega
     have HM2:=qd hM2;clear hM2 hg;have R3:=qd r3;clear r3 b3;by_cases hm:c=0
     ·subst hm
      have hnm:=qd (hc0.1 rfl);rw[show ((0:Nat):Int)=0 from rfl] at lk;clear hc0;go_wp2_with (at_builtin;refine qM rfl _ _ _ rfl _ 64 Tryz.underlying47 ZA rfl QO3.o (⟨ob,1,ke,va,3,go,at_,ba⟩:Dd) HZ3.o (by rfl) (by rfl) (by first|rfl|simp) rfl (Vo _) (by first|omega|(simp only[List.length_append,List.length_cons,List.length_nil,List.length_replicate];omega)) (by first|omega|(simp only[List.length_append,List.length_cons,List.length_nil,List.length_replicate];omega)) ?_;refine qH.halt ?_)
      refine qH.go ?_;generalize wr.alloc (.cells #[.int .i64 ob,.int .i64 1,.int .i64 ke,.int .i64 va,.int .i64 3,.int .i64 go,.int .i64 at_,.int .i64 ba] 112)=W3 at *;intro g5 c5 w5 o5 G5;have r5:w5.heap[wr.heap.size]?=some _:=qS R3.o G5 hne3;have hM5:=hM.obj (G5.grown.block (w.heap.size+1) hM.lt fun e=>qj.neM QO3.o hM.isMap e.symm);have lk5:=(hM5.look Tryz.underlying3 Tryz.underlying138 (YT w5) ob rfl).1;have hg5:(M ob).getD (.int .i64 0)=.int .i64 0:=by
       obtain⟨c',h1,h2,h3⟩:=HM2.o ob;rw[h2,h3.2 hnm.o];rfl
      rw[hg5] at lk5;have O5:=qd o5;have z5:=G5.size;have B5:=qd (B3.o.trans (G5.below (B:=w.heap.size) (by omega) fun j hj=>(qj.lt QO3.o j hj).1));clear lk hcn y0 y1 y2 y3 y4 y5 y6 y7 yl o5 G5 hg5 hM;have y:=qa r5;have y0:=y 0;have y1:=y 1;have y2:=y 2;have y3:=y 3;have y4:=y 4;have y5:=y 5;have y6:=y 6;have y7:=y 7;simp at y0 y1 y2 y3 y4 y5 y6 y7;have yl:=qe r5;clear y;clear r5;go_wp2_with (at_mapUpdate;refine qH.halt ?_)
      refine qH.go ?_;refine hM5.wpList_store Tryz.underlying3 Tryz.underlying138 (a:=ob) (v:=.int .i64 1) rfl (.inl rfl) (by rfl) (by rfl) (by rfl) ?_;intro w6 hM6 t6;have C6:=qd (yU.put (c:=0) hM6 HM2.o (Nat.zero_le _));have O6:=qd (qj.kd (T:=fun _=>False) O5.o (Kd.turned t6) fun h=>h);have B6:=qd (B5.o.trans (Below.turned t6 (by omega)));clear t6 hM6;go_wp2_with fail;go_roundw
      case rel=>
       refine⟨k+1,by omega,by go_num,?_,?_,B6.o⟩
       ·have e:=HR.o
        rw[if_pos (by simp[xu,hnm.o])] at e;rw[e];exact O6.o
       ·have e:=HM.o
        rw[if_pos (by simp[xu])] at e;rw[e];exact C6.o
      case measure=>simp[intOf];omega
     ·have hnm:=qd (Classical.not_not.1 fun h=>hm (hc0.2 h))
      have q0:((c:Int)==0)=false:=by simp;omega
      clear hc0 hm;go_wp2_with (at_mapUpdate;refine qH.halt ?_)
      generalize wr.alloc (.cells #[.int .i64 ob,.int .i64 1,.int .i64 ke,.int .i64 va,.int .i64 3,.int .i64 go,.int .i64 at_,.int .i64 ba] 112)=W3 at *;refine qH.go ?_;refine hM.wpList_store Tryz.underlying3 Tryz.underlying138 (a:=ob) (v:=.int .i64 ((c:Int)+1)) rfl (.inl rfl) (by rfl) (by rfl) (by rfl) ?_;intro w6 hM6 t6;have C6:=qd (yU.put hM6 HM2.o hcn);have O6:=qd (qj.kd (T:=fun _=>False) QO3.o (Kd.turned t6) fun h=>h);have B6:=qd (B3.o.trans (Below.turned t6 (by omega)));clear t6 hM6;go_wp2_with fail;go_roundw
      case rel=>
       refine⟨k+1,by omega,by go_num,?_,?_,B6.o⟩
       ·have e:=HR.o
        rw[if_neg (by simp[xu,hnm.o]),List.append_nil] at e;rw[e];exact O6.o
       ·have e:=HM.o
        rw[if_pos (by simp[xu])] at e;rw[e];exact C6.o
      case measure=>simp[intOf];omega
    ·have q4:(re==3)=false:=by simpa using e4
     have b3:Below wr.heap.size wr (wr.alloc (.cells #[.int .i64 ob,.int .i64 1,.int .i64 ke,.int .i64 va,.int .i64 re,.int .i64 go,.int .i64 at_,.int .i64 ba] 112)):=(Below.refl _ wr).alloc (Nat.le_refl _) _;have r3:=qs wr (.cells #[.int .i64 ob,.int .i64 1,.int .i64 ke,.int .i64 va,.int .i64 re,.int .i64 go,.int .i64 at_,.int .i64 ba] 112);have QO3:=qd (qj.below QO.o b3);have QC3:=qd (QC.o.obj (b3.block _ hcl));have B3:=qd (QB.o.trans (b3.mono hsz));have hz3:(wr.alloc (.cells #[.int .i64 ob,.int .i64 1,.int .i64 ke,.int .i64 va,.int .i64 re,.int .i64 go,.int .i64 at_,.int .i64 ba] 112)).heap.size=wr.heap.size+1:=by simp
     have HZ3:=qd (show w.heap.size<=(wr.alloc (.cells #[.int .i64 ob,.int .i64 1,.int .i64 ke,.int .i64 va,.int .i64 re,.int .i64 go,.int .i64 at_,.int .i64 ba] 112)).heap.size by omega);have hne3:(Value.slice aq X.length cq).ownBlock≠some wr.heap.size:=fun e=>absurd (qj.lt QO.o _ e).2 (Nat.lt_irrefl _);have y:=qa r3;have y0:=y 0;have y1:=y 1;have y2:=y 2;have y3:=y 3;have y4:=y 4;have y5:=y 5;have y6:=y 6;have y7:=y 7;simp at y0 y1 y2 y3 y4 y5 y6 y7;have yl:=qe r3;clear y;clear r3 b3;go_wp2_with fail;generalize wr.alloc (.cells #[.int .i64 ob,.int .i64 1,.int .i64 ke,.int .i64 va,.int .i64 re,.int .i64 go,.int .i64 at_,.int .i64 ba] 112)=W3 at *;go_roundw
     case rel=>
      refine⟨k+1,by omega,by go_num,?_,?_,B3.o⟩
      ·have e:=HR.o
       rw[if_neg (by simp[xu,e4]),List.append_nil] at e;rw[e];exact QO3.o
      ·have e:=HM.o
       rw[if_neg (by simp[xu,e4])] at e;rw[e];exact QC3.o.mono (by omega)
     case measure=>simp[intOf];omega
   ·have q1:(op==1)=false:=by simpa using e1
    by_cases e2:op=2
    ·subst e2
     have b3:Below wr.heap.size wr (wr.alloc (.cells #[.int .i64 ob,.int .i64 2,.int .i64 ke,.int .i64 va,.int .i64 re,.int .i64 go,.int .i64 at_,.int .i64 ba] 112)):=(Below.refl _ wr).alloc (Nat.le_refl _) _;have r3:=qs wr (.cells #[.int .i64 ob,.int .i64 2,.int .i64 ke,.int .i64 va,.int .i64 re,.int .i64 go,.int .i64 at_,.int .i64 ba] 112);have QO3:=qd (qj.below QO.o b3);have QC3:=qd (QC.o.obj (b3.block _ hcl));have B3:=qd (QB.o.trans (b3.mono hsz));have hz3:(wr.alloc (.cells #[.int .i64 ob,.int .i64 2,.int .i64 ke,.int .i64 va,.int .i64 re,.int .i64 go,.int .i64 at_,.int .i64 ba] 112)).heap.size=wr.heap.size+1:=by simp
     have HZ3:=qd (show w.heap.size<=(wr.alloc (.cells #[.int .i64 ob,.int .i64 2,.int .i64 ke,.int .i64 va,.int .i64 re,.int .i64 go,.int .i64 at_,.int .i64 ba] 112)).heap.size by omega);have hne3:(Value.slice aq X.length cq).ownBlock≠some wr.heap.size:=fun e=>absurd (qj.lt QO.o _ e).2 (Nat.lt_irrefl _);have y:=qa r3;have y0:=y 0;have y1:=y 1;have y2:=y 2;have y3:=y 3;have y4:=y 4;have y5:=y 5;have y6:=y 6;have y7:=y 7;simp at y0 y1 y2 y3 y4 y5 y6 y7;have yl:=qe r3;clear y;obtain⟨M,hM,hM2⟩:=QC3.o;obtain⟨c,hcn,hg,hc0⟩:=hM2 ob;have lk:=(hM.look Tryz.underlying3 Tryz.underlying138 (YT _) ob rfl).1;rw[hg] at lk;have hc4:c<=400:=by omega
     have HM2:=qd hM2;clear hM2 hg;clear r3 b3 hc0;go_wp2_with (at_mapUpdate;refine qH.halt ?_)
     generalize wr.alloc (.cells #[.int .i64 ob,.int .i64 2,.int .i64 ke,.int .i64 va,.int .i64 re,.int .i64 go,.int .i64 at_,.int .i64 ba] 112)=W3 at *;refine qH.go ?_;refine hM.wpList_store Tryz.underlying3 Tryz.underlying138 (a:=ob) (v:=.int .i64 ((c:Int)+1)) rfl (.inl rfl) (by rfl) (by rfl) (by rfl) ?_;intro w6 hM6 t6;have C6:=qd (yU.put hM6 HM2.o hcn);have O6:=qd (qj.kd (T:=fun _=>False) QO3.o (Kd.turned t6) fun h=>h);have B6:=qd (B3.o.trans (Below.turned t6 (by omega)));clear t6 hM6;go_wp2_with fail;go_roundw
     case rel=>
      refine⟨k+1,by omega,by go_num,?_,?_,B6.o⟩
      ·have e:=HR.o
       rw[if_neg (by simp[xu]),List.append_nil] at e;rw[e];exact O6.o
      ·have e:=HM.o
       rw[if_pos (by simp[xu])] at e;rw[e];exact C6.o
     case measure=>simp[intOf];omega
    ·have q2:(op==2)=false:=by simpa using e2
     have b3:Below wr.heap.size wr (wr.alloc (.cells #[.int .i64 ob,.int .i64 op,.int .i64 ke,.int .i64 va,.int .i64 re,.int .i64 go,.int .i64 at_,.int .i64 ba] 112)):=(Below.refl _ wr).alloc (Nat.le_refl _) _;have r3:=qs wr (.cells #[.int .i64 ob,.int .i64 op,.int .i64 ke,.int .i64 va,.int .i64 re,.int .i64 go,.int .i64 at_,.int .i64 ba] 112);have QO3:=qd (qj.below QO.o b3);have QC3:=qd (QC.o.obj (b3.block _ hcl));have B3:=qd (QB.o.trans (b3.mono hsz));have hz3:(wr.alloc (.cells #[.int .i64 ob,.int .i64 op,.int .i64 ke,.int .i64 va,.int .i64 re,.int .i64 go,.int .i64 at_,.int .i64 ba] 112)).heap.size=wr.heap.size+1:=by simp
     have HZ3:=qd (show w.heap.size<=(wr.alloc (.cells #[.int .i64 ob,.int .i64 op,.int .i64 ke,.int .i64 va,.int .i64 re,.int .i64 go,.int .i64 at_,.int .i64 ba] 112)).heap.size by omega);have hne3:(Value.slice aq X.length cq).ownBlock≠some wr.heap.size:=fun e=>absurd (qj.lt QO.o _ e).2 (Nat.lt_irrefl _);have y:=qa r3;have y0:=y 0;have y1:=y 1;have y2:=y 2;have y3:=y 3;have y4:=y 4;have y5:=y 5;have y6:=y 6;have y7:=y 7;simp at y0 y1 y2 y3 y4 y5 y6 y7;have yl:=qe r3;clear y;clear r3 b3;go_wp2_with fail;generalize wr.alloc (.cells #[.int .i64 ob,.int .i64 op,.int .i64 ke,.int .i64 va,.int .i64 re,.int .i64 go,.int .i64 at_,.int .i64 ba] 112)=W3 at *;go_roundw
     case rel=>
      refine⟨k+1,by omega,by go_num,?_,?_,B3.o⟩
      ·have e:=HR.o
       rw[if_neg (by simp[xu,e1]),List.append_nil] at e;rw[e];exact QO3.o
      ·have e:=HM.o
       rw[if_neg (by simp[xu,e1,e2])] at e;rw[e];exact QC3.o.mono (by omega)
     case measure=>simp[intOf];omega
  ·obtain rfl:k=l.length:=by omega
   have e:=HXX.o;rw[List.take_length] at e;have hq:decide ((l.length:Int) < (l.length:Int))=false:=by simp
   have HE:=qd e;clear e;go_wp2;go_ret;exact⟨_,rfl,by rw[HE.o];exact QO.o,QB.o⟩
end
section
attribute [local irreducible] xL
def Yx {α:Type} (P:Program) (g:Nat) (lb:Array Value) (val:α->Value) (p:α->Bool) (L:α->Prop) (w:World) (q:Option Nat):Prop:=
 ∀(W:World) (x:α),L x->w.grownBy W q->Calls P g (#[val x]++lb) W fun e w'=>e=.returned (.bool (p x))/\Below W.heap.size W w'
theorem grownBy.refl (w:World) (q:Option Nat):w.grownBy w q:=⟨rfl,rfl,rfl,Nat.le_refl _,fun _ _ _=>rfl⟩
theorem grownBy.below {w w1 w2:World} {q:Option Nat} (h:w.grownBy w1 q) (k:Below w1.heap.size w1 w2):w.grownBy w2 q:=
 ⟨k.os.trans h.os,k.tape.trans h.tape,k.output.trans h.output,Nat.le_trans h.size k.size,fun b hb hq=>(k.block b (Nat.lt_of_lt_of_le hb h.size)).trans (h.block b hb hq)⟩
theorem grownBy.set {w w1:World} {g j:Nat} {v:Value} (h:w.grownBy w1 (some g)):w.grownBy (w1.setCell ⟨g,j,none⟩ v) (some g):=
 ⟨h.os,h.tape,h.output,by simpa using h.size,fun b hb hq=>(RowKit.Below.heap_setCell _ _ _ _ (fun e=>hq (congrArg some e))).trans (h.block b hb hq)⟩
def Vd {α:Type} (p:α->Bool) (l:List α):Int:=match l.findIdx? p with
 |some i=>i
 |none=>-1
section
variable {α:Type} {p:α->Bool} {l:List α}
theorem idx_at {k:Nat} {d:α} (hk:l[k]?=some d) (hd:p d=true) (hn:∀x ∈ l.take k,p x=false):Vd p l=k:=by
 have:l.findIdx? p=some k:=by
  rw[List.findIdx?_eq_some_iff_getElem];obtain⟨hl,e⟩:=List.getElem?_eq_some_iff.1 hk;refine⟨hl,by rw[e];exact hd,fun j hj=>?_⟩;have:=hn l[j] (List.mem_iff_getElem?.2 ⟨j,by rw[List.getElem?_take,if_pos hj,List.getElem?_eq_getElem]⟩);simpa using this
 unfold Vd;rw[this]
theorem KG (hn:∀x ∈ l,p x=false):Vd p l=-1:=by
 have:l.findIdx? p=none:=by rw[List.findIdx?_eq_none_iff];exact fun x hx=>by simpa using hn x hx
 unfold Vd;rw[this]
theorem Un:(Vd p l=-1/\l.filter (fun x=>!p x)=l)\/∃(k:Nat) (d:α),Vd p l=k/\k < l.length/\l[k]?=some d/\p d=true/\(l.take (k+1)).filter (fun x=>!p x)=l.take k:=by
 cases h:l.findIdx? p with
 |none=>
  rw[List.findIdx?_eq_none_iff] at h;exact .inl ⟨KG h,List.filter_eq_self.2 fun x hx=>by rw[h x hx];rfl⟩
 |some k=>
  obtain⟨hl,h1,h2⟩:=List.findIdx?_eq_some_iff_getElem.1 h;refine .inr ⟨k,l[k],by unfold Vd;rw[h],hl,List.getElem?_eq_getElem hl,h1,?_⟩;rw[List.take_add_one,List.getElem?_eq_getElem hl,Option.toList_some,List.filter_append,List.filter_cons_of_neg (by simp[h1]),List.filter_nil,List.append_nil,List.filter_eq_self];intro x hx;obtain⟨j,hj⟩:=List.mem_iff_getElem?.1 hx;rw[List.getElem?_take] at hj
  split at hj
  ·rename_i hjk
   have:=h2 j hjk;obtain⟨hj1,rfl⟩:=List.getElem?_eq_some_iff.1 hj;simpa using this
  ·cases hj
theorem WB {j:Nat} {d:α} (hj:l[j]?=some d) (hd:p d=true):(l.take (j+1)).filter (fun x=>!p x)=(l.take j).filter fun x=>!p x:=by
 rw[List.take_add_one,hj,Option.toList_some,List.filter_append,List.filter_cons_of_neg (by simp[hd]),List.filter_nil,List.append_nil]
theorem Rz {j:Nat} {d:α} (hj:l[j]?=some d) (hd:p d=false):(l.take (j+1)).filter (fun x=>!p x)=(l.take j).filter (fun x=>!p x)++[d]:=by
 rw[List.take_add_one,hj,Option.toList_some,List.filter_append,List.filter_cons_of_pos (by simp[hd]),List.filter_nil]
theorem VL {i:Nat} {d:α} {dk:List α} (hi:i < dk.length):(dk.set i d).take (i+1)=dk.take i++[d]:=by
 rw[List.take_add_one,List.getElem?_set_self hi,Option.toList_some,List.take_set_of_le (Nat.le_refl _)]
theorem VM {i j:Nat} {d:α} {dk:List α} (hi:i < j):(dk.set i d).drop j=dk.drop j:=by
 rw[List.drop_set,if_pos hi]
theorem WH {j:Nat} {dk:List α} (h:dk.drop j=l.drop j):dk[j]?=l[j]?:=by
 have:=congrArg (fun x=>x[0]?) h;simpa using this
end
theorem qj.capD {α:Type} {f:α->List Value} {e:TypeId} {sz n c B:Nat} {a:Option Addr} {w:World} {l:List α} (h:qj f e sz w B (.slice a n c) l):l.length<=c/\c<=9223372036854775807:=by
 obtain⟨-,h|⟨g,cap,cur,hv,-,-,hc,hm,-⟩⟩:=h
 ·obtain ⟨h1,h2⟩:=h
  simp only[Value.slice.injEq] at h1;omega
 ·simp only[Value.slice.injEq] at hv
  unfold maxLen at hm;omega
theorem qj.takeF {α:Type} {f:α->List Value} {e:TypeId} {sz B g n c:Nat} {w:World} {l:List α} (h:qj f e sz w B (.slice (some ⟨g,0,none⟩) n c) l) (hf:∀x,(f x).length=sz) {i:Nat} (hi:i<=n):qj f e sz w B (.slice (some ⟨g,0,none⟩) i c) (l.take i):=by
 have hn:=h.len;subst hn;obtain⟨h1,h2⟩:=h;have hfl:∀(l:List α),(l.flatMap f).length=l.length*sz:=fun l=>by
  induction l with
  |nil=>simp
  |cons x l ih=>simp[ih,hf,Nat.add_mul];omega
 refine⟨hfl _,?_⟩;have htk:∀(l:List α) (i:Nat),i<=l.length->(l.flatMap f).take (i*sz)=(l.take i).flatMap f:=fun l=>by
  induction l with
  |nil=>intro i hi;simp at hi;subst hi;simp
  |cons x l ih=>
   intro i hi;cases i with
   |zero=>simp
   |succ i=>
    simp only[List.flatMap_cons,List.take_succ_cons];rw[show (i+1)*sz=(f x).length+i*sz by rw[hf,Nat.add_mul];omega,List.take_length_add_append,ih i (by simpa using hi)]
 rcases h2 with⟨h2,-⟩|⟨g',cap',cur,hv,hg,hh,hnc,hcm,hs,ht⟩
 ·cases h2
 ·simp only[Value.slice.injEq,Option.some.injEq,Addr.mk.injEq,and_true,true_and] at hv
  obtain⟨rfl,rfl⟩:=hv;have hil:(l.take i).length=i:=by rw[List.length_take];omega
  refine .inr ⟨g,c,cur,by rw[hil],hg,hh,by omega,hcm,hs,?_⟩;rw[hil];have:=congrArg (List.take (i*sz)) ht;rw[List.take_take,Nat.min_eq_left (Nat.mul_le_mul_right _ hi),htk l i hi] at this;exact this
theorem qj.behind {α:Type} {f:α->List Value} {e:TypeId} {sz B g n c:Nat} {l:List α} (hf:∀x,(f x).length=sz):∀(vs:List Value) (o:Nat) {w:World},qj f e sz w B (.slice (some ⟨g,0,none⟩) n c) l->n*sz<=o->qj f e sz (w.setCells g o vs) B (.slice (some ⟨g,0,none⟩) n c) l
 |[],_,_,h,_=>h
 |v::vs,o,w,h,ho=>by
  have hn:=h.len;refine qj.behind hf vs (o+1) ?_ (by omega);subst hn;have h1:=zL h o v;rw[List.set_eq_of_length_le (by
   have:∀(l:List α),(l.flatMap f).length=l.length*sz:=fun l=>by
    induction l with
    |nil=>simp
    |cons x l ih=>simp[ih,hf,Nat.add_mul];omega
   rw[this];exact ho)] at h1
  exact h1
theorem grownBy.sets {w:World} {g:Nat}:∀(vs:List Value) (o:Nat) {w1:World},w.grownBy w1 (some g)->w.grownBy (w1.setCells g o vs) (some g)
 |[],_,_,h=>h
 |v::vs,o,w1,h=>grownBy.sets vs (o+1) (grownBy.set h)
theorem qj.objD {α:Type} {f:α->List Value} {e:TypeId} {sz:Nat} {w:World} {B g n c:Nat} {l:List α} (h:qj f e sz w B (.slice (some ⟨g,0,none⟩) n c) l):∃cs,w.heap[g]?=some (.cells cs e (0,0)):=by
 obtain⟨-,h2⟩:=h;rcases h2 with⟨h2,-⟩|⟨g',cap,cur,hv,-,hh,-⟩
 ·cases h2
 ·simp only[Value.slice.injEq,Option.some.injEq,Addr.mk.injEq,and_true] at hv
  obtain⟨rfl,-⟩:=hv;exact⟨cur,hh⟩
theorem qj.cellsAt {α:Type} {f:α->List Value} {e:TypeId} {sz B g n c:Nat} {w:World} {l:List α} (h:qj f e sz w B (.slice (some ⟨g,0,none⟩) n c) l) (hl:l.length=n) (hf:∀x,(f x).length=sz):∀j,j < n*sz->(w.cell? ⟨g,j,none⟩).isSome=true:=fun j hj=>by
 have hfl:∀(l:List α),(l.flatMap f).length=l.length*sz:=fun l=>by
  induction l with
  |nil=>simp
  |cons x l ih=>simp[ih,hf,Nat.add_mul];omega
 subst hl;have hj':j < (l.flatMap f).length:=by rw[hfl];exact hj
 have:=World.ownsRow.cells h (g:=g) rfl j (l.flatMap f)[j] (List.getElem?_eq_getElem hj');have hadd:((⟨g,0,none⟩:Addr).add j)=⟨g,j,none⟩:=by unfold Addr.add;split <;> simp_all
 rw[hadd] at this;rw[this];rfl
theorem Xh {P:Program} (w:World) (t e:TypeId) (z:Value) (sz:Nat) (ht:P.underlying t=some (.slice e)) (hv:∀w,(zeroValue e).run P w=.ok z w) (hz:z.cells.size=sz) (h1:∀u ∈ z.cells.toList,u.oneCell'=true) (b o n c:Nat) (hn:0 < n)
  (hc:∀j,j < n*sz->(w.cell? ⟨b,o+j,none⟩).isSome=true) (hf:∀j,j < n*sz->w.frozen? ⟨b,o+j,none⟩=false):
  ∃vs,∀ty,(Builtin.clear_ #[t] ty #[.slice (some ⟨b,o,none⟩) n c]).run P w=.ok (.tuple #[]) (w.setCells b o vs):=by
 have hsz:=size_zeroCells z.cells n;have hst:=run_storeCells_cells (P:=P) b o (Builtin.zeroCells z.cells n).toList 0 w (by simpa[hsz,hz] using hc) (by simpa[hsz,hz] using hf) (by
  intro v hv';have hm:v ∈ Builtin.zeroCells z.cells n:=by simpa using hv'
  refine h1 v ?_;unfold Builtin.zeroCells at hm;obtain⟨i,hi,rfl⟩:=Array.mem_map.1 hm;have hi:i < n*z.cells.size:=by simpa using hi
  have hpos:0 < z.cells.size:=Nat.pos_of_ne_zero fun e=>by rw[e] at hi;omega
  rw[getElem!_pos z.cells _ (Nat.mod_lt _ hpos)];simp)
 simp only[Nat.add_zero] at hst;obtain⟨m,rfl⟩:∃m,n=m+1:=⟨n - 1,by omega⟩
 exact⟨(Builtin.zeroCells z.cells (m+1)).toList,fun ty=>by simp[Builtin.clear_,run_underlying ht,hv,hst]⟩
theorem dd_Index {v:Value} {l:List Dd} {B:Nat} (w:World) (h:qj Dd.cells 112 8 w B v l) (hl:l.length<=400) {g:Nat} {lb:Array Value} {p:Dd->Bool} (eg:∀args w,(callFunc g args).run Tryz.prog w=.ok (.enter g args) w)
  (hp:Yx Tryz.prog g lb (fun d:Dd=>.agg d.cells.toArray) p (· ∈ l) w v.ownBlock):
  Calls Tryz.prog 156 #[v,.func (.func g) #[] lb] w fun e w'=>e=.returned (.int .i64 (Vd p l))/\Below w.heap.size w w':=by
 obtain⟨av,cv,rfl⟩:=qj.sli h;have HH:=qd h;have HP:=qd hp;clear h hp;go_enter Tryz.func156,Tryz.ntmps156;go_wp2_with fail;obtain⟨W,rfl⟩:∃W,W=w:=⟨_,rfl⟩
 go_loopw [8] (fun q wr=>∃(k:Nat),k<=l.length/\q=.int .i64 k/\(∀x ∈ l.take k,p x=false)/\Below W.heap.size W wr) (fun q _=>l.length - (intOf q).toNat)
 case atStart=>exact⟨0,by omega,by go_num,by simp,Below.refl _ _⟩
 case round=>
  obtain⟨k,hk,rfl,hn,hb⟩:=hrel;have HN:=qd hn;have HB:=qd hb;have hsz:=hb.size;clear hn hb;by_cases hlt:k < l.length
  ·obtain ⟨b,off,d,rfl,hb,hdk,hc⟩:=(qj.sl HH.o).atF Dd.len rfl hlt
   have HDK:=qd hdk;have hcl:=qd (HP.o wr d (List.mem_of_getElem? hdk) (grownBy.below (grownBy.refl _ _) HB.o));obtain⟨ob,op,ke,va,re,go,at_,ba⟩:=d;have c0:wr.cell? ⟨b,off+k*8,none⟩=some (.int .i64 ob):=qp HB.o hb (hc 0 (by decide));have c1:wr.cell? ⟨b,off+k*8+1,none⟩=some (.int .i64 op):=qp HB.o hb (hc 1 (by decide));have c2:wr.cell? ⟨b,off+k*8+2,none⟩=some (.int .i64 ke):=qp HB.o hb (hc 2 (by decide));have c3:wr.cell? ⟨b,off+k*8+3,none⟩=some (.int .i64 va):=qp HB.o hb (hc 3 (by decide));have c4:wr.cell? ⟨b,off+k*8+4,none⟩=some (.int .i64 re):=qp HB.o hb (hc 4 (by decide));have c5:wr.cell? ⟨b,off+k*8+5,none⟩=some (.int .i64 go):=qp HB.o hb (hc 5 (by decide));have c6:wr.cell? ⟨b,off+k*8+6,none⟩=some (.int .i64 at_):=qp HB.o hb (hc 6 (by decide));have c7:wr.cell? ⟨b,off+k*8+7,none⟩=some (.int .i64 ba):=qp HB.o hb (hc 7 (by decide));have hbw:b < wr.heap.size:=by omega
   clear hc hdk;obtain⟨r,hr⟩:∃r,p ⟨ob,op,ke,va,re,go,at_,ba⟩=r:=⟨_,rfl⟩
   rw[hr] at hcl;have HR:=qd hr;clear hr;go_wp2_with fail;refine(hcl.o).mono ?_;rintro e w1 ⟨rfl,b1⟩;have HB1:=qd (HB.o.trans (b1.mono hsz));clear b1 hcl;cases r with
   |true=>
    go_wp2_with fail;refine bodyPost_ret (v:=.int .i64 k) (by simp[results,Tryz.results156,go_sem]) rfl ?_;exact⟨by rw[idx_at HDK.o HR.o HN.o],HB1.o⟩
   |false=>
    go_wp2_with fail;go_roundw
    case rel=>
     refine⟨k+1,by omega,by go_num,fun x hx=>?_,HB1.o⟩;rw[List.take_add_one,HDK.o,Option.toList_some] at hx;rcases List.mem_append.1 hx with hx|hx
     ·exact HN.o x hx
     ·rw [List.mem_singleton.1 hx];exact HR.o
    case measure=>simp[intOf];omega
  ·obtain rfl:k=l.length:=by omega
   have hq:decide ((l.length:Int) < (l.length:Int))=false:=by simp
   go_wp2_with fail;refine bodyPost_ret (v:=.int .i64 (-1)) (by simp[results,Tryz.results156,go_sem]) rfl ?_;refine⟨by rw[KG fun x hx=>HN.o x (by rw[List.take_length];exact hx)],HB.o⟩
theorem RU (w:World):(sizeOf (Tryz.prog.elem 47)).run Tryz.prog w=.ok 8 w:=by kernel_rfl
theorem dd_zero:∃z:Value,(∀w,(zeroValue 112).run Tryz.prog w=.ok z w)/\z.cells.size=8/\∀u ∈ z.cells.toList,u.oneCell'=true:=⟨(.agg #[.int .i64 0,.int .i64 0,.int .i64 0,.int .i64 0,.int .i64 0,.int .i64 0,.int .i64 0,.int .i64 0]),fun w=>by kernel_rfl,rfl,by intro u hu;simp[Value.cells] at hu;rcases hu with rfl|rfl|rfl|rfl|rfl|rfl|rfl|rfl <;> rfl⟩
theorem dd_set {w:World} {B g n c i:Nat} {l:List Dd} (h:qj Dd.cells 112 8 w B (.slice (some ⟨g,0,none⟩) n c) l) (hi:i < n) (ob:Int) (op:Int) (ke:Int) (va:Int) (re:Int) (go:Int) (at_:Int) (ba:Int):
  qj Dd.cells 112 8 ((((((((w.setCell ⟨g,i*8,none⟩ (.int .i64 ob)).setCell ⟨g,i*8+1,none⟩ (.int .i64 op)).setCell ⟨g,i*8+2,none⟩ (.int .i64 ke)).setCell ⟨g,i*8+3,none⟩ (.int .i64 va)).setCell ⟨g,i*8+4,none⟩ (.int .i64 re)).setCell ⟨g,i*8+5,none⟩ (.int .i64 go)).setCell ⟨g,i*8+6,none⟩ (.int .i64 at_)).setCell ⟨g,i*8+7,none⟩ (.int .i64 ba)) B (.slice (some ⟨g,0,none⟩) n c) (l.set i ⟨ob,op,ke,va,re,go,at_,ba⟩):=by
 have hn:=qj.len h;obtain⟨d,hd⟩:∃d,l[i]?=some d:=⟨_,List.getElem?_eq_getElem (by omega)⟩
 obtain⟨b0,b1,b2,b3,b4,b5,b6,b7⟩:=d;have il:∀u:Dd,(l.set i u)[i]?=some u:=fun u=>List.getElem?_set_self (by omega);have h1:=zU h Dd.len (u:=(⟨ob,b1,b2,b3,b4,b5,b6,b7⟩:Dd)) (x:=(⟨b0,b1,b2,b3,b4,b5,b6,b7⟩:Dd)) (a:=.int .i64 ob) (j:=0) (by decide) hd rfl;have h2:=zU h1 Dd.len (u:=(⟨ob,op,b2,b3,b4,b5,b6,b7⟩:Dd)) (x:=(⟨ob,b1,b2,b3,b4,b5,b6,b7⟩:Dd)) (a:=.int .i64 op) (j:=1) (by decide) (il _) rfl;rw[List.set_set] at h2;have h3:=zU h2 Dd.len (u:=(⟨ob,op,ke,b3,b4,b5,b6,b7⟩:Dd)) (x:=(⟨ob,op,b2,b3,b4,b5,b6,b7⟩:Dd)) (a:=.int .i64 ke) (j:=2) (by decide) (il _) rfl;rw[List.set_set] at h3;have h4:=zU h3 Dd.len (u:=(⟨ob,op,ke,va,b4,b5,b6,b7⟩:Dd)) (x:=(⟨ob,op,ke,b3,b4,b5,b6,b7⟩:Dd)) (a:=.int .i64 va) (j:=3) (by decide) (il _) rfl;rw[List.set_set] at h4;have h5:=zU h4 Dd.len (u:=(⟨ob,op,ke,va,re,b5,b6,b7⟩:Dd)) (x:=(⟨ob,op,ke,va,b4,b5,b6,b7⟩:Dd)) (a:=.int .i64 re) (j:=4) (by decide) (il _) rfl;rw[List.set_set] at h5;have h6:=zU h5 Dd.len (u:=(⟨ob,op,ke,va,re,go,b6,b7⟩:Dd)) (x:=(⟨ob,op,ke,va,re,b5,b6,b7⟩:Dd)) (a:=.int .i64 go) (j:=5) (by decide) (il _) rfl;rw[List.set_set] at h6;have h7:=zU h6 Dd.len (u:=(⟨ob,op,ke,va,re,go,at_,b7⟩:Dd)) (x:=(⟨ob,op,ke,va,re,go,b6,b7⟩:Dd)) (a:=.int .i64 at_) (j:=6) (by decide) (il _) rfl;rw[List.set_set] at h7;have h8:=zU h7 Dd.len (u:=(⟨ob,op,ke,va,re,go,at_,ba⟩:Dd)) (x:=(⟨ob,op,ke,va,re,go,at_,b7⟩:Dd)) (a:=.int .i64 ba) (j:=7) (by decide) (il _) rfl;rw[List.set_set] at h8;exact h8
theorem Mg {v:Value} {l:List Dd} {B:Nat} (w:World) (h:qj Dd.cells 112 8 w B v l) (hl:l.length<=400) {g0:Nat} {lb:Array Value} {p:Dd->Bool} (eg:∀args w,(callFunc g0 args).run Tryz.prog w=.ok (.enter g0 args) w)
  (hp:Yx Tryz.prog g0 lb (fun d:Dd=>.agg d.cells.toArray) p (· ∈ l) w v.ownBlock):
  Calls Tryz.prog 107 #[v,.func (.func g0) #[] lb] w fun e w'=>∃v',e=.returned v'/\qj Dd.cells 112 8 w' B v' (l.filter fun x=>!p x)/\Yz w w' v v':=by
 obtain⟨av,cv,rfl⟩:=qj.sli h;have hix:=dd_Index w h hl eg hp;rcases Un (p:=p) (l:=l) with⟨e1,e2⟩|⟨k,d,e1,hkl,hkd,hpd,e2⟩
 ·rw [e1] at hix
  have HX:=qd hix;have HH:=qd h;have HE:=qd e2;clear hix h hp e1 e2;go_enter Tryz.func107,Tryz.ntmps107;go_wp2_with fail;refine(HX.o).mono ?_;rintro e w1 ⟨rfl,b1⟩;have O1:=qd (qj.below HH.o b1);have G1:=qd (show Yz w w1 (.slice av l.length cv) (.slice av l.length cv) from⟨grownBy.below (grownBy.refl w _) b1,fun _ h=>.inl h⟩);clear b1 HX;go_wp2_with fail;go_ret;exact⟨_,rfl,by rw[HE.o];exact O1.o,G1.o⟩
 ·obtain ⟨g,hgv⟩:∃g,av=some ⟨g,0,none⟩:=by
   rcases qj.form h with⟨-,h2⟩|⟨g,cap,h1,-⟩
   ·rw [h2] at hkl;simp at hkl
   ·exact ⟨g,by simp only[Value.slice.injEq] at h1;exact h1.1⟩
  subst hgv;rw[e1] at hix;have hgB:=qj.lt h g rfl;have hcap:=qj.capD h;have HX:=qd hix;have HH:=qd h;have HE:=qd e2;have HP:=qd hp;clear hix h hp e1 e2;have qk:((k:Int)==-1)=false:=beq_eq_false_iff_ne.2 (by omega);go_enter Tryz.func107,Tryz.ntmps107;go_wp2_with fail;refine(HX.o).mono ?_;rintro e w1 ⟨rfl,b1⟩;have O1:=qd (qj.below HH.o b1);have G1:=qd (grownBy.below (grownBy.refl w (some g)) b1);clear b1 HX;go_wp2_with fail
  go_loopw [5,6] (fun q r wr=>∃(i j:Nat) (dk:List Dd),i < j/\j<=l.length/\q=.int .i64 i/\r=.int .i64 j/\dk.length=l.length/\dk.take i=(l.take j).filter (fun x=>!p x)/\dk.drop j=l.drop j/\qj Dd.cells 112 8 wr B (.slice (some ⟨g,0,none⟩) l.length cv) dk/\w.grownBy wr (some g)) (fun _ r _=>l.length - (intOf r).toNat)
  case atStart=>exact⟨k,k+1,l,by omega,by omega,rfl,by first|rfl|go_num,rfl,HE.o.symm,rfl,O1.o,G1.o⟩
  case round=>
   obtain⟨i,j,dk,hij,hj,rfl,rfl,hdl,htk,hdr,ho,hg⟩:=hrel;have hsz:=hg.size;have HTK:=qd htk;have HDR:=qd hdr;have HO:=qd ho;have HG:=qd hg;have HDL:=qd hdl;clear htk hdr ho hg hdl O1 G1;by_cases hlt:j < l.length
   ·have hdl2:qj Dd.cells 112 8 wr B (.slice (some ⟨g,0,none⟩) dk.length cv) dk:=by rw[HDL.o];exact HO.o
    obtain⟨b,off,d,hqe,hb,hdk,hc⟩:=(qj.sl hdl2).atF Dd.len rfl (show j < dk.length by rw[HDL.o];exact hlt);simp only[Option.some.injEq,Addr.mk.injEq,and_true] at hqe;obtain⟨rfl,rfl⟩:=hqe;have hlj:l[j]?=some d:=by rw[←WH HDR.o];exact hdk
    have HLJ:=qd hlj;have HMm:=qd (List.mem_of_getElem? hlj);obtain⟨ob,op,ke,va,re,go,at_,ba⟩:=d;have c0:wr.cell? ⟨g,j*8,none⟩=some (.int .i64 ob):=by have:=hc 0 (by decide);simpa[Dd.cells] using this
    have c1:wr.cell? ⟨g,j*8+1,none⟩=some (.int .i64 op):=by have:=hc 1 (by decide);simpa[Dd.cells] using this
    have c2:wr.cell? ⟨g,j*8+2,none⟩=some (.int .i64 ke):=by have:=hc 2 (by decide);simpa[Dd.cells] using this
    have c3:wr.cell? ⟨g,j*8+3,none⟩=some (.int .i64 va):=by have:=hc 3 (by decide);simpa[Dd.cells] using this
    have c4:wr.cell? ⟨g,j*8+4,none⟩=some (.int .i64 re):=by have:=hc 4 (by decide);simpa[Dd.cells] using this
    have c5:wr.cell? ⟨g,j*8+5,none⟩=some (.int .i64 go):=by have:=hc 5 (by decide);simpa[Dd.cells] using this
    have c6:wr.cell? ⟨g,j*8+6,none⟩=some (.int .i64 at_):=by have:=hc 6 (by decide);simpa[Dd.cells] using this
    have c7:wr.cell? ⟨g,j*8+7,none⟩=some (.int .i64 ba):=by have:=hc 7 (by decide);simpa[Dd.cells] using this
    obtain⟨r,hr⟩:∃r,p ⟨ob,op,ke,va,re,go,at_,ba⟩=r:=⟨_,rfl⟩
    have HR:=qd hr;have b3:Below wr.heap.size wr (wr.alloc (.cells #[.int .i64 ob,.int .i64 op,.int .i64 ke,.int .i64 va,.int .i64 re,.int .i64 go,.int .i64 at_,.int .i64 ba] 112)):=(Below.refl _ wr).alloc (Nat.le_refl _) _;have r3:=qs wr (.cells #[.int .i64 ob,.int .i64 op,.int .i64 ke,.int .i64 va,.int .i64 re,.int .i64 go,.int .i64 at_,.int .i64 ba] 112);have hcl:=HP.o (wr.alloc (.cells #[.int .i64 ob,.int .i64 op,.int .i64 ke,.int .i64 va,.int .i64 re,.int .i64 go,.int .i64 at_,.int .i64 ba] 112)) ⟨ob,op,ke,va,re,go,at_,ba⟩ HMm.o (grownBy.below HG.o b3);rw[hr] at hcl;have HCL:=qd hcl;have O3:=qd (qj.below HO.o b3);have G3:=qd (grownBy.below HG.o b3);have hsz3:=b3.size;have R3:=qd r3;have r3c:=qa r3;have y0:=r3c 0;have y1:=r3c 1;have y2:=r3c 2;have y3:=r3c 3;have y4:=r3c 4;have y5:=r3c 5;have y6:=r3c 6;have y7:=r3c 7;simp at y0 y1 y2 y3 y4 y5 y6 y7;have yl:=qe r3;clear r3c r3;clear hcl hr hlj hdk hc hdl2 b3;go_wp2_with fail;refine(HCL.o).mono ?_;rintro e W4 ⟨rfl,b4⟩;have O4:=qd (qj.below O3.o b4);have G4:=qd (grownBy.below G3.o b4);have hsz4:=b4.size;have r4:=qh R3.o b4 yl;clear y0 y1 y2 y3 y4 y5 y6 y7 yl;have r3c:=qa r4;have y0:=r3c 0;have y1:=r3c 1;have y2:=r3c 2;have y3:=r3c 3;have y4:=r3c 4;have y5:=r3c 5;have y6:=r3c 6;have y7:=r3c 7;simp at y0 y1 y2 y3 y4 y5 y6 y7;have yl:=qe r4;clear r3c r4;clear b4 HCL;cases r with
    |true=>
     go_wp2_with fail;go_roundw
     case rel=>
      refine⟨i,j+1,dk,by omega,by omega,rfl,by go_num,HDL.o,by rw[WB HLJ.o HR.o];exact HTK.o,?_,O4.o,G4.o⟩;have:=congrArg (List.drop 1) HDR.o;simpa[List.drop_drop] using this
     case measure=>simp[intOf];omega
    |false=>
     have hdl4:qj Dd.cells 112 8 W4 B (.slice (some ⟨g,0,none⟩) dk.length cv) dk:=by rw[HDL.o];exact O4.o
     obtain⟨b',off',d',hqe,hb',hdk',hx⟩:=(qj.sl hdl4).atF Dd.len rfl (show i < dk.length by rw[HDL.o];omega);simp only[Option.some.injEq,Addr.mk.injEq,and_true] at hqe;obtain⟨rfl,rfl⟩:=hqe;have x0:=hx 0 (by decide);have x1:=hx 1 (by decide);have x2:=hx 2 (by decide);have x3:=hx 3 (by decide);have x4:=hx 4 (by decide);have x5:=hx 5 (by decide);have x6:=hx 6 (by decide);have x7:=hx 7 (by decide);simp[Dd.cells] at x0 x1 x2 x3 x4 x5 x6 x7;obtain⟨csG,hcsG⟩:=qj.objD O4.o;have hgl:=qe hcsG;have zf:=fun o=>qt hcsG o;have OS:=qd (dd_set O4.o (show i < l.length by omega) ob op ke va re go at_ ba);clear hx hdk' hdl4 hcsG;go_wp2_with fail;go_roundw
     case rel=>
      refine⟨i+1,j+1,dk.set i ⟨ob,op,ke,va,re,go,at_,ba⟩,by omega,by omega,by go_num,by go_num,by rw[List.length_set];exact HDL.o,?_,?_,OS.o,grownBy.set (grownBy.set (grownBy.set (grownBy.set (grownBy.set (grownBy.set (grownBy.set (grownBy.set (G4.o))))))))⟩
      ·rw [VL (by rw[HDL.o];omega),Rz HLJ.o HR.o,HTK.o]
      ·rw [VM (by omega)]
       have:=congrArg (List.drop 1) HDR.o;simpa[List.drop_drop] using this
     case measure=>simp[intOf];omega
   ·obtain rfl:j=l.length:=by omega
    have hq:decide ((l.length:Int) < (l.length:Int))=false:=by simp
    have HT:=qd (show dk.take i=l.filter fun x=>!p x by rw[HTK.o,List.take_length]);have OT:=qd (qj.takeF HO.o Dd.len (show i<=l.length by omega));obtain⟨csG,hcsG⟩:=qj.objD HO.o;have hgl:=qe hcsG;obtain⟨z,hz1,hz2,hz3⟩:=dd_zero;have HF:=qd (fun o=>qt hcsG o);have HC:=qd (qj.cellsAt HO.o HDL.o Dd.len);obtain⟨vs,hclr⟩:=Xh wr 47 112 z 8 Tryz.underlying47 hz1 hz2 hz3 g (i*8) (l.length - i) (cv - i) (by omega) (fun t ht=>HC.o (i*8+t) (by have:(l.length - i)*8=l.length*8 - i*8:=Nat.sub_mul .. ;omega)) (fun t ht=>HF.o _);have hslA:∀X:World,(Instr.slice 47 (.slice (some ⟨g,0,none⟩) l.length cv) (some (.int .i64 (i:Int))) none none).run Tryz.prog X=.ok (.slice (some ⟨g,i*8,none⟩) (l.length - i) (cv - i)) X:=fun X=>by
     rw[run_slice_l X _ _ _ _ Tryz.underlying47 _ _ (by omega) (by omega),RU];simp only[Result.andThen,sliced,Int.toNat_natCast];congr 2;rw[if_neg (by omega)]
     first|(simp[Addr.add];done)|(simp[Addr.add];intro h;omega)
    have hslB:∀X:World,(Instr.slice 47 (.slice (some ⟨g,0,none⟩) l.length cv) none (some (.int .i64 (i:Int))) none).run Tryz.prog X=.ok (.slice (some ⟨g,0,none⟩) i cv) X:=fun X=>by
     rw[run_slice_h X _ _ _ _ Tryz.underlying47 _ _ (by omega) (by omega),RU];simp only[Result.andThen,sliced,Int.toNat_natCast,Nat.sub_zero];congr 2
     split
     ·rfl
     ·simp [Addr.add]
    have OB:=qd (qj.behind Dd.len vs (i*8) OT.o (Nat.le_refl _));have GB:=qd (grownBy.sets vs (i*8) HG.o);clear hcsG hz1 hz3;go_wp2_with fail;go_ret;refine⟨_,rfl,by rw[←HT.o];have:=OB.o;exact this,⟨GB.o,fun k hk=>.inl hk⟩⟩
end
section
attribute [local irreducible] xL
theorem p_same (ob:Int) {w:World} {q:Option Nat} {nb:Nat} {cs:Array Value} (hr:w.heap[nb]?=some (.cells cs 112 (0,0))) (hc:w.cell? ⟨nb,0,none⟩=some (.int .i64 ob)) (hq:q≠some nb) {L:Dd->Prop}:
  Yx Tryz.prog 108 #[.pointer (some ⟨nb,0,none⟩)] (fun d:Dd=>.agg d.cells.toArray) (fun d=>d.obj==ob) L w q:=by
 intro W x _ hg;have hl:=qe hr;have e:=hg.block nb hl fun h=>hq h.symm;have hc':W.cell? ⟨nb,0,none⟩=some (.int .i64 ob):=by
  rw[←hc];simp only[World.cell?,e]
 have hlW:nb < W.heap.size:=Nat.lt_of_lt_of_le hl hg.size;obtain⟨o,op,ke,va,re,go,at_,ba⟩:=x;have b0:Below W.heap.size W (W.alloc (.cells #[.int .i64 o,.int .i64 op,.int .i64 ke,.int .i64 va,.int .i64 re,.int .i64 go,.int .i64 at_,.int .i64 ba] 112)):=(Below.refl _ W).alloc (Nat.le_refl _) _;have B0:=qd b0;obtain⟨r,hrr⟩:∃r:Bool,(o==ob)=r:=⟨_,rfl⟩
 have ea:∀a b:Value,(#[a]++#[b]:Array Value)=#[a,b]:=fun a b=>by simp
 rw[ea];simp only[Dd.cells];clear ea;show Calls _ _ _ W fun e w'=>e=.returned (.bool (o==ob))/\Below W.heap.size W w';rw[hrr];clear e hg hc hr b0 hl
 trace_state
 go_enter Tryz.func108,Tryz.ntmps108;go_wp2;go_ret;exact⟨rfl,B0.o⟩
theorem Yj (l:List Dd):(xX l).length<=l.length:=by
 induction l using zy with
 |h0=>exact Nat.le_refl _
 |h1 l d ih=>
  rw[jS,List.length_append,List.length_singleton]
  split
  ·rw [List.length_append,List.length_singleton]
   have:=List.length_filter_le (fun o:Dd=>o.obj !=d.obj) (xX l);omega
  ·omega
theorem MU (i th st be fi tr:Int) (dv:Value) (l:List Dd) (w:World) (hd:Sl w w.heap.size 8 dv l.length (l.flatMap Dd.cells)) (hl:l.length<=400):
  Calls Tryz.prog 65 #[.agg #[.int .i64 i,.int .i64 th,.int .i64 st,.int .i64 be,.int .i64 fi,.int .i64 tr,dv]] w fun e w'=>∃v,e=.returned v/\XH w' w.heap.size v (xX l)/\Below w.heap.size w w':=by
 obtain⟨ad,cd,rfl,md⟩:=hd.ex;have HD:=qd hd;clear hd md;go_enter Tryz.func65,Tryz.ntmps65;go_wp2_with fail;have B0:=qd (show Below w.heap.size w (w.alloc (.cells #[.int .i64 i,.int .i64 th,.int .i64 st,.int .i64 be,.int .i64 fi,.int .i64 tr,.slice ad l.length cd] 49)) from(Below.refl _ w).alloc (Nat.le_refl _) _);generalize w.alloc (.cells #[.int .i64 i,.int .i64 th,.int .i64 st,.int .i64 be,.int .i64 fi,.int .i64 tr,.slice ad l.length cd] 49)=W at *
 go_loopw [3,9] (fun q p wr=>∃(k:Nat),k<=l.length/\p=.int .i64 k/\XH wr w.heap.size q (xX (l.take k))/\Below w.heap.size w wr) (fun _ p _=>l.length - (intOf p).toNat)
 case atStart=>exact⟨0,by omega,by go_num,qj.nil _ _,B0.o⟩
 case round=>
  obtain⟨k,hk,rfl,qo,qb⟩:=hrel;clear B0 W;have hsz:=qb.size;obtain⟨X,hX⟩:∃X,xX (l.take k)=X:=⟨_,rfl⟩
  rw[hX] at qo;obtain⟨aq,cq,rfl⟩:=qj.sli qo;have HXX:=qd hX;have QO:=qd qo;have QB:=qd qb;clear qo qb hX;by_cases hlt:k < l.length
  ·obtain ⟨b,off,d,rfl,hb,hdk,hc⟩:=HD.o.atF Dd.len rfl hlt
   have HR:=qd (show xX (l.take (k+1))=if d.op=2/\d.ret=1 then X.filter (fun o=>o.obj !=d.obj)++[d] else X by
    rw[List.take_add_one,hdk,Option.toList_some,jS,HXX.o])
   have hXl:X.length<=400:=by
    rw[←HXX.o];exact Nat.le_trans (Yj _) (by rw[List.length_take];omega)
   obtain⟨ob,op,ke,va,re,go,at_,ba⟩:=d;have c0:wr.cell? ⟨b,off+k*8,none⟩=some (.int .i64 ob):=qp QB.o hb (hc 0 (by decide));have c1:wr.cell? ⟨b,off+k*8+1,none⟩=some (.int .i64 op):=qp QB.o hb (hc 1 (by decide));have c2:wr.cell? ⟨b,off+k*8+2,none⟩=some (.int .i64 ke):=qp QB.o hb (hc 2 (by decide));have c3:wr.cell? ⟨b,off+k*8+3,none⟩=some (.int .i64 va):=qp QB.o hb (hc 3 (by decide));have c4:wr.cell? ⟨b,off+k*8+4,none⟩=some (.int .i64 re):=qp QB.o hb (hc 4 (by decide));have c5:wr.cell? ⟨b,off+k*8+5,none⟩=some (.int .i64 go):=qp QB.o hb (hc 5 (by decide));have c6:wr.cell? ⟨b,off+k*8+6,none⟩=some (.int .i64 at_):=qp QB.o hb (hc 6 (by decide));have c7:wr.cell? ⟨b,off+k*8+7,none⟩=some (.int .i64 ba):=qp QB.o hb (hc 7 (by decide));have hbw:b < wr.heap.size:=by omega
   have b3:Below wr.heap.size wr (wr.alloc (.cells #[.int .i64 ob,.int .i64 op,.int .i64 ke,.int .i64 va,.int .i64 re,.int .i64 go,.int .i64 at_,.int .i64 ba] 112)):=(Below.refl _ wr).alloc (Nat.le_refl _) _;have r3:=qs wr (.cells #[.int .i64 ob,.int .i64 op,.int .i64 ke,.int .i64 va,.int .i64 re,.int .i64 go,.int .i64 at_,.int .i64 ba] 112);have QO3:=qd (qj.below QO.o b3);have B3:=qd (QB.o.trans (b3.mono hsz));have hz3:(wr.alloc (.cells #[.int .i64 ob,.int .i64 op,.int .i64 ke,.int .i64 va,.int .i64 re,.int .i64 go,.int .i64 at_,.int .i64 ba] 112)).heap.size=wr.heap.size+1:=by simp
   have HZ3:=qd (show w.heap.size<=(wr.alloc (.cells #[.int .i64 ob,.int .i64 op,.int .i64 ke,.int .i64 va,.int .i64 re,.int .i64 go,.int .i64 at_,.int .i64 ba] 112)).heap.size by omega);have hne3:(Value.slice aq X.length cq).ownBlock≠some wr.heap.size:=fun e=>absurd (qj.lt QO.o _ e).2 (Nat.lt_irrefl _);have z0:(wr.alloc (.cells #[.int .i64 ob,.int .i64 op,.int .i64 ke,.int .i64 va,.int .i64 re,.int .i64 go,.int .i64 at_,.int .i64 ba] 112)).cell? ⟨wr.heap.size,0,none⟩=some (.int .i64 ob):=qa r3 0;have y:=qa r3;have y0:=y 0;have y1:=y 1;have y4:=y 4;simp at y0 y1 y4;have yl:=qe r3;have R3:=qd r3;have DP:=qd (Mg _ QO3.o hXl (enters_of Tryz.func108 (by kernel_rfl) rfl) (p_same ob r3 z0 hne3 (L:=(· ∈ X))));clear hc hdk y r3 b3 z0;by_cases e1:op=2
   ·subst e1
    by_cases e4:re=1
    ·subst e4
     go_wp2_with fail;generalize wr.alloc (.cells #[.int .i64 ob,.int .i64 2,.int .i64 ke,.int .i64 va,.int .i64 1,.int .i64 go,.int .i64 at_,.int .i64 ba] 112)=W3 at *;refine(DP.o).mono ?_;rintro e W4 ⟨v4,rfl,o4,G4⟩;obtain⟨a4,c4,rfl⟩:=qj.sli o4;obtain⟨Y,hY⟩:∃Y,(X.filter fun x=>!(x.obj==ob))=Y:=⟨_,rfl⟩
     rw[hY] at o4 G4;have hYl:Y.length<=400:=by rw[←hY];exact Nat.le_trans (List.length_filter_le _ _) hXl
     have HY:=qd hY;have r4:W4.heap[wr.heap.size]?=some _:=qS R3.o G4 hne3;have z4:=G4.size;have O4:=qd o4;have HZ4:=qd (show w.heap.size<=W4.heap.size by have:=HZ3.o;omega);have B4:=qd (B3.o.trans (G4.below (B:=w.heap.size) HZ3.o fun j hj=>(qj.lt QO3.o j hj).1));clear y0 y1 y4 yl DP hY;have y:=qa r4;have y0:=y 0;have y1:=y 1;have y2:=y 2;have y3:=y 3;have y4:=y 4;have y5:=y 5;have y6:=y 6;have y7:=y 7;simp at y0 y1 y2 y3 y4 y5 y6 y7;have yl:=qe r4;rw[show (X.filter fun x=>!(x.obj==ob)).length=Y.length by rw[HY.o]];clear y r4 o4 G4;go_wp2_with (at_builtin;refine qM rfl _ _ _ rfl _ 64 Tryz.underlying47 ZA rfl O4.o (⟨ob,2,ke,va,1,go,at_,ba⟩:Dd) HZ4.o (by rfl) (by rfl) (by first|rfl|simp) rfl (Vo _) (by first|omega|(simp only[List.length_append,List.length_cons,List.length_nil,List.length_replicate];omega)) (by first|omega|(simp only[List.length_append,List.length_cons,List.length_nil,List.length_replicate];omega)) ?_;refine qH.halt ?_)
     refine qH.go ?_;intro g5 c5 w5 o5 G5;have O5:=qd o5;have B5:=qd (B4.o.trans (G5.below (B:=w.heap.size) HZ4.o fun j hj=>(qj.lt O4.o j hj).1));clear o5 G5;go_wp2_with fail;go_roundw
     case rel=>
      refine⟨k+1,by omega,by go_num,?_,B5.o⟩;have e:=HR.o;rw[if_pos ⟨trivial,trivial⟩,show(X.filter fun o=>o.obj !=ob)=Y from HY.o] at e;rw[e];exact O5.o
     case measure=>simp[intOf];omega
    ·have q4:(re !=1)=true:=by simpa using e4
     have HE:=qd e4;clear e4;go_wp2_with fail;generalize wr.alloc (.cells #[.int .i64 ob,.int .i64 2,.int .i64 ke,.int .i64 va,.int .i64 re,.int .i64 go,.int .i64 at_,.int .i64 ba] 112)=W3 at *;go_roundw
     case rel=>
      refine⟨k+1,by omega,by go_num,?_,B3.o⟩;have e:=HR.o;rw[if_neg (fun h=>HE.o h.2)] at e;rw[e];exact QO3.o
     case measure=>simp[intOf];omega
   ·have q1:(op !=2)=true:=by simpa using e1
    have HE:=qd e1;clear e1;go_wp2_with fail;generalize wr.alloc (.cells #[.int .i64 ob,.int .i64 op,.int .i64 ke,.int .i64 va,.int .i64 re,.int .i64 go,.int .i64 at_,.int .i64 ba] 112)=W3 at *;go_roundw
    case rel=>
     refine⟨k+1,by omega,by go_num,?_,B3.o⟩;have e:=HR.o;rw[if_neg (fun h=>HE.o h.1)] at e;rw[e];exact QO3.o
    case measure=>simp[intOf];omega
  ·obtain rfl:k=l.length:=by omega
   have e:=HXX.o;rw[List.take_length] at e;have hq:decide ((l.length:Int) < (l.length:Int))=false:=by simp
   have HE:=qd e;clear e;go_wp2;go_ret;exact⟨_,rfl,by rw[HE.o];exact QO.o,QB.o⟩
end
