/- Parts of the proof; the first: What is known of the deeds of a well-formed history's table; the premise of its prefixes. Conditions: those of each theorem, as typed. -/
import Derived.Test.YtcpfbphcldocpaaGreatDoorQC17
import Derived.Test.YtcpfbphcldocpaaGreatDoorQC12
import Derived.Test.YtcpfbphcldocpaaGreatDoorQC23
import Derived.OwnWalkIn
import Derived.Test.YtcpfbphcldocpaaGreatDoorQC01
import Derived.Test.YtcpfbphcldocpaaGreatDoorQC02
set_option linter.unusedVariables false
set_option linter.unusedSimpArgs false
set_option linter.unusedSectionVars false
set_option maxRecDepth 100000
set_option maxHeartbeats 4000000
namespace Go.Proofs.YtcpfbphcldocpaaGreatDoor
open Go.Maps Go.RowKit
theorem Qm {x:Int} (h:-1000000000<=x/\x<=1000000000):dI x:=by
 unfold dI Lit.wf;simp[IntKind.min,IntKind.max,IntKind.bits,IntKind.signed];omega
structure DdG (os:List Ob) (d:Dd):Prop where
 obj:0<=d.obj
 kind:∃o,os[d.obj.toNat]?=some o/\jL d.op=o.kind
 val:-1000000000<=d.val/\d.val<=1000000000
 got:-1000000000<=d.got/\d.got<=1000000000
 ret:d.ret=0\/vy d.op d.ret=true
structure StG (os:List Ob) (s:St):Prop where
 id:1<=s.id/\s.id<=1000
 dd:∀d ∈ s.deeds,DdG os d
section
variable {os:List Ob} {es:List Ev} {A A':Au} {x e:Ev} {n:Nat}
theorem DdG.lt {d:Dd} (h:DdG os d):d.obj < os.length:=by
 obtain⟨o,ho,-⟩:=h.kind;have h1:=(List.getElem?_eq_some_iff.1 ho).1;have:=h.obj;omega
theorem bd_of {L:List Fd} {f:Fd} (h:L.all (jt x)=true) (hf:f ∈ L):f.lo<=vU x (xT f)/\vU x (xT f)<=f.hi:=by
 have:=List.all_eq_true.1 h f hf;unfold jt at this;simpa using this
theorem off_tx:xT qB=1:=by decide+kernel
theorem off_ob:xT xW=3:=by decide+kernel
theorem off_va:xT jV=6:=by decide+kernel
theorem WZ {L:List Fd} (ha:L.all (jt x)=true) (hz:QX x L=true) (h:jV ∈ L\/6 ∉ L.map xT):-1000000000<=x.val/\x.val<=1000000000:=by
 rcases h with h|h
 ·have:=bd_of ha h
  rw[off_va] at this;exact this
 ·have:=uE.1 hz 6 (by omega)
  unfold vh at this;rw[if_neg (by simp only[not_or];exact⟨by omega,h⟩)] at this;have e:x.val=0:=this;omega
theorem RJ (h:YF os x=true):(1<=x.tx/\x.tx<=1000)/\(-1000000000<=x.val/\x.val<=1000000000)/\(x.kind=2->0<=x.obj/\∃o,os[x.obj.toNat]?=some o/\jL x.op=o.kind):=by
 unfold YF at h;simp only[Bool.and_eq_true,Bool.or_eq_true] at h;obtain⟨hv,hk⟩:=h;unfold xM at hv;cases hL:ub x with
 |none=>rw[hL] at hv;cases hv
 |some L=>
  rw[hL] at hv;simp only[Bool.and_eq_true] at hv;obtain⟨ha,hz⟩:=hv;unfold ub at hL;have tx:qB ∈ L->1<=x.tx/\x.tx<=1000:=fun h=>by
   have:=bd_of ha h;rw[off_tx] at this;exact this
  split at hL
  ·rename_i h2
   split at hL
   ·cases hL
   ·cases hL
    refine⟨tx (by simp[jd]),WZ ha hz ?_,fun _=>⟨?_,?_⟩⟩
    ·unfold jd
     cases yV x.op
     ·right
      cases uy x.op <;> decide+kernel
     ·left;simp
    ·have:=bd_of ha (f:=xW) (by simp[jd])
     rw[off_ob] at this;exact this.1
    ·rcases hk with hk|hk
     ·simp [h2] at hk
     ·cases ho:os[x.obj.toNat]? with
      |none=>rw[ho] at hk;cases hk
      |some o=>
       rw[ho] at hk;exact⟨o,rfl,by simpa using hk⟩
  ·rename_i h2
   split at hL
   ·split at hL
    ·cases hL
     refine⟨tx (by unfold YC;split <;> simp),WZ ha hz ?_,fun h=>absurd h h2⟩;unfold YC
     split
     ·left;simp
     ·right;decide+kernel
    ·cases hL
   ·split at hL
    ·cases hL
     refine⟨tx (by unfold XB;split <;> simp),WZ ha hz ?_,fun h=>absurd h h2⟩;right;unfold XB
     split <;> decide+kernel
    ·cases hL
theorem StG.move {s s':St} (h:StG os s) (hx:YF os x=true) (hm:xB n x s=some s'):StG os s':=by
 obtain⟨h1,h2,h3⟩:=RJ hx;rcases xR hm with⟨hk,-,rfl⟩|⟨-,-,d,hd,hf,rfl⟩|⟨-,-,rfl⟩|⟨-,-,rfl⟩|⟨-,-,rfl⟩|⟨-,-,rfl⟩
 ·refine ⟨h.id,fun d hd=>?_⟩
  rcases List.mem_append.1 hd with hd|hd
  ·exact h.dd d hd
  ·obtain rfl:=List.mem_singleton.1 hd
   obtain⟨h4,h5⟩:=h3 hk;exact⟨h4,h5,h2,by simp[Ub],.inl rfl⟩
 ·have e1:yW x.ret x.val n s={s with stand:=1,deeds:=s.deeds.dropLast++[us d x.ret x.val n]}:=by unfold yW;rw[hd]
  rw[e1];refine⟨h.id,fun q hq=>?_⟩;rcases List.mem_append.1 hq with hq|hq
  ·exact h.dd q (List.dropLast_subset _ hq)
  ·obtain rfl:=List.mem_singleton.1 hq
   have:=h.dd d (List.mem_of_getLast? hd);exact⟨this.obj,this.kind,this.val,h2,.inr hf⟩
 ·exact ⟨h.id,h.dd⟩
 ·exact ⟨h.id,h.dd⟩
 ·exact ⟨h.id,h.dd⟩
 ·exact ⟨h.id,h.dd⟩
theorem MJ (h:∀s ∈ A,StG os s) (hx:YF os e=true) (hs:zu A n e=some A'):∀s ∈ A',StG os s:=by
 rcases xP hs with⟨-,-,-,rfl⟩|⟨k,s,s',-,hk,-,hm,rfl⟩
 ·intro s hs
  rcases List.mem_append.1 hs with hs|hs
  ·exact h s hs
  ·obtain rfl:=List.mem_singleton.1 hs
   exact⟨(RJ hx).1,fun d hd=>by cases hd⟩
 ·intro t ht
  rcases List.mem_or_eq_of_mem_set ht with ht|rfl
  ·exact h t ht
  ·exact (h s (List.mem_of_getElem? hk)).move hx hm
theorem Re:∀{l:List Ev} {A A':Au} {n:Nat},(∀s ∈ A,StG os s)->(∀e ∈ l,YF os e=true)->ye A n l=some A'->∀s ∈ A',StG os s
 |[],A,A',n,h,_,hr=>by
  simp only[ye,Option.some.injEq] at hr;exact hr▸h
 |e::l,A,A',n,h,he,hr=>by
  simp only[ye] at hr;obtain⟨B,hB,hr⟩:=Option.bind_eq_some_iff.1 hr;exact Re (MJ h (he e (by simp)) hB) (fun q hq=>he q (by simp[hq])) hr
theorem yh (h:qN os es=some A):os.length<=8/\es.length<=400/\(∀e ∈ es,YF os e=true)/\ye [] 0 es=some A:=by
 unfold qN at h
 split at h
 ·rename_i hh
  unfold xJ at hh;simp only[Bool.and_eq_true,decide_eq_true_eq,List.all_eq_true] at hh;exact⟨hh.1.1.1,hh.1.1.2,hh.2,h⟩
 ·cases h
theorem Qd (h:qN os es=some A):∀s ∈ A,StG os s:=by
 obtain⟨-,-,he,hr⟩:=yh h;exact Re (fun s hs=>by cases hs) he hr
theorem JM (h:qN os es=some A):A.length<=es.length:=by
 obtain⟨-,-,-,hr⟩:=yh h;have:=QI (m:=0) hr ⟨by simp,fun s hs=>(nomatch hs)⟩;omega
theorem YZ (h:qN os es=some A):JE os A:=by
 have hG:=Qd h;have hb:=Xa A h;refine⟨(yh h).1,hb.1,hb.2,fun s hs=>Qm (by have:=(hG s hs).id;omega),fun s hs d hd=>⟨((hG s hs).dd d hd).obj,((hG s hs).dd d hd).lt⟩,fun s hs d hd=>⟨Qm ((hG s hs).dd d hd).val,Qm ((hG s hs).dd d hd).got⟩⟩
theorem MW {k:Int}:jL k=1->k=1\/k=2:=by
 unfold jL
 split
 ·exact fun _=>‹_›
 ·split
  ·intro h;omega
  ·split
   ·intro h;omega
   ·split
    ·intro h;omega
    ·intro h;omega
theorem XQ:∀{l:List Dd} {rd:List Int} {wr wr':List (Int×Int)},xH os rd wr l=some wr'->∀d ∈ l,∃o,os[d.obj.toNat]?=some o/\o.kind=1
 |[],_,_,_,_=>fun d hd=>by cases hd
 |d::l,rd,wr,wr',h=>by
  unfold xH at h;cases ho:os[d.obj.toNat]? with
  |none=>rw[ho] at h;cases h
  |some o=>
   rw[ho] at h;simp only at h
   split at h
   ·rename_i hk
    have hrest:∀q ∈ l,∃o,os[q.obj.toNat]?=some o/\o.kind=1:=by
     split at h
     ·exact XQ h
     ·split at h
      ·exact XQ h
      ·cases h
    intro q hq;rcases List.mem_cons.1 hq with rfl|hq
    ·exact ⟨o,ho,hk⟩
    ·exact hrest q hq
   ·cases h
theorem XR:∀{A:Au} {wr:List (Int×Int)},qU os wr A=true->∀s ∈ A,∀d ∈ s.deeds,∃o,os[d.obj.toNat]?=some o/\o.kind=1
 |[],_,_=>fun s hs=>by cases hs
 |t::A,wr,h=>by
  unfold qU at h;cases hp:xH os [] wr t.deeds with
  |none=>rw[hp] at h;cases h
  |some wr'=>
   rw[hp] at h;intro s hs;rcases List.mem_cons.1 hs with rfl|hs
   ·exact XQ hp
   ·exact XR h s hs
theorem JU (h:qN os es=some A) (hp:qU os [] A=true):Mn A:=fun s hs d hd=>by
 obtain⟨o,ho,hk⟩:=XR hp s hs d hd;obtain⟨o',ho',hk'⟩:=((Qd h s hs).dd d hd).kind;rw[ho] at ho';obtain rfl:=Option.some.inj ho';exact MW (hk'.trans hk)
theorem VX (h:qN os es=some A) (hp:qU os [] A=true):Fed es A:=NU h (JU h hp)
theorem Xm (h:qN os es=some A) (hp:qU os [] A=true):(A.map (·.id)).Nodup:=fed_ids (VX h hp)
theorem QQ (h:qN os es=some A) (hp:qU os [] A=true):∀s ∈ A,YS s:=fun s hs=>by
 have hr:=JU h hp s hs;have hF:=VX h hp;refine⟨hr,fun d hd=>?_,fun j k d e hjk hj hk=>?_⟩
 ·rcases ((Qd h s hs).dd d hd).ret with e|e
  ·exact .inl e
  ·right
   rcases hr d hd with e1|e1 <;> rw[e1] at e <;> simp[vy,yV] at e
   ·exact .inr ⟨e1,e⟩
   ·exact .inl ⟨e1,e⟩
 ·have hkl:=(List.getElem?_eq_some_iff.1 hk).1
  refine fed_drop hF s hs d (List.mem_of_getElem? (i:=j) ?_);rw[List.getElem?_dropLast,if_pos (by omega)];exact hj
theorem jq:∀{l:List Dd} {rd:List Int} {wr wr' wr0:List (Int×Int)},xH os rd wr l=some wr'->(∀p ∈ wr0,p ∈ wr)->∃wr1,xH os rd wr0 l=some wr1/\∀p ∈ wr1,p ∈ wr'
 |[],rd,wr,wr',wr0,h,hs=>by
  simp only[xH,Option.some.injEq] at h;exact⟨wr0,rfl,h▸hs⟩
 |d::l,rd,wr,wr',wr0,h,hs=>by
  unfold xH at h ⊢;cases ho:os[d.obj.toNat]? with
  |none=>rw[ho] at h;cases h
  |some o=>
   rw[ho] at h;simp only at h ⊢
   split at h
   ·rename_i hk
    rw[if_pos hk]
    split at h
    ·rename_i h1
     rw[if_pos h1];exact jq h hs
    ·rename_i h1
     rw[if_neg h1]
     split at h
     ·rename_i h2
      rw[if_pos ⟨h2.1,fun q=>h2.2.1 (hs _ q),h2.2.2⟩];refine jq h fun p hp=>?_;rcases List.mem_cons.1 hp with rfl|hp
      ·simp
      ·exact List.mem_cons_of_mem _ (hs p hp)
     ·cases h
   ·cases h
theorem Zk:∀{A:Au} {wr wr0:List (Int×Int)},qU os wr A=true->(∀p ∈ wr0,p ∈ wr)->qU os wr0 A=true
 |[],_,_,_,_=>rfl
 |s::A,wr,wr0,h,hs=>by
  unfold qU at h ⊢;cases hp:xH os [] wr s.deeds with
  |none=>rw[hp] at h;cases h
  |some wr'=>
   rw[hp] at h;obtain⟨wr1,h1,h2⟩:=jq hp hs;rw[h1];exact Zk h h2
def ui (os:List Ob) (l l':List Dd):Prop:=∀(rd:List Int) (wr wr':List (Int×Int)),xH os rd wr l'=some wr'->∃wr1,xH os rd wr l=some wr1/\∀p ∈ wr1,p ∈ wr'
theorem ui.cons {d:Dd} {l l':List Dd} (h:ui os l l'):ui os (d::l) (d::l'):=fun rd wr wr' hp=>by
 unfold xH at hp ⊢;cases ho:os[d.obj.toNat]? with
 |none=>rw[ho] at hp;cases hp
 |some o=>
  rw[ho] at hp;simp only at hp ⊢
  split at hp
  ·rename_i hk
   rw[if_pos hk]
   split at hp
   ·rename_i h1
    rw[if_pos h1];exact h _ _ _ hp
   ·rename_i h1
    rw[if_neg h1]
    split at hp
    ·rename_i h2
     rw[if_pos h2];exact h _ _ _ hp
    ·cases hp
  ·cases hp
theorem ui.app {l l':List Dd} (h:ui os l l'):∀m:List Dd,ui os (m++l) (m++l')
 |[]=>h
 |_::m=>(ui.app h m).cons
theorem Ko (d:Dd):ui os [] [d]:=fun rd wr wr' hp=>by
 refine⟨wr,rfl,?_⟩;exact(Xn hp).1
theorem Kn {d d':Dd} (h1:d.obj=d'.obj) (h2:d.op=d'.op) (h3:d.val=d'.val):ui os [d] [d']:=fun rd wr wr' hp=>by
 refine⟨wr',?_,fun p hp=>hp⟩;unfold xH at hp ⊢;simp only[xH] at hp ⊢;rw[h1,h2,h3];exact hp
theorem JV {s s':St} (hd:ui os s.deeds s'.deeds):∀{A:Au} {k:Nat} {wr wr0:List (Int×Int)},A[k]?=some s->qU os wr (A.set k s')=true->(∀p ∈ wr0,p ∈ wr)->qU os wr0 A=true
 |[],k,wr,wr0,hk,h,hs=>by cases hk
 |t::A,0,wr,wr0,hk,h,hs=>by
  obtain rfl:t=s:=by simpa using hk
  simp only[List.set_cons_zero] at h;unfold qU at h ⊢;cases hp:xH os [] wr s'.deeds with
  |none=>rw[hp] at h;cases h
  |some wr'=>
   rw[hp] at h;obtain⟨wr1,h1,h2⟩:=hd _ _ _ hp;obtain⟨wr2,h3,h4⟩:=jq h1 hs;rw[h3];exact Zk h fun p hp=>h2 p (h4 p hp)
 |t::A,k+1,wr,wr0,hk,h,hs=>by
  simp only[List.set_cons_succ] at h;unfold qU at h ⊢;cases hp:xH os [] wr t.deeds with
  |none=>rw[hp] at h;cases h
  |some wr'=>
   rw[hp] at h;obtain⟨wr1,h1,h2⟩:=jq hp hs;rw[h1];exact JV hd (by simpa using hk) h h2
theorem JW:∀{A B:Au} {wr:List (Int×Int)},qU os wr (A++B)=true->qU os wr A=true
 |[],_,_,_=>rfl
 |s::A,B,wr,h=>by
  simp only[List.cons_append] at h;unfold qU at h ⊢;cases hp:xH os [] wr s.deeds with
  |none=>rw[hp] at h;cases h
  |some wr'=>
   rw[hp] at h;exact JW h
theorem Nv (hs:zu A n e=some A') (h:qU os [] A'=true):qU os [] A=true:=by
 rcases xP hs with⟨-,-,-,rfl⟩|⟨k,s,s',-,hk,-,hm,rfl⟩
 ·exact JW h
 ·refine JV ?_ hk h fun p hp=>hp
  have same:s.deeds=s'.deeds->ui os s.deeds s'.deeds:=fun e=>by
   rw[←e];exact fun rd wr wr' hp=>⟨wr',hp,fun p hp=>hp⟩
  rcases xR hm with⟨-,-,rfl⟩|⟨-,-,d,hd,-,rfl⟩|⟨-,-,rfl⟩|⟨-,-,rfl⟩|⟨-,-,rfl⟩|⟨-,-,rfl⟩
  ·have:=(Ko (os:=os) (Ub e n)).app s.deeds
   rw[List.append_nil] at this;exact this
  ·have e1:yW e.ret e.val n s={s with stand:=1,deeds:=s.deeds.dropLast++[us d e.ret e.val n]}:=by unfold yW;rw[hd]
   rw[e1];have:=(Kn (os:=os) (d:=d) (d':=us d e.ret e.val n) rfl rfl rfl).app s.deeds.dropLast;rw[←Vp hd] at this;exact this
  ·exact same rfl
  ·exact same rfl
  ·exact same rfl
  ·exact same rfl
theorem Zh:∀{l m:List Ev} {A:Au},ye [] 0 (m++l)=some A->qU os [] A=true->∃B,ye [] 0 m=some B/\qU os [] B=true
 |[],m,A,h,hp=>⟨A,by simpa using h,hp⟩
 |e::l,m,A,h,hp=>by
  obtain⟨B,h1,h2⟩:=Zh (l:=l) (m:=m++[e]) (by simpa using h) hp;rw[Qg] at h1;obtain⟨C,h3,h4⟩:=Option.bind_eq_some_iff.1 h1;exact⟨C,h3,Nv h4 h2⟩
theorem Nu (h:qN os es=some A) (hp:qU os [] A=true) (i:Nat):∃B,qN os (es.take i)=some B/\qU os [] B=true:=by
 have hh:xJ os es=true:=by
  unfold qN at h
  split at h
  ·assumption
  ·cases h
 obtain⟨-,-,-,hr⟩:=yh h;rw[←List.take_append_drop i es] at hr;obtain⟨B,h1,h2⟩:=Zh hr hp;refine⟨B,?_,h2⟩;unfold qN;rw[if_pos ?_]
 ·exact h1
 ·unfold xJ at hh ⊢
  simp only[Bool.and_eq_true,decide_eq_true_eq,List.all_eq_true] at hh ⊢;exact⟨⟨⟨hh.1.1.1,by rw[List.length_take];omega⟩,hh.1.2⟩,fun e he=>hh.2 e (List.mem_of_mem_take he)⟩
theorem Zi (h:xQ os (qN os es)=some A) (i:Nat):∃B,xQ os (qN os (es.take i))=some B:=by
 cases ht:qN os es with
 |none=>rw[ht] at h;cases h
 |some A0=>
  rw[ht] at h;unfold xQ at h;simp only at h
  split at h
  ·rename_i hp
   obtain⟨B,h1,h2⟩:=Nu ht hp i;refine⟨B,?_⟩;rw[h1];unfold xQ;simp only;rw[if_pos h2]
  ·cases h
end
section
attribute [local irreducible] xL
attribute [local go_sem] Oper.semAt_some
theorem infoZ:(Tryz.prog.info? 28).map (fun i=>(i.zero,i.size,i.bytes))=some (some (.slice none 0 0),1,24):=by kernel_rfl
theorem Jo {α:Type} {f:α->List Value} {e:TypeId} {sz B:Nat} {v:Value} {l:List α} {F:Fence} {n:Nat} {P:Program} {ops:Array Oper} {rest:List Oper} {o:Oper} {a:Act} {Q:Exit->Act->World->Prop} (hgd:o.guard=none) (s x:Operand) (t:TypeId)
  (ho:o.op=.call {callee:=.builtin .append,args:=#[s,x],argTypes:=#[t,t]})
  (z:Value) (bytes:Nat) (ht:P.underlying t=some (.slice e)) (hinfo:(P.info? e).map (fun i=>(i.zero,i.size,i.bytes))=some (some z,sz,bytes))
  (hzs:z.cells.size=sz) {w0:World} (hown:qj f e sz w0 B v l) (y:α) (hbase:B<=w0.heap.size) (hs:a.eval s=v)
  {g0:Nat} (hx:a.eval x=.slice (some ⟨g0,0,none⟩) 1 1) (hg0:g0=w0.heap.size) (hl:(f y).length=sz) (h1:∀u ∈ f y,u.oneCell'=true) (hn:l.length+1<=9223372036854775807) (hby:(l.length+1)*bytes<=140737488355328)
  (hK:∀g cap w',qj f e sz w' B (.slice (some ⟨g,0,none⟩) (l.length+1) cap) (l++[y])->Yz w0 w' v (.slice (some ⟨g,0,none⟩) (l.length+1) cap)->wpListIn F n P ops Q rest (a.put o.dst (.slice (some ⟨g,0,none⟩) (l.length+1) cap)) w'):
  wpListIn F n P ops Q (o::rest) a (w0.alloc (.cells (f y).toArray e)):=by
 subst hg0;obtain⟨i0,hi,hz0,hz1,hz2⟩:=info_parts hinfo;obtain⟨g,cap,w',hr,hown',hgrow,hg⟩:=vP (P:=P) (w0.alloc (.cells (f y).toArray e)) B t o.type e i0 z sz bytes ht hi hz0 hz1 hz2 hzs v l.length (l.flatMap f) (hown.alloc _) _ 1 1 (by omega) (f y) (by simpa using hl)
  (QA w0 (f y) e) h1 (by unfold maxLen;omega) hby (by simp;omega)
 refine wpListIn_plain hgd fun K hK'=>?_;unfold Oper.wpIn;refine⟨?_,?_⟩
 ·simp [Oper.about,ho,resolve,Target.leads,Sem.run_pure]
 ·rw [Oper.semAt_plain F _ _ (by rw[ho];intro c hc';cases hc')]
  simp[execOp,ho,resolve,invoke,builtin,hs,hx,hr,Result.andThen];refine hK' _ _ (hK g cap w' (by simpa[qj,List.flatMap_append] using hown') ⟨?_,?_⟩)
  ·exact ⟨hgrow.os,hgrow.tape,hgrow.output,Nat.le_trans (by simp) hgrow.size,fun k hk hne=>(hgrow.block k (by simp;omega) hne).trans (Below.heap_alloc w0 _ k hk)⟩
  ·intro k hk
   simp only[Value.ownBlock,Option.some.injEq] at hk;subst hk;rcases hg with hg|hg
   ·right;rw[hg];simp
   ·exact .inl hg
structure vI (w:World) (ov vv:Value) (os:List Ob) (es:List Ev):Prop where
 ho:Sl w w.heap.size 2 ov os.length (os.flatMap Ob.cells)
 he:Sl w w.heap.size 8 vv es.length (es.flatMap Ev.cells)
 hod:∀o ∈ os,dI o.kind
 hed:∀e ∈ es,dI e.ret
 wd:xg w
 er:jn w
 pr:jh w 6
theorem vI.below {w W:World} {ov vv:Value} {os:List Ob} {es:List Ev} (h:vI w ov vv os es) (hb:Below w.heap.size w W):vI W ov vv os es:=
 ⟨(h.ho.below hb).more hb.size,(h.he.below hb).more hb.size,h.hod,h.hed,h.wd.below hb,h.er.below hb,h.pr.below hb⟩
theorem vI.take {w W:World} {ov vv ov' vv':Value} {os:List Ob} {es:List Ev} (h:vI w ov vv os es) (hb:Below w.heap.size w W) {i:Nat} (ho:Sl W W.heap.size 2 ov' os.length (os.flatMap Ob.cells)) (he:Sl W W.heap.size 8 vv' (es.take i).length ((es.take i).flatMap Ev.cells)):vI W ov' vv' os (es.take i):=
 ⟨ho,he,h.hod,fun e hm=>h.hed e (List.mem_of_mem_take hm),h.wd.below hb,h.er.below hb,h.pr.below hb⟩
theorem vI.toT {w:World} {ov vv:Value} {os:List Ob} {es:List Ev} (h:vI w ov vv os es):Jk w ov vv os (qN os es):=by
 obtain⟨a,c,hv,-⟩:=h.he.ex;obtain⟨hl,t,v,hc⟩:=h.pr;refine⟨h.ho,⟨a,_,c,hv⟩,fun W hW=>?_,fun A hA=>YZ hA,⟨t,v,hc⟩,hl⟩;have k:=h.below hW;have g:=g_Table ov vv os es W k.ho k.he k.hod k.hed k.wd k.er;refine g.mono ?_;intro e w' hr;unfold WN at hr;unfold vZ;exact hr
def QE (os:List Ob) (es:List Ev) (i:Nat) (a:WW):Prop:=∃A,xQ os (qN os (es.take i))=some A/\yB 3 (os.map (·.init)) A a
structure AllI (w:World) (os:List Ob) (es:List Ev) (bv D:Nat) (i:Nat) (A:World):Prop where
 box:∃(lv:Value) (L:List Value),A.heap[bv]?=some (.cells #[.int .i64 1,.slice none 0 0,lv,.int .i64 0,.int .i64 0,.int .i64 0,.slice none 0 0] 32 (0,0))/\qj XL 28 1 A bv lv L/\L.length=i/\∀k,lv.ownBlock=some k->k≠D
 r0:A.heap[w.heap.size+1]?=some (.cells #[.int .i64 0,.slice none 0 0,.slice none 0 0,.int .i64 0,.int .i64 0,.int .i64 0,.slice none 0 0] 32 (0,0))
 r1:A.heap[w.heap.size+1+1]?=some (.cells #[.nilIface] 34 (0,0))
 bel:Below w.heap.size w A
 yes:∀j,j < i->∃a,QE os es j a/\a.kind=1
structure AllX (w:World) (os:List Ob) (es:List Ev) (D:Nat) (A:World):Prop where
 r0:∃(j:Nat) (a:WW) (vs vc:Value),j<=es.length/\QE os es j a/\a.kind≠1/\A.heap[w.heap.size+1]?=some (.cells #[.int .i64 a.kind,vs,.slice none 0 0,.int .i64 j,.int .i64 a.tx,.int .i64 a.deed,vc] 32 (0,0))/\UE A (D+1) vs vc a
 r1:A.heap[w.heap.size+1+1]?=some (.cells #[.nilIface] 34 (0,0))
 bel:Below w.heap.size w A
def J4Ret (w:World) (os:List Ob) (es:List Ev) (e:Ending) (w':World):Prop:=
 ((∃va,e=.returned (.tuple #[.agg #[.int .i64 1,.slice none 0 0,va,.int .i64 0,.int .i64 0,.int .i64 0,.slice none 0 0],.nilIface])/\(∃a n c,va=.slice a n c)/\∀j,j<=es.length->∃a,QE os es j a/\a.kind=1)\/
  ∃(j:Nat) (a:WW) (vs vc:Value),j<=es.length/\QE os es j a/\a.kind≠1/\e=.returned (.tuple #[uR {a with pre:=j} vs vc,.nilIface])/\UE w' w.heap.size vs vc a)/\Below w.heap.size w w'
abbrev s7 (W:World) (p:Nat) (c0 c1 c2 c3 c4 c5 c6:Value):World:=((((((W.setCell ⟨p,0,none⟩ c0).setCell ⟨p,1,none⟩ c1).setCell ⟨p,2,none⟩ c2).setCell ⟨p,3,none⟩ c3).setCell ⟨p,4,none⟩ c4).setCell ⟨p,5,none⟩ c5).setCell ⟨p,6,none⟩ c6
section
variable {W W0:World} {p k N:Nat} {t:TypeId} {x0 x1 x2 x3 x4 x5 x6 c0 c1 c2 c3 c4 c5 c6:Value}
theorem MN (h:W.heap[p]?=some (.cells #[x0,x1,x2,x3,x4,x5,x6] t (0,0))):(s7 W p c0 c1 c2 c3 c4 c5 c6).heap[p]?=some (.cells #[c0,c1,c2,c3,c4,c5,c6] t (0,0)):=by
 simpa using qn (qn (qn (qn (qn (qn (qn h 0 c0) 1 c1) 2 c2) 3 c3) 4 c4) 5 c5) 6 c6
theorem Xf (h:k≠p):(s7 W p c0 c1 c2 c3 c4 c5 c6).heap[k]?=W.heap[k]?:=
 (Below.heap_setCell _ _ _ _ h).trans ((Below.heap_setCell _ _ _ _ h).trans ((Below.heap_setCell _ _ _ _ h).trans ((Below.heap_setCell _ _ _ _ h).trans ((Below.heap_setCell _ _ _ _ h).trans ((Below.heap_setCell _ _ _ _ h).trans (Below.heap_setCell _ _ _ _ h))))))
theorem Zd (h:Below N W0 W) (hp:N<=p):Below N W0 (s7 W p c0 c1 c2 c3 c4 c5 c6):=
 ((((((h.setCell (p:=⟨p,0,none⟩) hp _).setCell (p:=⟨p,1,none⟩) hp _).setCell (p:=⟨p,2,none⟩) hp _).setCell (p:=⟨p,3,none⟩) hp _).setCell (p:=⟨p,4,none⟩) hp _).setCell (p:=⟨p,5,none⟩) hp _).setCell (p:=⟨p,6,none⟩) hp _
end
section
variable {w:World} {ov vv:Value} {os:List Ob} {es:List Ev} {A:Au}
theorem f_Judge4 (h:vI w ov vv os es) (e:xQ os (qN os es)=some A) (hel:es.length<=200):Calls Tryz.prog 9 #[.agg #[ov,vv],.int .i64 4] w (J4Ret w os es):=by
 obtain⟨ao,co,hov,-⟩:=h.ho.ex;obtain⟨av,cv,hvv,-⟩:=h.he.ex;have HH:=qd h;have HE:=qd e;have HT:=qd (Zi e);have hol:os.length<=8:=(yh (qW e).1).1;have b0:Below w.heap.size w (((w.alloc (.cells #[ov,vv] 25)).alloc (.cells #[.int .i64 0,.slice none 0 0,.slice none 0 0,.int .i64 0,.int .i64 0,.int .i64 0,.slice none 0 0] 32)).alloc (.cells #[.nilIface] 34)):=(((Below.refl _ w).alloc (Nat.le_refl _) _).alloc (by simp) _).alloc (by simp;omega) _;have z0:(((w.alloc (.cells #[ov,vv] 25)).alloc (.cells #[.int .i64 0,.slice none 0 0,.slice none 0 0,.int .i64 0,.int .i64 0,.int .i64 0,.slice none 0 0] 32)).alloc (.cells #[.nilIface] 34)).heap.size=w.heap.size+3:=by simp
 have r0:=qy (o:=.cells #[.nilIface] 34) (qy (o:=.cells #[.int .i64 0,.slice none 0 0,.slice none 0 0,.int .i64 0,.int .i64 0,.int .i64 0,.slice none 0 0] 32) (qs w (.cells #[ov,vv] 25)));have r1:=qy (o:=.cells #[.nilIface] 34) (qs (w.alloc (.cells #[ov,vv] 25)) (.cells #[.int .i64 0,.slice none 0 0,.slice none 0 0,.int .i64 0,.int .i64 0,.int .i64 0,.slice none 0 0] 32));have r2:=qs ((w.alloc (.cells #[ov,vv] 25)).alloc (.cells #[.int .i64 0,.slice none 0 0,.slice none 0 0,.int .i64 0,.int .i64 0,.int .i64 0,.slice none 0 0] 32)) (.cells #[.nilIface] 34);simp only[World.size_alloc] at r1 r2;subst hov hvv;have B0:=qd b0;have R0:=qd r0;have R1:=qd r1;have R2:=qd r2;have Z0:=qd z0;clear b0 r0 r1 r2 z0 h e;refine(callsIn_wide (n:=3+2)).1 ?_;refine callsIn_of_wp_marks Tryz.func9 rfl trivial ?_ rfl;simp only[Tryz.ntmps9,List.size_toArray,List.length_cons,List.length_nil,Nat.reduceAdd,Nat.reduceSub,Array.replicate_succ,Array.replicate_zero,List.push_toArray,List.append_toArray,List.nil_append,List.cons_append];gi_wp2_with fail;obtain⟨W,hW0⟩:∃W,W=(((w.alloc (.cells #[.slice ao os.length co,.slice av es.length cv] 25)).alloc (.cells #[.int .i64 0,.slice none 0 0,.slice none 0 0,.int .i64 0,.int .i64 0,.int .i64 0,.slice none 0 0] 32)).alloc (.cells #[.nilIface] 34)):=⟨_,rfl⟩
 rw[←hW0] at B0 R0 R1 R2 Z0 ⊢;clear hW0;have PC:=qd (uP (HH.o.below B0.o).toT);rw[HE.o] at PC;refine⟨trivial,(callsIn_wide.2 PC.o).mono ?_⟩;rintro e w1 ⟨rfl,b1⟩;have hz1:=b1.size;have R0:=qd (qh R0.o b1 (qe R0.o));have R1:=qd (qh R1.o b1 (qe R1.o));have R2:=qd (qh R2.o b1 (qe R2.o));have B1:=qd (B0.o.trans (b1.mono B0.o.size));have y:=qa R0.o;have y0:=y 0;have y1:=y 1;simp at y0 y1;have yl:=qe R0.o;have ba:Below w1.heap.size w1 (w1.alloc (.cells #[.int .i64 1,.slice none 0 0,.slice none 0 0,.int .i64 0,.int .i64 0,.int .i64 0,.slice none 0 0] 32)):=(Below.refl _ w1).alloc (Nat.le_refl _) _;have hba:=HH.o.below (B1.o.trans (ba.mono B1.o.size));have CP:=qd (KW _ _ os es _ hba.ho hba.he (by omega) (by omega));have S0:=qd (qs w1 (.cells #[.int .i64 1,.slice none 0 0,.slice none 0 0,.int .i64 0,.int .i64 0,.int .i64 0,.slice none 0 0] 32));have BA:=qd ba;have hza:(w1.alloc (.cells #[.int .i64 1,.slice none 0 0,.slice none 0 0,.int .i64 0,.int .i64 0,.int .i64 0,.slice none 0 0] 32)).heap.size=w1.heap.size+1:=by simp
 have HZA:=qd hza;clear y PC b1 ba hba hza;gi_wp2_with fail;refine⟨trivial,(callsIn_wide.2 CP.o).mono ?_⟩;rintro e w2 ⟨rfl,hH,b2⟩;rw[HZA.o] at hH b2 ⊢;have hzw:w.heap.size+3<=w1.heap.size:=by have:=Z0.o;omega
 have hz2:w1.heap.size+1<=w2.heap.size:=by have:=b2.size;have:=HZA.o;omega
 have bw:Below w.heap.size w w2:=(B1.o.trans (BA.o.mono B1.o.size)).trans (b2.mono (by omega));have S0':=qh S0.o b2 (by have:=qe S0.o;omega);have t0':=qh (qh R1.o BA.o (qe R1.o)) b2 (by have:=qe R1.o;omega);have t1':=qh (qh R2.o BA.o (qe R2.o)) b2 (by have:=qe R2.o;omega);have IT:=qd (c_iter 3 w2 (fun k=>k=w1.heap.size\/k=w.heap.size+1\/k=w.heap.size+1+1) (w1.heap.size+1) (w1.heap.size+1) os es (by omega) (by omega) hH (Nat.le_refl _) (by rintro k (rfl|rfl|rfl) <;> omega));have BW:=qd bw;have hI:∀(q:Nat->Prop) (i:Nat) (A B:World),q=(fun _=>False)->AllI w os es w1.heap.size (w2.heap.size+1) i A->w2.heap.size<=A.heap.size->Below w2.heap.size A B->(∀k,k < A.heap.size->k≠w2.heap.size+1->¬q k->B.heap[k]?=A.heap[k]?)->AllI w os es w1.heap.size (w2.heap.size+1) i B:=by
  rintro q i A B rfl ⟨⟨lv,L,h1,h2,h3,h4⟩,h5,h6,h7,h8⟩ hs hb he;have ne:∀j,j<=w1.heap.size->j≠w2.heap.size+1:=fun j hj=>by omega
  exact⟨⟨lv,L,(he _ (qe h1) (ne _ (Nat.le_refl _)) id).trans h1,qj.sameB h2 fun k hk=>he k (qj.lt h2 k hk).2 (h4 k hk) id,h3,h4⟩,
   (he _ (qe h5) (ne _ (by omega)) id).trans h5,(he _ (qe h6) (ne _ (by omega)) id).trans h6,h7.trans (hb.mono (by omega)),h8⟩
 have hIx:∀(q:Nat->Prop) (c:Code) (i:Nat) (A B:World),q=(fun _=>False)->(c=.ret/\AllX w os es (w2.heap.size+1) A)->w2.heap.size<=A.heap.size->Below w2.heap.size A B->(∀k,k < A.heap.size->k≠w2.heap.size+1->¬q k->B.heap[k]?=A.heap[k]?)->c=.ret/\AllX w os es (w2.heap.size+1) B:=by
  rintro q c i A B rfl ⟨rfl,⟨j,a,vs,vc,g1,g2,g3,g4,g5⟩,h6,h7⟩ hs hb he;have ne:∀j,j<=w1.heap.size->j≠w2.heap.size+1:=fun j hj=>by omega
  exact⟨rfl,⟨j,a,vs,vc,g1,g2,g3,(he _ (qe g4) (ne _ (by omega)) id).trans g4,qj.sameB g5.1 fun k hk=>he k (qj.lt g5.1 k hk).2 (by have:=(qj.lt g5.1 k hk).1;omega) id,qj.sameB g5.2 fun k hk=>he k (qj.lt g5.2 k hk).2 (by have:=(qj.lt g5.2 k hk).1;omega) id⟩,
   (he _ (qe h6) (ne _ (by omega)) id).trans h6,h7.trans (hb.mono (by omega))⟩
 clear hH b2 bw CP y0 y1 yl S0 BA HZA R0 R1 R2;gi_wp2_with fail;refine vw (M:=WS) (L:=Lb w2.heap.size fun k=>k=w1.heap.size\/k=w.heap.size+1\/k=w.heap.size+1+1) (Qs:=fun q=>q=fun _=>False) (G:=fun _=>True) (m:=3) (gf:=69) (N:=es.length+1) (H:=HandX os es) rfl (enters_of Tryz.func69 (by kernel_rfl) rfl) (fun _ h=>h.1) IT.o (fun _ i W hb args h=>by obtain⟨_,_,rfl,-⟩:=h;rfl)
  (fun q i A=>AllI w os es w1.heap.size (w2.heap.size+1) i A) (fun q c i A=>c=.ret/\AllX w os es (w2.heap.size+1) A) hI hIx (fun q i A _ h=>trivial) (fun q _ hq=>⟨⟨.slice none 0 0,[],S0',qj.nil _ _,rfl,fun k e=>by cases e⟩,t0',t1',BW.o,fun j hj=>by omega⟩) (fun W hW=>hW) (fun r h=>by obtain⟨_,_,h⟩:=h;cases h) (fun r h=>by obtain⟨_,_,h⟩:=h;cases h) ?_ ?_ ?_
 ·rintro q i W1 hb args hi rfl hIi hq hlo hhi ⟨ov',vv',rfl,o',v'⟩
  clear IT;obtain⟨a3,c3,rfl⟩:=qj.slv o';obtain⟨a4,c4,rfl⟩:=qj.slv v';have hti:(es.take i).length=i:=by rw[List.length_take];omega
  gi_wp2_with fail;refine⟨(Below.refl _ _).alloc (Nat.le_refl _) _,?_⟩;intro w3 z3 k3 b3;have bf:Below w2.heap.size W1 w3:=((Below.refl w2.heap.size W1).alloc (by omega) _).trans b3;have kf:∀k,k < W1.heap.size->k≠w2.heap.size+1->w3.heap[k]?=W1.heap[k]?:=fun k hk hn=>(k3 k hn).trans (Below.heap_alloc _ _ _ (by omega));obtain⟨⟨lv,L,h1,h2,h3,h4⟩,h5,h6,h7,h8⟩:=hI _ i W1 w3 rfl hIi (by omega) bf fun k hk hn _=>kf k hk hn;have o2:=qj.sameB o' fun k hk=>kf k (qj.lt o' k hk).2 (by have:=(qj.lt o' k hk).1;omega);have v2:=qj.sameB v' fun k hk=>kf k (qj.lt v' k hk).2 (by have:=(qj.lt v' k hk).1;omega);rw[hti] at v2;have r9:w3.heap[W1.heap.size]?=some (.cells #[.slice a3 os.length c3,.slice a4 i c4] 25 (0,0)):=(k3 _ (by omega)).trans (qs W1 _);have z9:w3.heap.size=W1.heap.size+1:=z3;have HGp:vI w3 (.slice a3 os.length c3) (.slice a4 i c4) os (es.take i):=HH.o.take h7 (qj.sl o2) (by rw[hti];have:=qj.sl v2;rw[hti] at this;exact this);obtain⟨Ai,hAi⟩:=HT.o i;have hALi:Ai.length<=200:=by have:=JM (qW hAi).1;rw[hti] at this;omega
  have HNDi:=qd (Xm (qW hAi).1 (qW hAi).2);have HDi:=qd (YZ (qW hAi).1);have LC:=qd (Vl (lev:=3) HGp.toT hAi);have HAi:=qd hAi;have HGP:=qd HGp;have H1:=qd h1;have H2:=qd h2;have H3:=qd h3;have H4:=qd h4;have H5:=qd h5;have H6:=qd h6;have H7:=qd h7;have H8:=qd h8;have Z9:=qd z9;have BF:=qd bf;have KF:=qd kf;generalize hp9:W1.heap.size=p9 at *;have y:=qa r9;have y0:=y 0;have y1:=y 1;simp at y0 y1;have yl:=qe r9;clear y h1 h2 h3 h4 h5 h6 h7 h8 z9 z3 k3 b3 bf kf hI hIx hIi o' v' o2 v2 r9 HGp hAi hti;gi_wp2_with fail;refine⟨trivial,(callsIn_wide.2 LC.o).mono ?_⟩;rintro e w4 ⟨pW,bB,ms,lv2,rfl,hF,b4⟩;have JC:=qd (RD hF (HGP.o.below b4).ho ⟨_,_,_,rfl⟩ HDi.o HDi.o.mv hALi HNDi.o (.inr (.inr rfl)) (Nat.le_refl _));have hz4:=b4.size;have B4:=qd b4;clear hF b4 LC y0 y1;gi_wp2_with fail;refine⟨trivial,(callsIn_wide.2 JC.o).mono ?_⟩;rintro e w5 ⟨a,vs,vc,rfl,hJ,hA,b5⟩;obtain⟨aS,cS,e1⟩:=qj.sli hA.1;obtain⟨aC,cC,e2⟩:=qj.sli hA.2;subst e1 e2;have HJ:=qd hJ;have B5:=qd (B4.o.trans (b5.mono hz4));have hz5:=B5.o.size;have S1:=qd (qj.base hA.1 hz4);have S2:=qd (qj.base hA.2 hz4);have hPre:=qd (show QE os es i a from⟨Ai,HAi.o,hJ⟩);clear hJ hA b5 JC;unfold uR;have hm1:w1.heap.size < w3.heap.size:=by omega
  have RV:=qd (qh H1.o B5.o hm1);have RR:=qd (qh H5.o B5.o (by omega));have RE:=qd (qh H6.o B5.o (by omega));have h35:=B5.o.size;have OL:=qd (qj.below H2.o B5.o);obtain⟨al,cl,e4⟩:=qj.slv OL.o;subst e4;have hLm:L.length<=400:=by have:=H3.o;omega
  by_cases hk:a.kind=1
  ·have hkd:(a.kind !=1)=false:=by simp[hk]
   have HK:=qd hk;have x2:=qa RV.o 2;simp at x2;have xl:=qe RV.o;have xf:=qt RV.o 2;have oT:=qd (qj.alloc OL.o (.cells #[.int .i64 a.kind,.slice aS a.steps.length cS,.slice none 0 0,.int .i64 a.pre,.int .i64 a.tx,.int .i64 a.deed,.slice aC a.cyc.length cC] 32));have hbs:w1.heap.size<=(w5.alloc (.cells #[.int .i64 a.kind,.slice aS a.steps.length cS,.slice none 0 0,.int .i64 a.pre,.int .i64 a.tx,.int .i64 a.deed,.slice aC a.cyc.length cC] 32)).heap.size:=by simp;omega
   clear hk;gi_wp2_with (gi_at_builtin;refine Jo rfl _ _ _ rfl _ 24 Tryz.underlying29 infoZ rfl oT.o (.slice aS a.steps.length cS) hbs (by rfl) (by rfl) (by first|rfl|simp) rfl (val_one _) (by omega) (by omega) ?_;refine qH.halt ?_)
   refine qH.go ?_;intro g1 c1 w6 o6 G6;have rT:=qy (o:=(.cells #[.int .i64 a.kind,.slice aS a.steps.length cS,.slice none 0 0,.int .i64 a.pre,.int .i64 a.tx,.int .i64 a.deed,.slice aC a.cyc.length cC] 32)) RV.o;have neV:(Value.slice al L.length cl).ownBlock≠some w1.heap.size:=qj.neT oT.o rT (by decide);have r4:=qS rT G6 neV;have z2:=qa r4 2;simp at z2;have zf:=qt r4 2;have zl4:=qe r4;have oF:=qd (qj.other (j:=2) o6 (qj.neT o6 r4 (by decide)) (.slice (some ⟨g1,0,none⟩) (L.length+1) c1));have rF:=qd (qn r4 2 (.slice (some ⟨g1,0,none⟩) (L.length+1) c1));have gk:=qd (show ∀(k:Nat) (O:Obj),k≠w1.heap.size->(Value.slice al L.length cl).ownBlock≠some k->w5.heap[k]?=some O->(w6.setCell ⟨w1.heap.size,2,none⟩ (.slice (some ⟨g1,0,none⟩) (L.length+1) c1)).heap[k]?=some O from fun k O hk hn hO=>
    (Below.heap_setCell _ _ _ _ hk).trans ((G6.grown.block k (by have:=qe hO;simp;omega) (fun e=>hn e.symm)).trans (qy hO)))
   have bw5:=(H7.o.trans (B5.o.mono (by have:=H7.o.size;omega)))
   have bF:=qd (((bw5.alloc bw5.size (.cells #[.int .i64 a.kind,.slice aS a.steps.length cS,.slice none 0 0,.int .i64 a.pre,.int .i64 a.tx,.int .i64 a.deed,.slice aC a.cyc.length cC] 32)).trans (G6.below (B:=w.heap.size) (by simp;have:=bw5.size;omega) fun j hj=>by have:=(qj.lt oT.o j hj).1;omega)).setCell (p:=⟨w1.heap.size,2,none⟩) (show w.heap.size<=w1.heap.size by omega) (.slice (some ⟨g1,0,none⟩) (L.length+1) c1));have b0F:=qd ((((B5.o.mono (Nat.zero_le _)).alloc (Nat.zero_le _) (.cells #[.int .i64 a.kind,.slice aS a.steps.length cS,.slice none 0 0,.int .i64 a.pre,.int .i64 a.tx,.int .i64 a.deed,.slice aC a.cyc.length cC] 32)).trans (G6.below (B:=0) (Nat.zero_le _) fun j hj=>Nat.zero_le _)).setCell (p:=⟨w1.heap.size,2,none⟩) (Nat.zero_le _) (.slice (some ⟨g1,0,none⟩) (L.length+1) c1));have nF:=qd (show g1≠w2.heap.size+1 from by
    rcases G6.own g1 rfl with e|e
    ·exact H4.o g1 e
    ·simp at e
     omega)
   have hT5:=qd (show ∀k:Nat,(Value.slice al L.length cl).ownBlock=some k->∃cs,w5.heap[k]?=some (.cells cs 28 (0,0)) from fun k hk=>qj.keepObj OL.o k hk);clear rT neV o6 G6 r4 bw5 x2 xf;gi_wp2_with fail;refine⟨⟨⟨⟨_,_,by simpa using rF.o,oF.o,by simp[H3.o],fun k e=>?_⟩,gk.o _ _ (by omega) (fun e=>?_) RR.o,gk.o _ _ (by omega) (fun e=>?_) RE.o,bF.o,fun j hj=>?_⟩,b0F.o,fun k O hk1 hk2 hO hM=>?_⟩,trivial⟩
   ·cases e;exact nF.o
   ·obtain ⟨cs,h⟩:=hT5.o _ e
    rw[RR.o] at h;cases h
   ·obtain ⟨cs,h⟩:=hT5.o _ e
    rw[RE.o] at h;cases h
   ·by_cases hji:j < i
    ·exact H8.o j hji
    ·obtain rfl:j=i:=by omega
     exact⟨a,hPre.o,HK.o⟩
   ·have hk3:k < w3.heap.size:=qe hO
    refine gk.o k O (fun e=>?_) (fun e=>?_) ((B5.o.block k hk3).trans hO)
    ·rcases hk1 with⟨-,h⟩|h
     ·exact h (.inl e)
     ·omega
    ·obtain ⟨cs,h⟩:=hT5.o _ e
     rw[(B5.o.block k hk3).trans hO] at h;exact hM ⟨_,_,Option.some.inj h⟩
  ·have hkd:(a.kind !=1)=true:=by simp[hk]
   have HK:=qd hk;have x:=qa RR.o;have x0:=x 0;have x1:=x 1;have x2:=x 2;have x3:=x 3;have x4:=x 4;have x5:=x 5;have x6:=x 6;have u:=qa RE.o 0;simp at x0 x1 x2 x3 x4 x5 x6 u;have xl:=qe RR.o;have ul:=qe RE.o;have xf:=fun j=>qt RR.o j;have uf:=qt RE.o 0;clear hk x;gi_wp2_with fail;have bw5:=(H7.o.trans (B5.o.mono (by have:=H7.o.size;omega)))
   have f0:(s7 w5 (w.heap.size+1) (.int .i64 a.kind) (.slice aS a.steps.length cS) (.slice none 0 0) (.int .i64 (i:Int)) (.int .i64 a.tx) (.int .i64 a.deed) (.slice aC a.cyc.length cC)).heap[w.heap.size+1]?=some (.cells #[.int .i64 a.kind,.slice aS a.steps.length cS,.slice none 0 0,.int .i64 (i:Int),.int .i64 a.tx,.int .i64 a.deed,.slice aC a.cyc.length cC] 32 (0,0)):=MN RR.o;obtain⟨X,hX⟩:∃X,X=((s7 w5 (w.heap.size+1) (.int .i64 a.kind) (.slice aS a.steps.length cS) (.slice none 0 0) (.int .i64 (i:Int)) (.int .i64 a.tx) (.int .i64 a.deed) (.slice aC a.cyc.length cC)).setCell ⟨w.heap.size+1+1,0,none⟩ .nilIface).alloc (.cells #[.int .i64 a.kind,.slice aS a.steps.length cS,.slice none 0 0,.int .i64 (i:Int),.int .i64 a.tx,.int .i64 a.deed,.slice aC a.cyc.length cC] 32):=⟨_,rfl⟩
   have g0:X.heap[w.heap.size+1]?=some (.cells #[.int .i64 a.kind,.slice aS a.steps.length cS,.slice none 0 0,.int .i64 (i:Int),.int .i64 a.tx,.int .i64 a.deed,.slice aC a.cyc.length cC] 32 (0,0)):=by
    rw[hX];exact qy ((Below.heap_setCell _ _ _ _ (by show w.heap.size+1≠w.heap.size+1+1;omega)).trans f0)
   have g1:X.heap[w.heap.size+1+1]?=some (.cells #[.nilIface] 34 (0,0)):=by
    rw[hX];exact qy (by simpa using qn ((Xf (W:=w5) (p:=w.heap.size+1) (k:=w.heap.size+1+1) (by omega)).trans RE.o) 0 .nilIface)
   have gb:Below w.heap.size w X:=by
    rw[hX];have k1:=(Zd (p:=w.heap.size+1) (c0:=.int .i64 a.kind) (c1:=.slice aS a.steps.length cS) (c2:=.slice none 0 0) (c3:=.int .i64 (i:Int)) (c4:=.int .i64 a.tx) (c5:=.int .i64 a.deed) (c6:=.slice aC a.cyc.length cC) bw5 (Nat.le_succ _)).setCell (p:=⟨w.heap.size+1+1,0,none⟩) (show w.heap.size<=w.heap.size+1+1 by omega) .nilIface;exact k1.alloc k1.size _
   have gb0:Below 0 w3 X:=by
    rw[hX];exact((Zd (p:=w.heap.size+1) (c0:=.int .i64 a.kind) (c1:=.slice aS a.steps.length cS) (c2:=.slice none 0 0) (c3:=.int .i64 (i:Int)) (c4:=.int .i64 a.tx) (c5:=.int .i64 a.deed) (c6:=.slice aC a.cyc.length cC) (B5.o.mono (Nat.zero_le _)) (Nat.zero_le _)).setCell (p:=⟨w.heap.size+1+1,0,none⟩) (Nat.zero_le _) .nilIface).alloc (Nat.zero_le _) _
   have fo:∀k,k < w5.heap.size->k≠w.heap.size+1->k≠w.heap.size+1+1->X.heap[k]?=w5.heap[k]?:=fun k hk h1 h2=>by
    rw[hX];refine(Below.heap_alloc _ _ _ (by simp[s7];exact hk)).trans ((Below.heap_setCell _ _ _ _ h2).trans (Xf h1))
   have n1:∀(v:Value) (k:Nat),(∀k,v.ownBlock=some k->w3.heap.size<=k/\k < w5.heap.size)->v.ownBlock=some k->X.heap[k]?=w5.heap[k]?:=fun v k hv hk=>fo k (hv k hk).2 (by have:=(hv k hk).1;omega) (by have:=(hv k hk).1;omega);have sS:qj vL 87 2 X (w2.heap.size+1+1) (.slice aS a.steps.length cS) a.steps:=qj.base (qj.sameB S1.o fun k hk=>n1 _ k (qj.lt S1.o) hk) (by omega);have sC:yF X (w2.heap.size+1+1) (.slice aC a.cyc.length cC) a.cyc:=qj.base (qj.sameB S2.o fun k hk=>n1 _ k (qj.lt S2.o) hk) (by omega);have hX':=hX;simp only[s7] at hX';rw[←hX'];clear hX hX' f0;refine⟨⟨rfl,⟨i,a,_,_,by omega,hPre.o,HK.o,g0,sS,sC⟩,g1,gb⟩,gb0,fun k O hk1 hk2 hO hM=>?_⟩;have hk3:k < w3.heap.size:=qe hO;refine(fo k (by omega) ?_ ?_).trans ((B5.o.block k hk3).trans hO)
   ·rcases hk1 with⟨-,h⟩|h
    ·exact fun e=>h (.inr (.inl e))
    ·omega
   ·rcases hk1 with⟨-,h⟩|h
    ·exact fun e=>h (.inr (.inr e))
    ·omega
 ·rintro q W3 rfl ⟨⟨lv,L,h1,h2,h3,h4⟩,h5,h6,h7,h8⟩ hz hd
  obtain⟨al,cl,rfl⟩:=qj.slv h2;have y:=qa h1;have y0:=y 0;have y1:=y 1;have y2:=y 2;have y3:=y 3;have y4:=y 4;have y5:=y 5;have y6:=y 6;simp at y0 y1 y2 y3 y4 y5 y6;have yl:=qe h1;have x:=qa h5;have x0:=x 0;have x1:=x 1;have x2:=x 2;have x3:=x 3;have x4:=x 4;have x5:=x 5;have x6:=x 6;have u:=qa h6 0;simp at x0 x1 x2 x3 x4 x5 x6 u;have xl:=qe h5;have ul:=qe h6;have xf:=fun j=>qt h5 j;have uf:=qt h6 0;have H5:=qd h5;have H6:=qd h6;have H7:=qd h7;have H8:=qd h8;have HD:=qd hd;clear y x h1 h2 h3 h4 h5 h6 h7 h8 hd IT hI hIx;gi_wp2_with fail;have f0:=MN (c0:=.int .i64 1) (c1:=.slice none 0 0) (c2:=.slice al L.length cl) (c3:=.int .i64 0) (c4:=.int .i64 0) (c5:=.int .i64 0) (c6:=.slice none 0 0) H5.o;obtain⟨X,hX⟩:∃X,X=(s7 W3 (w.heap.size+1) (.int .i64 1) (.slice none 0 0) (.slice al L.length cl) (.int .i64 0) (.int .i64 0) (.int .i64 0) (.slice none 0 0)).setCell ⟨w.heap.size+1+1,0,none⟩ .nilIface:=⟨_,rfl⟩
  have k1':X.heap[w.heap.size+1]?=some (.cells #[.int .i64 1,.slice none 0 0,.slice al L.length cl,.int .i64 0,.int .i64 0,.int .i64 0,.slice none 0 0] 32 (0,0)):=by
   rw[hX];exact(Below.heap_setCell _ _ _ _ (by show w.heap.size+1≠w.heap.size+1+1;omega)).trans f0
  have k2':X.heap[w.heap.size+1+1]?=some (.cells #[.nilIface] 34 (0,0)):=by
   rw[hX];simpa using qn ((Xf (W:=W3) (p:=w.heap.size+1) (k:=w.heap.size+1+1) (by omega)).trans H6.o) 0 .nilIface
  have bX:Below w.heap.size w X:=by
   rw[hX];exact(Zd H7.o (Nat.le_succ _)).setCell (p:=⟨w.heap.size+1+1,0,none⟩) (show w.heap.size<=w.heap.size+1+1 by omega) .nilIface
  have kd:X.heap[w2.heap.size]?=some (.deferred (some [])):=by
   rw[hX];exact((Below.heap_setCell _ _ _ _ (by show w2.heap.size≠w.heap.size+1+1;omega)).trans (Xf (by omega))).trans HD.o
  have hX':=hX;simp only[s7] at hX';rw[←hX'];clear hX hX' f0;refine vi kd fun w' hb' he=>LeavesIn.fin (v:=.tuple #[.agg #[.int .i64 1,.slice none 0 0,.slice al L.length cl,.int .i64 0,.int .i64 0,.int .i64 0,.slice none 0 0],.nilIface]) ?_ ⟨.inl ⟨_,rfl,⟨_,_,_,rfl⟩,fun j hj=>H8.o j (by omega)⟩,bX.trans (hb'.mono (by omega))⟩;have c:=qa ((he _ (by omega)).trans k1');have c0:=c 0;have c1:=c 1;have c2:=c 2;have c3:=c 3;have c4:=c 4;have c5:=c 5;have c6:=c 6;have c7:=qa ((he _ (by omega)).trans k2') 0;simp at c0 c1 c2 c3 c4 c5 c6 c7;simp[results,Tryz.results9,go_sem,c0,c1,c2,c3,c4,c5,c6,c7]
 ·rintro q c i W3 hi0 hiN rfl ⟨rfl,⟨j,a,vs,vc,q1,q2,q3,q4,q5,q6⟩,h6,h7⟩ hz hd
  obtain⟨aS,cS,e1⟩:=qj.sli q5;obtain⟨aC,cC,e2⟩:=qj.sli q6;subst e1 e2;clear IT hI hIx;gi_wp2_with fail;refine vi hd fun w' hb' he=>LeavesIn.fin (v:=.tuple #[uR {a with pre:=j} (.slice aS a.steps.length cS) (.slice aC a.cyc.length cC),.nilIface]) ?_ ⟨.inr ⟨j,a,_,_,q1,q2,q3,rfl,qj.base (qj.sameB q5 fun k hk=>he k (by have:=(qj.lt q5 k hk).1;omega)) (by omega),qj.base (qj.sameB q6 fun k hk=>he k (by have:=(qj.lt q6 k hk).1;omega)) (by omega)⟩,h7.trans (hb'.mono (by omega))⟩;have c:=qa ((he _ (by omega)).trans q4);have c0:=c 0;have c1:=c 1;have c2:=c 2;have c3:=c 3;have c4:=c 4;have c5:=c 5;have c6:=c 6;have c7:=qa ((he _ (by omega)).trans h6) 0;simp at c0 c1 c2 c3 c4 c5 c6 c7;simp[results,Tryz.results9,go_sem,uR,c0,c1,c2,c3,c4,c5,c6,c7]
end
end
def ue (x:Int):List Ev:=[⟨2,x,0,0,1,0,0,0⟩,⟨3,x,0,0,0,0,0,3⟩]
def vr (x:Int):List Ev:=[⟨2,x,0,0,2,0,x,0⟩,⟨3,x,0,0,0,0,0,1⟩]
def KP:List Ev:=[⟨1,1,0,0,0,0,0,0⟩,⟨1,2,1,0,0,0,0,0⟩]++ue 1++ue 2++vr 1++vr 2++[⟨4,1,0,0,0,0,0,0⟩,⟨5,1,0,0,0,0,0,0⟩,⟨4,2,0,0,0,0,0,0⟩]
def ZN:List Ev:=KP++[⟨5,2,0,0,0,0,0,0⟩]
def um (n:Nat):Au:=(ye [] 0 (ZN.take n)).getD []
theorem exK_take:ZN.take 13=KP:=rfl
theorem ex_run:∀n,n<=14->(ye [] 0 (ZN.take n)).isSome=true:=by decide
theorem ex_yes:∀n,n < 14->Ja 3 [0] (um n) (qT 3 (um n))=none/\(uq (xG (qR 3 (um n) (qT 3 (um n))).2) (qR 3 (um n) (qT 3 (um n))).1).isSome=true:=by decide
theorem ex_steps:uq (xG (qR 3 (um 13) (qT 3 (um 13))).2) (qR 3 (um 13) (qT 3 (um 13))).1=some [2,1]:=by decide
theorem Uw:Ja 3 [0] (um 14) (qT 3 (um 14))=none/\uq (xG (qR 3 (um 14) (qT 3 (um 14))).2) (qR 3 (um 14) (qT 3 (um 14))).1=none:=by decide
theorem WG:xG (qR 3 (um 14) (qT 3 (um 14))).2=[(1,2),(2,1)]/\(qR 3 (um 14) (qT 3 (um 14))).1=[1,2]:=by decide
theorem cyc12 {c:List Int} (h:IsCyc [(1,2),(2,1)] [1,2] c):c=[1,2]:=by
 have t1:Tc [((1:Int),(2:Int)),(2,1)] 1 1:=.more (.one (b:=2) (by simp)) (by simp);have d2:xK [((1:Int),(2:Int)),(2,1)] 1 2 1:=(Ye (n:=1) (by decide)).2 ⟨⟨2,by simp,by decide,ZU.2 (by simp)⟩,fun m h1 h2 hd=>by
  obtain rfl:m=1:=by omega
  have:=ZU.1 hd;simp at this⟩
 rcases h with⟨rfl,h⟩|⟨k,n,l,h1,h2,h3,h4,rfl⟩
 ·exact absurd t1 (h 1 (by simp))
 ·obtain rfl:k=1:=by
   simp at h1;rcases h1 with rfl|rfl
   ·rfl
   ·exact absurd t1 (h2 1 (by simp) (by decide))
  obtain rfl:=h3.uniq d2;obtain⟨b,r,rfl,hb,-,-,-,hr⟩:=h4;unfold Qc at hr;subst hr;simp at hb;rw[hb]
theorem ex_judge {a:WW} (h:yB 3 [0] (um 14) a):a.kind=3/\a.cyc=[1,2]:=by
 unfold yB at h;rw[Uw.1] at h;simp only at h;rw[Uw.2] at h;obtain⟨c,hc,rfl⟩:=h;rw[WG.1,WG.2] at hc;exact⟨rfl,cyc12 hc⟩
theorem Vn {n:Nat} (hn:n < 14) {a:WW} (h:yB 3 [0] (um n) a):a.kind=1:=by
 obtain⟨h1,h2⟩:=ex_yes n hn;unfold yB at h;rw[h1] at h;simp only at h;cases e:uq (xG (qR 3 (um n) (qT 3 (um n))).2) (qR 3 (um n) (qT 3 (um n))).1 with
 |none=>rw[e] at h2;cases h2
 |some l=>rw[e] at h;rw[h]
theorem KO {a:WW} (h:yB 3 [0] (um 13) a):a.kind=1/\a.steps=[(2,false),(1,true)]:=by
 unfold yB at h;rw[(ex_yes 13 (by decide)).1] at h;simp only at h;rw[ex_steps] at h;simp only at h;rw[h];exact⟨rfl,by show XM 3 (um 13) (qT 3 (um 13)) [2,1]=_;decide⟩
theorem ex_vers:jQ 1 [0] (um 13) 0=([0,1],true):=by decide
section
attribute [local irreducible] xL
theorem Mw (c:Int) (w:World):Calls Tryz.prog 62 #[.int .i64 c] w fun e w'=>∃v,e=.returned v/\qj Ev.cells 69 8 w' w.heap.size v (ue c)/\Below w.heap.size w w':=by
 have hO:=qj.lit (f:=Ev.cells) (e:=69) (sz:=8) w w.heap.size (Nat.le_refl _) (ue c) Ev.len (by simp[ue]);have hB:Below w.heap.size w (w.alloc (.cells ((ue c).flatMap Ev.cells).toArray 69)):=(Below.refl _ w).alloc (Nat.le_refl _) _;go_enter Tryz.func62,Tryz.ntmps62;go_wp2;go_ret;exact⟨_,rfl,hO,hB⟩
theorem Rb (c:Int) (w:World):Calls Tryz.prog 63 #[.int .i64 c] w fun e w'=>∃v,e=.returned v/\qj Ev.cells 69 8 w' w.heap.size v (vr c)/\Below w.heap.size w w':=by
 have hO:=qj.lit (f:=Ev.cells) (e:=69) (sz:=8) w w.heap.size (Nat.le_refl _) (vr c) Ev.len (by simp[vr]);have hB:Below w.heap.size w (w.alloc (.cells ((vr c).flatMap Ev.cells).toArray 69)):=(Below.refl _ w).alloc (Nat.le_refl _) _;go_enter Tryz.func63,Tryz.ntmps63;go_wp2;go_ret;exact⟨_,rfl,hO,hB⟩
theorem MD (v:Value) (l:List Ev) (w:World) (h:Sl w w.heap.size 8 v l.length (l.flatMap Ev.cells)) (hl:l.length<=100000):
  Calls Tryz.prog 27 #[v] w fun e w'=>∃v',e=.returned v'/\qj Ev.cells 69 8 w' w.heap.size v' l/\Below w.heap.size w w':=by
 obtain⟨sa,sc,rfl,-⟩:=h.ex;have H:=qd h;clear h;go_enter Tryz.func27,Tryz.ntmps27;go_wp2_with (at_make;refine uU (f:=Ev.cells) (e:=69) (sz:=8) (B:=w.heap.size) rfl _ _ _ rfl _ 64 Tryz.underlying23 ud rfl rfl (by first|omega|(simp <;> omega)) (by first|omega|(simp <;> omega)) (by first|omega|(simp <;> omega)) ?_;refine qH.halt ?_)
 refine qH.go ?_;intro w1 o1 b1 z1;have B1:=qd b1;have O1:=qd o1;clear b1 o1;go_wp2_with fail
 go_loopw [3,4] (fun v p wr=>∃(k:Nat),k<=l.length/\p=.int .i64 k/\qj Ev.cells 69 8 wr w.heap.size v (l.take k)/\Below w.heap.size w wr) (fun _ p _=>l.length - (intOf p).toNat)
 case atStart=>exact⟨0,by omega,by go_num,O1.o,B1.o⟩
 case round=>
  obtain⟨k,hk,rfl,hO,hB⟩:=hrel;obtain⟨ao,co,rfl⟩:=qj.slv hO;have hlo:(l.take k).length=k:=by rw[List.length_take];omega
  rw[hlo] at hO ⊢;have zB:=hB.size;have HB:=qd hB;have HO:=qd hO;clear hB hO;by_cases hlt:k < l.length
  ·obtain ⟨b,off,c,rfl,hb,hc,hcc⟩:=(H.o.below HB.o).atF Ev.len rfl hlt
   have hbz:b < wr.heap.size:=by omega
   have HC:=qd hc;have c0:=hcc 0 (by omega);have c1:=hcc 1 (by omega);have c2:=hcc 2 (by omega);have c3:=hcc 3 (by omega);have c4:=hcc 4 (by omega);have c5:=hcc 5 (by omega);have c6:=hcc 6 (by omega);have c7:=hcc 7 (by omega);simp only[Ev.cells,Nat.add_zero,List.getElem?_cons_zero,List.getElem?_cons_succ] at c0 c1 c2 c3 c4 c5 c6 c7;clear hc hcc;go_wp2_with (at_builtin;refine qM rfl _ _ _ rfl _ 64 Tryz.underlying23 ud rfl HO.o c (by first|omega|(simp <;> omega)) (by rfl) (by rfl) (by first|rfl|simp) rfl (ug _) (by first|omega|(simp only[List.length_append,List.length_cons,List.length_nil,List.length_replicate];omega)) (by first|omega|(simp only[List.length_append,List.length_cons,List.length_nil,List.length_replicate];omega)) ?_;refine qH.halt ?_)
   refine qH.go ?_;intro g5 c5 w5 o5 G5;have B5:=qd (HB.o.trans (G5.below zB fun q h=>(HO.o.lt q h).1));have O5:=qd o5;clear o5 G5 c0 c1 c2 c3 c4 c6 c7;go_wp2_with fail;go_roundw
   case rel=>exact⟨k+1,by omega,by go_num,by rw[zk HC.o];exact O5.o,B5.o⟩
   case measure=>simp[intOf];omega
  ·obtain rfl:k=l.length:=by omega
   rw[List.take_length] at HO;go_wp2;go_ret;exact⟨_,rfl,HO.o,HB.o⟩
theorem VO (a:Int) (b:Bool) (w:World):Calls Tryz.prog 64 #[.agg #[.int .i64 a,.bool b],.agg #[.int .i64 a,.bool b]] w fun e w'=>e=.returned (.bool true)/\Below w.heap.size w w':=by
 have hb:Below w.heap.size w ((w.alloc (.cells #[.int .i64 a,.bool b] 87)).alloc (.cells #[.int .i64 a,.bool b] 87)):=((Below.refl _ w).alloc (Nat.le_refl _) _).alloc (by simp) _;have ha:(a==a)=true:=by simp
 have hc:(b==b)=true:=by simp
 go_enter Tryz.func64,Tryz.ntmps64;go_wp2;go_ret;exact⟨rfl,hb⟩
theorem UM (v1 v2:Value) (l:List (Int×Bool)) (n:Nat) (w:World) (hn:l.length=n) (h1:Sl w w.heap.size 2 v1 n (l.flatMap vL)) (h2:Sl w w.heap.size 2 v2 n (l.flatMap vL)):
  Calls Tryz.prog 29 #[v1,v2] w fun e w'=>e=.returned (.bool true)/\Below w.heap.size w w':=by
 obtain⟨a1,c1,rfl,m1⟩:=h1.ex;obtain⟨a2,c2,rfl,m2⟩:=h2.ex;have H1:=qd h1;have H2:=qd h2;have HN:=qd hn;clear h1 h2 hn;have hb:((n:Int) !=(n:Int))=false:=by simp
 go_enter Tryz.func29,Tryz.ntmps29;go_wp2
 go_loopw [5] (fun i wr=>∃k:Nat,k<=n/\i=.int .i64 k/\Below w.heap.size w wr) (fun i _=>n - (intOf i).toNat)
 case atStart=>exact⟨0,by omega,rfl,Below.refl _ _⟩
 case round=>
  obtain⟨k,hk,rfl,hB⟩:=hrel;by_cases hlt:k < n
  ·obtain ⟨b1,o1,x,rfl,-,gx,hc⟩:=(H1.o.below hB).atF Za HN.o hlt
   obtain⟨b2,o2,y,rfl,-,gy,hd⟩:=(H2.o.below hB).atF Za HN.o hlt;obtain rfl:x=y:=by rw[gx] at gy;exact Option.some.inj gy
   clear gx gy;have c0:=hc 0 (by omega);have c1:=hc 1 (by omega);have d0:=hd 0 (by omega);have d1:=hd 1 (by omega);clear hc hd;simp only[vL,Nat.add_zero,List.getElem?_cons_zero,List.getElem?_cons_succ] at c0 c1 d0 d1;have HB:=qd hB;clear hB;go_wp2;refine up [0,0,0,1,0,0,0,1,2,0] [0,1,2,3,4,5,6,7,8,9] (by kernel_rfl) ?_;simp only[qJ,qu,sD,sE,sF,sG]
   repeat first|(refine qq fun K hK=>?_;go_simp;refine hK _ _ ?_;clear hK K)|(apply qx;(intro w2 hw2;have hk1:=hw2.cell;have hk3:=hw2.heap;clear hw2;go_simp;with_reducible rfl);simp only[Act.put,sA,sB,sC])|refine qz rfl rfl ?_|(refine qE rfl rfl fun K hK=>?_;simp only[Act.put,sA,sB,sC];refine hK _ _ ?_;clear hK K)|refine qm ?_
   refine qF (fun K hK=>?_);go_simp;refine(VO _ _ _).mono ?_;rintro e w2 ⟨rfl,b2⟩;refine hK _ _ ?_;clear hK K;have HB2:=qd (HB.o.drew.trans (b2.mono HB.o.size));clear b2
   repeat first|(refine qq fun K hK=>?_;go_simp;refine hK _ _ ?_;clear hK K)|(apply qx;(intro w2 hw2;have hk1:=hw2.cell;have hk3:=hw2.heap;clear hw2;go_simp;with_reducible rfl);simp only[Act.put,sA,sB,sC])|refine qz rfl rfl ?_|(refine qE rfl rfl fun K hK=>?_;simp only[Act.put,sA,sB,sC];refine hK _ _ ?_;clear hK K)|refine qm ?_
   go_wp2;go_roundw
   case rel=>exact⟨k+1,by omega,by go_num,HB2.o⟩
   case measure=>simp[intOf];omega
  ·go_wp2
   go_ret;exact⟨rfl,hB⟩
theorem Ng (w:World):Calls Tryz.prog 26 #[] w fun e w'=>∃ov vv,e=.returned (.agg #[ov,vv])/\qj Ob.cells 62 2 w' w.heap.size ov [⟨1,0⟩]/\qj Ev.cells 69 8 w' w.heap.size vv KP/\Below w.heap.size w w':=by
 have b0:Below w.heap.size w (w.alloc (.cells #[.slice none 0 0,.slice none 0 0] 25)):=(Below.refl _ w).alloc (Nat.le_refl _) _;have o0:qj Ev.cells 69 8 ((w.alloc (.cells #[.slice none 0 0,.slice none 0 0] 25)).alloc (.cells #[.int .i64 1,.int .i64 1,.int .i64 0,.int .i64 0,.int .i64 0,.int .i64 0,.int .i64 0,.int .i64 0,.int .i64 1,.int .i64 2,.int .i64 1,.int .i64 0,.int .i64 0,.int .i64 0,.int .i64 0,.int .i64 0] 69)) w.heap.size (.slice (some ⟨w.heap.size+1,0,none⟩) 2 2) [⟨1,1,0,0,0,0,0,0⟩,⟨1,2,1,0,0,0,0,0⟩]:=by
  have:=qj.lit (f:=Ev.cells) (e:=69) (sz:=8) (w.alloc (.cells #[.slice none 0 0,.slice none 0 0] 25)) w.heap.size (by simp) [⟨1,1,0,0,0,0,0,0⟩,⟨1,2,1,0,0,0,0,0⟩] Ev.len (by simp);simpa[Ev.cells] using this
 have b1:Below w.heap.size w ((w.alloc (.cells #[.slice none 0 0,.slice none 0 0] 25)).alloc (.cells #[.int .i64 1,.int .i64 1,.int .i64 0,.int .i64 0,.int .i64 0,.int .i64 0,.int .i64 0,.int .i64 0,.int .i64 1,.int .i64 2,.int .i64 1,.int .i64 0,.int .i64 0,.int .i64 0,.int .i64 0,.int .i64 0] 69)):=b0.alloc (by simp) _;have r0:=qy (o:=.cells #[.int .i64 1,.int .i64 1,.int .i64 0,.int .i64 0,.int .i64 0,.int .i64 0,.int .i64 0,.int .i64 0,.int .i64 1,.int .i64 2,.int .i64 1,.int .i64 0,.int .i64 0,.int .i64 0,.int .i64 0,.int .i64 0] 69) (qs w (.cells #[.slice none 0 0,.slice none 0 0] 25));have O0:=qd o0;have B1:=qd b1;have R0:=qd r0;clear o0 b0 b1 r0;go_enter Tryz.func26,Tryz.ntmps26;go_wp2_with fail;generalize (w.alloc (.cells #[.slice none 0 0,.slice none 0 0] 25)).alloc (.cells #[.int .i64 1,.int .i64 1,.int .i64 0,.int .i64 0,.int .i64 0,.int .i64 0,.int .i64 0,.int .i64 0,.int .i64 1,.int .i64 2,.int .i64 1,.int .i64 0,.int .i64 0,.int .i64 0,.int .i64 0,.int .i64 0] 69)=W at *;have hz0:w.heap.size < W.heap.size:=qe R0.o;have hl1:(ue 1).length<=2:=Nat.le_refl _;have hl2:(ue 2).length<=2:=Nat.le_refl _;have hl3:(vr 1).length<=2:=Nat.le_refl _;have hl4:(vr 2).length<=2:=Nat.le_refl _;refine(Mw 1 _).mono ?_;rintro e X1 ⟨v1,rfl,o1,b1⟩;have P1:=qd o1;have I1:=qd (B1.o.trans (b1.mono B1.o.size));have J1:=qd (qj.below O0.o b1);have S1:=qd (qh R0.o b1 (qe R0.o));have hx1:=I1.o.size;obtain⟨q1,d1,e1⟩:∃q d,v1=.slice q 2 d:=qj.sli o1;subst e1;clear o1 b1;have hn1:(([⟨1,1,0,0,0,0,0,0⟩,⟨1,2,1,0,0,0,0,0⟩]:List Ev)).length+(ue 1).length<=9223372036854775807:=by decide
 have hb1:((([⟨1,1,0,0,0,0,0,0⟩,⟨1,2,1,0,0,0,0,0⟩]:List Ev)).length+(ue 1).length)*64<=140737488355328:=by decide
 go_wp2_with (at_builtin;refine yN rfl _ _ _ rfl _ 64 Tryz.underlying23 ud rfl J1.o (ue 1) rfl (qj.sl P1.o) hx1 rfl rfl Ev.len ug hn1 hb1 ?_;refine qH.halt ?_)
 refine qH.go ?_;intro u1 Y1 oo1 g1;obtain⟨qq1,dd1,ee1⟩:∃q d,u1=.slice q 4 d:=qj.sli oo1;subst ee1;obtain⟨L1,hL1⟩:∃L,([⟨1,1,0,0,0,0,0,0⟩,⟨1,2,1,0,0,0,0,0⟩]:List Ev)++ue 1=L:=⟨_,rfl⟩
 have HL1:=qd (show([⟨1,1,0,0,0,0,0,0⟩,⟨1,2,1,0,0,0,0,0⟩]:List Ev)++ue 1=L1 by exact hL1);have O1:=qd (show qj Ev.cells 69 8 Y1 w.heap.size (.slice qq1 4 dd1) L1 by rw[←hL1];exact oo1);have K1:=qd (I1.o.trans (g1.below hx1 fun j hj=>(qj.lt J1.o j hj).1));have T1:=qd (qS S1.o g1 (qj.neT J1.o S1.o (by decide)));clear oo1 g1 P1 I1 J1 S1 hn1 hb1 hL1;go_wp2_with fail;refine(Mw 2 _).mono ?_;rintro e X2 ⟨v2,rfl,o2,b2⟩;have P2:=qd o2;have I2:=qd (K1.o.trans (b2.mono K1.o.size));have J2:=qd (qj.below O1.o b2);have S2:=qd (qh T1.o b2 (qe T1.o));have hx2:=I2.o.size;obtain⟨q2,d2,e2⟩:∃q d,v2=.slice q 2 d:=qj.sli o2;subst e2;clear o2 b2;have hn2:(L1).length+(ue 2).length<=9223372036854775807:=by rw[←HL1.o];decide
 have hb2:((L1).length+(ue 2).length)*64<=140737488355328:=by rw[←HL1.o];decide
 go_wp2_with (at_builtin;refine yN rfl _ _ _ rfl _ 64 Tryz.underlying23 ud rfl J2.o (ue 2) rfl (qj.sl P2.o) hx2 rfl rfl Ev.len ug hn2 hb2 ?_;refine qH.halt ?_)
 refine qH.go ?_;intro u2 Y2 oo2 g2;obtain⟨qq2,dd2,ee2⟩:∃q d,u2=.slice q 6 d:=by obtain⟨q,d,h⟩:=qj.sli oo2;rw[List.length_append,←HL1.o] at h;exact⟨q,d,h⟩
 subst ee2;obtain⟨L2,hL2⟩:∃L,L1++ue 2=L:=⟨_,rfl⟩
 have HL2:=qd (show([⟨1,1,0,0,0,0,0,0⟩,⟨1,2,1,0,0,0,0,0⟩]:List Ev)++ue 1++ue 2=L2 by rw[HL1.o];exact hL2);have O2:=qd (show qj Ev.cells 69 8 Y2 w.heap.size (.slice qq2 6 dd2) L2 by rw[←hL2];exact oo2);have K2:=qd (I2.o.trans (g2.below hx2 fun j hj=>(qj.lt J2.o j hj).1));have T2:=qd (qS S2.o g2 (qj.neT J2.o S2.o (by decide)));clear oo2 g2 P2 I2 J2 S2 hn2 hb2 hL2 HL1;go_wp2_with fail;refine(Rb 1 _).mono ?_;rintro e X3 ⟨v3,rfl,o3,b3⟩;have P3:=qd o3;have I3:=qd (K2.o.trans (b3.mono K2.o.size));have J3:=qd (qj.below O2.o b3);have S3:=qd (qh T2.o b3 (qe T2.o));have hx3:=I3.o.size;obtain⟨q3,d3,e3⟩:∃q d,v3=.slice q 2 d:=qj.sli o3;subst e3;clear o3 b3;have hn3:(L2).length+(vr 1).length<=9223372036854775807:=by rw[←HL2.o];decide
 have hb3:((L2).length+(vr 1).length)*64<=140737488355328:=by rw[←HL2.o];decide
 go_wp2_with (at_builtin;refine yN rfl _ _ _ rfl _ 64 Tryz.underlying23 ud rfl J3.o (vr 1) rfl (qj.sl P3.o) hx3 rfl rfl Ev.len ug hn3 hb3 ?_;refine qH.halt ?_)
 refine qH.go ?_;intro u3 Y3 oo3 g3;obtain⟨qq3,dd3,ee3⟩:∃q d,u3=.slice q 8 d:=by obtain⟨q,d,h⟩:=qj.sli oo3;rw[List.length_append,←HL2.o] at h;exact⟨q,d,h⟩
 subst ee3;obtain⟨L3,hL3⟩:∃L,L2++vr 1=L:=⟨_,rfl⟩
 have HL3:=qd (show([⟨1,1,0,0,0,0,0,0⟩,⟨1,2,1,0,0,0,0,0⟩]:List Ev)++ue 1++ue 2++vr 1=L3 by rw[HL2.o];exact hL3);have O3:=qd (show qj Ev.cells 69 8 Y3 w.heap.size (.slice qq3 8 dd3) L3 by rw[←hL3];exact oo3);have K3:=qd (I3.o.trans (g3.below hx3 fun j hj=>(qj.lt J3.o j hj).1));have T3:=qd (qS S3.o g3 (qj.neT J3.o S3.o (by decide)));clear oo3 g3 P3 I3 J3 S3 hn3 hb3 hL3 HL2;go_wp2_with fail;refine(Rb 2 _).mono ?_;rintro e X4 ⟨v4,rfl,o4,b4⟩;have P4:=qd o4;have I4:=qd (K3.o.trans (b4.mono K3.o.size));have J4:=qd (qj.below O3.o b4);have S4:=qd (qh T3.o b4 (qe T3.o));have hx4:=I4.o.size;obtain⟨q4,d4,e4⟩:∃q d,v4=.slice q 2 d:=qj.sli o4;subst e4;clear o4 b4;have hn4:(L3).length+(vr 2).length<=9223372036854775807:=by rw[←HL3.o];decide
 have hb4:((L3).length+(vr 2).length)*64<=140737488355328:=by rw[←HL3.o];decide
 go_wp2_with (at_builtin;refine yN rfl _ _ _ rfl _ 64 Tryz.underlying23 ud rfl J4.o (vr 2) rfl (qj.sl P4.o) hx4 rfl rfl Ev.len ug hn4 hb4 ?_;refine qH.halt ?_)
 refine qH.go ?_;intro u4 Y4 oo4 g4;obtain⟨qq4,dd4,ee4⟩:∃q d,u4=.slice q 10 d:=by obtain⟨q,d,h⟩:=qj.sli oo4;rw[List.length_append,←HL3.o] at h;exact⟨q,d,h⟩
 subst ee4;obtain⟨L4,hL4⟩:∃L,L3++vr 2=L:=⟨_,rfl⟩
 have HL4:=qd (show([⟨1,1,0,0,0,0,0,0⟩,⟨1,2,1,0,0,0,0,0⟩]:List Ev)++ue 1++ue 2++vr 1++vr 2=L4 by rw[HL3.o];exact hL4);have O4:=qd (show qj Ev.cells 69 8 Y4 w.heap.size (.slice qq4 10 dd4) L4 by rw[←hL4];exact oo4);have K4:=qd (I4.o.trans (g4.below hx4 fun j hj=>(qj.lt J4.o j hj).1));have T4:=qd (qS S4.o g4 (qj.neT J4.o S4.o (by decide)));clear oo4 g4 P4 I4 J4 S4 hn4 hb4 hL4 HL3;have lz:qj Ev.cells 69 8 (Y4.alloc (.cells #[.int .i64 4,.int .i64 1,.int .i64 0,.int .i64 0,.int .i64 0,.int .i64 0,.int .i64 0,.int .i64 0,.int .i64 5,.int .i64 1,.int .i64 0,.int .i64 0,.int .i64 0,.int .i64 0,.int .i64 0,.int .i64 0,.int .i64 4,.int .i64 2,.int .i64 0,.int .i64 0,.int .i64 0,.int .i64 0,.int .i64 0,.int .i64 0] 69)) w.heap.size (.slice (some ⟨Y4.heap.size,0,none⟩) 3 3) [⟨4,1,0,0,0,0,0,0⟩,⟨5,1,0,0,0,0,0,0⟩,⟨4,2,0,0,0,0,0,0⟩]:=by
  have:=qj.lit (f:=Ev.cells) (e:=69) (sz:=8) Y4 w.heap.size K4.o.size [⟨4,1,0,0,0,0,0,0⟩,⟨5,1,0,0,0,0,0,0⟩,⟨4,2,0,0,0,0,0,0⟩] Ev.len (by simp);simpa[Ev.cells] using this
 have bz:Below w.heap.size w (Y4.alloc (.cells #[.int .i64 4,.int .i64 1,.int .i64 0,.int .i64 0,.int .i64 0,.int .i64 0,.int .i64 0,.int .i64 0,.int .i64 5,.int .i64 1,.int .i64 0,.int .i64 0,.int .i64 0,.int .i64 0,.int .i64 0,.int .i64 0,.int .i64 4,.int .i64 2,.int .i64 0,.int .i64 0,.int .i64 0,.int .i64 0,.int .i64 0,.int .i64 0] 69)):=K4.o.alloc K4.o.size _;have hx5:=bz.size;have hn5:L4.length+([⟨4,1,0,0,0,0,0,0⟩,⟨5,1,0,0,0,0,0,0⟩,⟨4,2,0,0,0,0,0,0⟩]:List Ev).length<=9223372036854775807:=by rw[←HL4.o];decide
 have hb5:(L4.length+([⟨4,1,0,0,0,0,0,0⟩,⟨5,1,0,0,0,0,0,0⟩,⟨4,2,0,0,0,0,0,0⟩]:List Ev).length)*64<=140737488355328:=by rw[←HL4.o];decide
 have LZ5:=qd lz;have BZ5:=qd bz;have OZ5:=qd (qj.alloc O4.o (.cells #[.int .i64 4,.int .i64 1,.int .i64 0,.int .i64 0,.int .i64 0,.int .i64 0,.int .i64 0,.int .i64 0,.int .i64 5,.int .i64 1,.int .i64 0,.int .i64 0,.int .i64 0,.int .i64 0,.int .i64 0,.int .i64 0,.int .i64 4,.int .i64 2,.int .i64 0,.int .i64 0,.int .i64 0,.int .i64 0,.int .i64 0,.int .i64 0] 69));have RZ5:=qd (qy (o:=.cells #[.int .i64 4,.int .i64 1,.int .i64 0,.int .i64 0,.int .i64 0,.int .i64 0,.int .i64 0,.int .i64 0,.int .i64 5,.int .i64 1,.int .i64 0,.int .i64 0,.int .i64 0,.int .i64 0,.int .i64 0,.int .i64 0,.int .i64 4,.int .i64 2,.int .i64 0,.int .i64 0,.int .i64 0,.int .i64 0,.int .i64 0,.int .i64 0] 69) T4.o);clear lz bz;go_wp2_with (at_builtin;refine yN rfl _ _ _ rfl _ 64 Tryz.underlying23 ud rfl OZ5.o [⟨4,1,0,0,0,0,0,0⟩,⟨5,1,0,0,0,0,0,0⟩,⟨4,2,0,0,0,0,0,0⟩] rfl (qj.sl LZ5.o) hx5 rfl rfl Ev.len ug hn5 hb5 ?_;refine qH.halt ?_)
 refine qH.go ?_;intro u5 Y5 oo5 g5;obtain⟨qq5,dd5,ee5⟩:∃q d,u5=.slice q 13 d:=by obtain⟨q,d,h⟩:=qj.sli oo5;rw[List.length_append,←HL4.o] at h;exact⟨q,d,h⟩
 subst ee5;have O5:=qd (show qj Ev.cells 69 8 Y5 w.heap.size (.slice qq5 13 dd5) KP by
  have e:KP=L4++[⟨4,1,0,0,0,0,0,0⟩,⟨5,1,0,0,0,0,0,0⟩,⟨4,2,0,0,0,0,0,0⟩]:=by rw[←HL4.o];rfl
  rw[e];exact oo5)
 have K5:=qd (BZ5.o.trans (g5.below hx5 fun j hj=>(qj.lt OZ5.o j hj).1));have T5:=qd (qS RZ5.o g5 (qj.neT OZ5.o RZ5.o (by decide)));clear oo5 g5 LZ5 BZ5 OZ5 RZ5 hn5 hb5 HL4;have hl5:=qe T5.o;have yf:=fun o=>qt T5.o o;have y:=qa T5.o;have y0:=y 0;have y1:=y 1;simp at y0 y1;clear y;go_wp2_with fail;have S6:=qn (qn T5.o 0 (.slice (some ⟨Y5.heap.size,0,none⟩) 1 1)) 1 (.slice qq5 13 dd5);have B6:=(K5.o.setCell (p:=⟨w.heap.size,0,none⟩) (Nat.le_refl _) (.slice (some ⟨Y5.heap.size,0,none⟩) 1 1)).setCell (p:=⟨w.heap.size,1,none⟩) (Nat.le_refl _) (.slice qq5 13 dd5);have O6:=qj.other (j:=1) (qj.other (j:=0) O5.o (qj.neT O5.o T5.o (by decide)) (.slice (some ⟨Y5.heap.size,0,none⟩) 1 1)) (qj.neT O5.o T5.o (by decide)) (.slice qq5 13 dd5);have z6:((Y5.setCell ⟨w.heap.size,0,none⟩ (.slice (some ⟨Y5.heap.size,0,none⟩) 1 1)).setCell ⟨w.heap.size,1,none⟩ (.slice qq5 13 dd5)).heap.size=Y5.heap.size:=by simp
 obtain⟨X,hX⟩:∃X,X=(Y5.setCell ⟨w.heap.size,0,none⟩ (.slice (some ⟨Y5.heap.size,0,none⟩) 1 1)).setCell ⟨w.heap.size,1,none⟩ (.slice qq5 13 dd5):=⟨_,rfl⟩
 rw[←hX] at S6 B6 O6 z6 ⊢;clear hX;have lo:qj Ob.cells 62 2 (X.alloc (.cells #[.int .i64 1,.int .i64 0] 62)) w.heap.size (.slice (some ⟨X.heap.size,0,none⟩) 1 1) [⟨1,0⟩]:=by
  have:=qj.lit (f:=Ob.cells) (e:=62) (sz:=2) X w.heap.size B6.size [⟨1,0⟩] Ob.len (by simp);simpa[Ob.cells] using this
 rw[z6] at lo;have R7:=qy (o:=.cells #[.int .i64 1,.int .i64 0] 62) S6;have c0:=qa R7 0;have c1:=qa R7 1;simp at c0 c1;refine bodyPost_ret (v:=.agg #[.slice (some ⟨Y5.heap.size,0,none⟩) 1 1,.slice qq5 13 dd5]) (by simp[results,Tryz.results26,go_sem,c0,c1]) rfl ?_;exact⟨_,_,rfl,lo,qj.alloc O6 _,B6.alloc B6.size _⟩
end
