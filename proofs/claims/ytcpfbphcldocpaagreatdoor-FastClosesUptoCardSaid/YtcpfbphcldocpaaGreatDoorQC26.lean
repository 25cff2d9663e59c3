/- Parts of the proof; the first: A history without one of its transactions: its table, its premise. Conditions: those of each theorem, as typed. -/
import Derived.Test.YtcpfbphcldocpaaGreatDoorQC24
import Derived.Test.YtcpfbphcldocpaaGreatDoorQC18
import Derived.Test.YtcpfbphcldocpaaGreatDoorQC09
import Derived.Test.YtcpfbphcldocpaaGreatDoorQC19
set_option linter.unusedVariables false
set_option linter.unusedSimpArgs false
set_option linter.unusedSectionVars false
set_option maxRecDepth 100000
set_option maxHeartbeats 4000000
namespace Go.Proofs.YtcpfbphcldocpaaGreatDoor
open Go.Maps Go.RowKit
def Vv (d:Dd):Dd:={d with at_:=0,back:=0}
def vx (s:St):St:={s with beg:=0,fin:=0,tri:=0,deeds:=s.deeds.map Vv}
section
variable {A A' B:Au} {n n':Nat} {e:Ev} {x:Int}
theorem ssT_id (s:St):(vx s).id=s.id:=rfl
theorem last_sd {l l':List Dd} (h:l.map Vv=l'.map Vv) {d:Dd} (hd:l.getLast?=some d):∃d',l'.getLast?=some d'/\Vv d'=Vv d:=by
 have h1:(l.map Vv).getLast?=some (Vv d):=by rw[List.getLast?_map,hd];rfl
 rw[h,List.getLast?_map] at h1;obtain⟨d',h2,h3⟩:=Option.map_eq_some_iff.1 h1;exact⟨d',h2,h3⟩
theorem move_ss {s t s':St} (hm:xB n e s=some s') (h:vx s=vx t):∃t',xB n' e t=some t'/\vx t'=vx s':=by
 have hst:t.stand=s.stand:=by have:=congrArg St.stand h;exact this.symm
 have qd:t.id=s.id:=(congrArg St.id h).symm;have hth:t.thread=s.thread:=(congrArg St.thread h).symm;have hss:t.status=s.status:=(congrArg St.status h).symm;have hdd:s.deeds.map Vv=t.deeds.map Vv:=congrArg St.deeds h;rcases xR hm with⟨h1,h2,rfl⟩|⟨h1,h2,d,hd,hf,rfl⟩|⟨h1,h2,rfl⟩|⟨h1,h2,rfl⟩|⟨h1,h2,rfl⟩|⟨h1,h2,rfl⟩
 ·refine ⟨uB e n' t,by unfold xB;rw[if_pos h1,if_pos (by omega)],?_⟩
  simp[vx,uB,qd,hth,hss,hdd,Ub,Vv]
 ·obtain ⟨d',hd',he⟩:=last_sd hdd hd
  have hop:d'.op=d.op:=by have:=congrArg Dd.op he;exact this
  refine⟨yW e.ret e.val n' t,by unfold xB;rw[if_neg (by omega),if_pos h1,if_pos (by omega),hd'];simp only;rw[hop,if_pos hf],?_⟩;have e1:yW e.ret e.val n s={s with stand:=1,deeds:=s.deeds.dropLast++[us d e.ret e.val n]}:=by unfold yW;rw[hd]
  have e2:yW e.ret e.val n' t={t with stand:=1,deeds:=t.deeds.dropLast++[us d' e.ret e.val n']}:=by unfold yW;rw[hd']
  rw[e1,e2];have hdl:t.deeds.dropLast.map Vv=s.deeds.dropLast.map Vv:=by rw[List.map_dropLast,List.map_dropLast,hdd]
  have hr:Vv (us d' e.ret e.val n')=Vv (us d e.ret e.val n):=by
   obtain⟨a1,a2,a3,a4,a5,a6,a7,a8⟩:=d;obtain⟨b1,b2,b3,b4,b5,b6,b7,b8⟩:=d';simp only[Vv,us,Dd.mk.injEq,true_and,and_true] at he ⊢;exact⟨he.1,he.2.1,he.2.2.1,he.2.2.2.1⟩
  simp only[vx,List.map_append,List.map_cons,List.map_nil,hdl,hr,qd,hth,hss]
 ·refine ⟨UH n' t,by unfold xB;rw[if_neg (by omega),if_neg (by omega),if_pos h1,if_pos (by omega)],?_⟩
  simp[vx,UH,qd,hth,hdd]
 ·refine ⟨Qr 3 n' t,by unfold xB;rw[if_neg (by omega),if_neg (by omega),if_neg (by omega),if_pos h1,if_pos (by omega)],?_⟩
  simp[vx,Qr,qd,hth,hdd]
 ·refine ⟨Qr 4 n' t,by unfold xB;rw[if_neg (by omega),if_neg (by omega),if_neg (by omega),if_neg (by omega),if_pos h1,if_pos (by omega)],?_⟩
  simp[vx,Qr,qd,hth,hdd]
 ·refine ⟨Vr t,by unfold xB;rw[if_neg (by omega),if_neg (by omega),if_neg (by omega),if_neg (by omega),if_neg (by omega),if_pos h1,if_pos (by omega)],?_⟩
  simp[vx,Vr,qd,hth,hss,hdd]
theorem set_map (hn:(A.map (·.id)).Nodup) {k:Nat} {s s':St} (hk:A[k]?=some s):A.set k s'=A.map fun t=>if t.id==s.id then s' else t:=by
 apply List.ext_getElem?;intro j;rw[List.getElem?_map];by_cases e:k=j
 ·subst e
  have hl:=(List.getElem?_eq_some_iff.1 hk).1;rw[List.getElem?_set_self hl,hk];simp
 ·rw [List.getElem?_set_ne e]
  cases hj:A[j]? with
  |none=>rfl
  |some t=>
   have:t.id≠s.id:=fun h=>by
    have h1:(A.map (·.id))[j]?=(A.map (·.id))[k]?:=by
     rw[List.getElem?_map,List.getElem?_map,hk,hj];simp[h]
    have hl:=(List.getElem?_eq_some_iff.1 hj).1;exact e ((List.getElem?_inj (by simpa using hl) hn).1 h1).symm
   simp[this]
theorem JP:∀{l:List Ev} {A B:Au} {n:Nat},(A.map (·.id)).Nodup->ye A n l=some B->(B.map (·.id)).Nodup
 |[],A,B,n,h,hr=>by
  simp only[ye,Option.some.injEq] at hr;exact hr▸h
 |e::l,A,B,n,h,hr=>by
  simp only[ye] at hr;obtain⟨C,hC,hr⟩:=Option.bind_eq_some_iff.1 hr;refine JP ?_ hr;rcases xP hC with⟨-,h1,-,rfl⟩|⟨k,s,s',-,hk,-,hm,rfl⟩
  ·rw [List.map_append,List.nodup_append]
   refine⟨h,by simp,?_⟩;intro a ha b hb;simp[zM] at hb;subst hb;rintro rfl;obtain⟨s,hs,e⟩:=List.mem_map.1 ha;exact h1 ⟨s,hs,e⟩
  ·rw [Rw hk (zN hm).1]
   exact h
def uG (x:Int) (s' t:St):St:=if t.id==x then s' else t
theorem Zc (hn:(A.map (·.id)).Nodup) {k:Nat} {s s':St} (hk:A[k]?=some s):A.set k s'=A.map (uG s.id s'):=set_map hn hk
theorem turn_id {y:Int} {s' t:St} (h:s'.id=y):(uG y s' t).id=t.id:=by
 unfold uG
 split
 ·rename_i e;rw[h];exact(by simpa using e:t.id=y).symm
 ·rfl
theorem Yk {y:Int} {s':St} (h:s'.id=y):(A.map (uG y s')).filter (fun t=>t.id !=x)=(A.filter fun t=>t.id !=x).map (uG y s'):=by
 rw[List.filter_map];congr 1;refine List.filter_congr fun t _=>?_;show((uG y s' t).id !=x)=_;rw[turn_id h]
theorem Rf {y:Int} {s' t':St} (h:vx t'=vx s') (l:List St):(l.map (uG y t')).map vx=(l.map vx).map (uG y (vx s')):=by
 rw[List.map_map,List.map_map];refine List.map_congr_left fun t _=>?_;show vx (uG y t' t)=uG y (vx s') (vx t);unfold uG;rw[ssT_id]
 split
 ·exact h
 ·rfl
theorem Ke {l m:List St} (h:l.map vx=m.map vx) {s:St} (hs:s ∈ l):∃t ∈ m,vx t=vx s:=by
 have:vx s ∈ m.map vx:=h▸List.mem_map_of_mem hs;obtain⟨t,ht,e⟩:=List.mem_map.1 this;exact⟨t,ht,e⟩
theorem ids_ss {l m:List St} (h:l.map vx=m.map vx):l.map (·.id)=m.map (·.id):=by
 have:=congrArg (List.map St.id) h;rw[List.map_map,List.map_map] at this;exact this
theorem Jp (hA:(A.map (·.id)).Nodup) (h:A'.map vx=(A.filter fun t=>t.id !=x).map vx) (hs:zu A n e=some B) (he:e.tx≠x):∃B',zu A' n' e=some B'/\B'.map vx=(B.filter fun t=>t.id !=x).map vx:=by
 have hn':(A'.map (·.id)).Nodup:=by
  rw[ids_ss h];exact(List.filter_sublist.map _).nodup hA
 rcases xP hs with⟨hk,h1,h2,rfl⟩|⟨k,s,s',hk,hA1,hi,hm,rfl⟩
 ·refine ⟨A'++[zM e n'],?_,?_⟩
  ·unfold zu
   rw[if_pos hk,if_neg];simp only[Bool.or_eq_true,not_or];refine⟨fun q=>h1 ?_,fun q=>h2 ?_⟩
   ·obtain ⟨t,ht,e1⟩:=Xw.1 q
    obtain⟨u,hu,e2⟩:=Ke h ht;exact⟨u,(List.mem_filter.1 hu).1,by rw[←e1];have:=congrArg St.id e2;exact this⟩
   ·obtain ⟨t,ht,e1⟩:=Qn.1 q
    obtain⟨u,hu,e2⟩:=Ke h ht;have a1:u.thread=t.thread:=by have:=congrArg St.thread e2;exact this
    have a2:u.stand=t.stand:=by have:=congrArg St.stand e2;exact this
    exact⟨u,(List.mem_filter.1 hu).1,by rw[a1,a2];exact e1⟩
  ·rw [List.filter_append,List.map_append,List.map_append,h]
   congr 1;rw[List.filter_cons_of_pos (by simpa[zM] using he)];simp[vx,zM]
 ·have hsm:s ∈ A.filter fun t=>t.id !=x:=List.mem_filter.2 ⟨List.mem_of_getElem? hA1,by simpa[hi] using he⟩
  obtain⟨t,ht,e1⟩:=Ke h.symm hsm;obtain⟨k',hk'⟩:=List.mem_iff_getElem?.1 ht;have hti:t.id=e.tx:=by rw[←hi];have:=congrArg St.id e1;exact this
  obtain⟨t',hm',e2⟩:=move_ss (n':=n') hm e1.symm;have hf:A'.findIdx? (fun s=>s.id==e.tx)=some k':=by
   rw[List.findIdx?_eq_some_iff_getElem];obtain⟨hl,hg⟩:=List.getElem?_eq_some_iff.1 hk';refine⟨hl,by rw[hg];simpa using hti,fun j hj=>?_⟩;intro hq;have h1:(A'.map (·.id))[j]?=(A'.map (·.id))[k']?:=by
    rw[List.getElem?_map,List.getElem?_map,hk',List.getElem?_eq_getElem (by omega)];simp only[Option.map_some,Option.some.injEq];rw[hti];simpa using hq
   have:=(List.getElem?_inj (by rw[List.length_map];omega) hn').1 h1;omega
  refine⟨A'.set k' t',?_,?_⟩
  ·unfold zu
   rw[if_neg hk,hf];simp only;rw[hk'];simp only;rw[hm'];rfl
  ·rw [Zc hn' hk',Zc hA hA1,Yk (zN hm).1,Rf e2,Rf (t':=s') rfl,h,hti,hi]
theorem Vx (hA:(A.map (·.id)).Nodup) (hs:zu A n e=some B) (he:e.tx=x):B.filter (fun t=>t.id !=x)=A.filter fun t=>t.id !=x:=by
 rcases xP hs with⟨hk,h1,h2,rfl⟩|⟨k,s,s',hk,hA1,hi,hm,rfl⟩
 ·rw [List.filter_append,List.filter_cons_of_neg (by simpa[zM] using he)]
  simp
 ·rw [Zc hA hA1,Yk (zN hm).1]
  have:∀t ∈ A.filter (fun t=>t.id !=x),uG s.id s' t=t:=fun t ht=>by
   have h2:=(List.mem_filter.1 ht).2;unfold uG;rw[if_neg];rw[hi,he];simpa using h2
  rw[List.map_congr_left this,List.map_id']
theorem vK:∀{l:List Ev} {A A' B:Au} {n n':Nat},(A.map (·.id)).Nodup->A'.map vx=(A.filter fun t=>t.id !=x).map vx->ye A n l=some B->∃B',ye A' n' (l.filter fun e=>e.tx !=x)=some B'/\B'.map vx=(B.filter fun t=>t.id !=x).map vx
 |[],A,A',B,n,n',hA,h,hr=>by
  simp only[ye,Option.some.injEq] at hr;exact⟨A',rfl,hr▸h⟩
 |e::l,A,A',B,n,n',hA,h,hr=>by
  simp only[ye] at hr;obtain⟨C,hC,hr⟩:=Option.bind_eq_some_iff.1 hr;have hn:(C.map (·.id)).Nodup:=JP (l:=[e]) (n:=n) hA (by simp only[ye];rw[hC];rfl);by_cases he:e.tx=x
  ·rw [List.filter_cons_of_neg (by simpa using he)]
   exact vK hn (by rw[Vx hA hC he];exact h) hr
  ·rw [List.filter_cons_of_pos (by simpa using he)]
   obtain⟨C',h1,h2⟩:=Jp (n':=n') hA h hC he;simp only[ye];rw[h1];exact vK hn h2 hr
theorem Wa {os:List Ob}:∀(l:List Dd) (rd:List Int) (wr:List (Int×Int)),xH os rd wr (l.map Vv)=xH os rd wr l
 |[],rd,wr=>rfl
 |d::l,rd,wr=>by
  rw[List.map_cons];unfold xH;simp only[Vv];cases os[d.obj.toNat]? with
  |none=>rfl
  |some o=>
   simp only[Wa l];rfl
theorem Zj {os:List Ob}:∀(A:Au) (wr:List (Int×Int)),qU os wr (A.map vx)=qU os wr A
 |[],wr=>rfl
 |s::A,wr=>by
  rw[List.map_cons];unfold qU;rw[show (vx s).deeds=s.deeds.map Vv from rfl,Wa];cases xH os [] wr s.deeds with
  |none=>rfl
  |some wr'=>exact Zj A wr'
theorem uY {os:List Ob} {p:St->Bool}:∀{A:Au} {wr wr0:List (Int×Int)},qU os wr A=true->(∀q ∈ wr0,q ∈ wr)->qU os wr0 (A.filter p)=true
 |[],_,_,_,_=>rfl
 |s::A,wr,wr0,h,hs=>by
  unfold qU at h;cases hp:xH os [] wr s.deeds with
  |none=>rw[hp] at h;cases h
  |some wr'=>
   rw[hp] at h;by_cases hps:p s=true
   ·rw [List.filter_cons_of_pos hps]
    unfold qU;obtain⟨wr1,h1,h2⟩:=jq hp hs;rw[h1];exact uY h h2
   ·rw [List.filter_cons_of_neg hps]
    exact uY h fun q hq=>(Xn hp).1 q (hs q hq)
theorem UR {os:List Ob} {es:List Ev} (h:qN os es=some A) (hp:qU os [] A=true):∃B,qN os (es.filter fun e=>e.tx !=x)=some B/\qU os [] B=true:=by
 have hh:xJ os es=true:=by
  unfold qN at h
  split at h
  ·assumption
  ·cases h
 obtain⟨-,-,-,hr⟩:=yh h;obtain⟨B,h1,h2⟩:=vK (x:=x) (A:=[]) (A':=[]) (n':=0) List.Pairwise.nil rfl hr;refine⟨B,?_,?_⟩
 ·unfold qN
  rw[if_pos ?_]
  ·exact h1
  ·unfold xJ at hh ⊢
   simp only[Bool.and_eq_true,decide_eq_true_eq,List.all_eq_true] at hh ⊢;exact⟨⟨⟨hh.1.1.1,Nat.le_trans (List.length_filter_le _ _) hh.1.1.2⟩,hh.1.2⟩,fun e he=>hh.2 e (List.mem_filter.1 he).1⟩
 ·rw [←Zj,h2,Zj]
  exact uY hp fun q hq=>hq
theorem Jt {os:List Ob} {es:List Ev} (h:xQ os (qN os es)=some A):∃B,xQ os (qN os (es.filter fun e=>e.tx !=x))=some B:=by
 cases ht:qN os es with
 |none=>rw[ht] at h;cases h
 |some A0=>
  rw[ht] at h;unfold xQ at h;simp only at h
  split at h
  ·rename_i hp
   obtain⟨B,h1,h2⟩:=UR ht hp;refine⟨B,?_⟩;rw[h1];unfold xQ;simp only;rw[if_pos h2]
  ·cases h
end
def vF (o:Ob):Int:=4000000000*(o.kind - 1)+o.init
theorem XD {o:Ob} (h:o.kind=1):vF o=o.init:=by unfold vF;rw[h];omega
section
variable {os:List Ob} {es:List Ev} {A A':Au} {x e:Ev} {n:Nat}
theorem UF {L:List Fd} (hz:QX x L=true) {j:Nat} (h8:j < 8) (h0:j≠0) (hj:j ∉ L.map xT):vU x j=0:=by
 have:=uE.1 hz j h8;unfold vh at this
 rwa [if_neg (by simp only[not_or];exact⟨h0,hj⟩)] at this
theorem evB_zero (h:YF os x=true):(x.kind=2->(uy x.op=false->x.key=0)/\(yV x.op=false->x.val=0))/\(x.kind=3->x.ret≠3->x.val=0):=by
 unfold YF at h;simp only[Bool.and_eq_true,Bool.or_eq_true] at h;obtain⟨hv,-⟩:=h;unfold xM at hv;cases hL:ub x with
 |none=>rw[hL] at hv;cases hv
 |some L=>
  rw[hL] at hv;simp only[Bool.and_eq_true] at hv;obtain⟨-,hz⟩:=hv;unfold ub at hL;refine⟨fun h2=>?_,fun h3 hr=>?_⟩
  ·rw [if_pos h2] at hL
   split at hL
   ·cases hL
   ·cases hL
    refine⟨fun hk=>UF hz (j:=5) (by omega) (by omega) ?_,fun hk=>UF hz (j:=6) (by omega) (by omega) ?_⟩
    ·unfold jd
     rw[hk];cases yV x.op <;> decide+kernel
    ·unfold jd
     rw[hk];cases uy x.op <;> decide+kernel
  ·rw [if_neg (by omega),if_pos h3] at hL
   split at hL
   ·cases hL
    refine UF hz (j:=6) (by omega) (by omega) ?_;unfold YC;rw[if_neg (by simpa using hr)];decide+kernel
   ·cases hL
structure DdZ (d:Dd):Prop where
 key:uy d.op=false->d.key=0
 val:yV d.op=false->d.val=0
 got:d.ret≠3->d.got=0
def StZ (s:St):Prop:=∀d ∈ s.deeds,DdZ d
theorem StZ.move {s s':St} (h:StZ s) (hx:YF os x=true) (hm:xB n x s=some s'):StZ s':=by
 obtain⟨h1,h2⟩:=evB_zero hx;rcases xR hm with⟨hk,-,rfl⟩|⟨hk,-,d,hd,hf,rfl⟩|⟨-,-,rfl⟩|⟨-,-,rfl⟩|⟨-,-,rfl⟩|⟨-,-,rfl⟩
 ·intro d hd
  rcases List.mem_append.1 hd with hd|hd
  ·exact h d hd
  ·obtain rfl:=List.mem_singleton.1 hd
   exact⟨(h1 hk).1,(h1 hk).2,fun _=>rfl⟩
 ·have e1:yW x.ret x.val n s={s with stand:=1,deeds:=s.deeds.dropLast++[us d x.ret x.val n]}:=by unfold yW;rw[hd]
  rw[e1];intro q hq;rcases List.mem_append.1 hq with hq|hq
  ·exact h q (List.dropLast_subset _ hq)
  ·obtain rfl:=List.mem_singleton.1 hq
   have:=h d (List.mem_of_getLast? hd);exact⟨this.key,this.val,h2 hk⟩
 ·exact h
 ·exact h
 ·exact h
 ·exact h
theorem MH (h:∀s ∈ A,StZ s) (hx:YF os e=true) (hs:zu A n e=some A'):∀s ∈ A',StZ s:=by
 rcases xP hs with⟨-,-,-,rfl⟩|⟨k,s,s',-,hk,-,hm,rfl⟩
 ·intro s hs
  rcases List.mem_append.1 hs with hs|hs
  ·exact h s hs
  ·obtain rfl:=List.mem_singleton.1 hs
   exact fun d hd=>by cases hd
 ·intro t ht
  rcases List.mem_or_eq_of_mem_set ht with ht|rfl
  ·exact h t ht
  ·exact (h s (List.mem_of_getElem? hk)).move hx hm
theorem Rd:∀{l:List Ev} {A A':Au} {n:Nat},(∀s ∈ A,StZ s)->(∀e ∈ l,YF os e=true)->ye A n l=some A'->∀s ∈ A',StZ s
 |[],A,A',n,h,_,hr=>by
  simp only[ye,Option.some.injEq] at hr;exact hr▸h
 |e::l,A,A',n,h,he,hr=>by
  simp only[ye] at hr;obtain⟨B,hB,hr⟩:=Option.bind_eq_some_iff.1 hr;exact Rd (MH h (he e (by simp)) hB) (fun q hq=>he q (by simp[hq])) hr
theorem Nn (h:qN os es=some A):∀s ∈ A,StZ s:=by
 obtain⟨-,-,he,hr⟩:=yh h;exact Rd (A:=[]) (fun s hs=>by cases hs) he hr
structure DdP (os:List Ob) (d:Dd):Prop where
 obj:0<=d.obj
 reg:∃o,os[d.obj.toNat]?=some o/\o.kind=1
 op:d.op=1/\d.val=0\/d.op=2/\-1000000000<=d.val/\d.val<=1000000000
 key:d.key=0
 ret:d.ret=0\/d.op=2/\d.ret=1/\d.got=0\/d.op=1/\d.ret=3
theorem VZ (h:qN os es=some A) (hp:qU os [] A=true):∀s ∈ A,∀d ∈ s.deeds,DdP os d:=fun s hs d hd=>by
 have hz:=Nn h s hs d hd;have hg:=(Qd h s hs).dd d hd;have ho:=(QQ h hp s hs)
 refine⟨hg.obj,XR hp s hs d hd,?_,?_,?_⟩
 ·rcases ho.op d hd with e|e
  ·exact .inl ⟨e,hz.val (by rw[e];rfl)⟩
  ·exact .inr ⟨e,hg.val⟩
 ·rcases ho.op d hd with e|e <;> exact hz.key (by rw[e];rfl)
 ·rcases ho.ret d hd with e|⟨e,e'⟩|e
  ·exact .inl e
  ·exact .inr (.inl ⟨e,e',hz.got (by omega)⟩)
  ·exact .inr (.inr e)
end
theorem hist0 {os:List Ob} {es:List Ev} {A:Au} (h:qN os es=some A):xJ os []=true:=by
 unfold qN at h
 split at h
 ·rename_i hh
  unfold xJ at hh ⊢;simp only[Bool.and_eq_true,decide_eq_true_eq,List.all_eq_true] at hh ⊢;exact⟨⟨⟨hh.1.1.1,by simp⟩,hh.1.2⟩,fun e he=>by cases he⟩
 ·cases h
section
variable {g:Dd->Int} {o v:Int} {s:St} {inits:List Int} {A:Au} {T:List Bool} {i:Nat} {os:List Ob}
theorem Wq (X:List Dd) (r:Option Int):(∃d ∈ X,d.obj=o)->∃v,yO g o X r=some v:=by
 induction X using zy with
 |h0=>rintro⟨d,hd,-⟩;cases hd
 |h1 X d ih=>
  rintro⟨e,he,ho⟩;rw[XX];by_cases h:d.obj=o
  ·exact ⟨g d,by simp[yO,h]⟩
  ·rcases List.mem_append.1 he with he|he
   ·obtain ⟨v,hv⟩:=ih ⟨e,he,ho⟩
    exact⟨v,by rw[hv];simp[yO,h]⟩
   ·rw [List.mem_singleton.1 he] at ho
    exact absurd ho h
theorem lastO_in (X:List Dd):yO g o X none=some v->∃d ∈ X,d.obj=o/\g d=v:=by
 induction X using zy with
 |h0=>intro h;cases h
 |h1 X d ih=>
  intro h;rw[XX] at h;by_cases e:d.obj=o
  ·refine ⟨d,by simp,e,?_⟩
   simp[yO,e] at h;exact h
  ·have:yO g o [d] (yO g o X none)=yO g o X none:=by simp[yO,e]
   rw[this] at h;obtain⟨x,hx,h⟩:=ih h;exact⟨x,by simp[hx],h⟩
theorem Wl:∀{l:List Dd} {met:List Int} {x:Dd},x ∈ l->x.op=2->x.obj ∈ uw met l
 |d::l,met,x,hx,ho=>by
  unfold uw;rw[List.foldl_cons];rcases List.mem_cons.1 hx with rfl|hx
  ·refine Zq (l:=l) ?_
   simp[ho]
  ·exact Wl (l:=l) hx ho
theorem Xk:∀{l:List Dd} {met:List Int} {r:Dd},r ∈ xt met l->∃l1 l2,l=l1++r::l2/\xu r=true/\r.obj ∉ uw met l1
 |[],_,_,h=>by cases h
 |d::l,met,r,h=>by
  rw[xt] at h;rcases List.mem_append.1 h with h|h
  ·split at h
   ·rename_i e
    rw[List.mem_singleton.1 h];simp only[Bool.and_eq_true,Bool.not_eq_true'] at e;exact⟨[],l,rfl,e.1,by simpa[uw] using e.2⟩
   ·cases h
  ·obtain ⟨l1,l2,h1,h2,h3⟩:=Xk h
   exact⟨d::l1,l2,by rw[h1];rfl,h2,h3⟩
theorem lwA_no (l:List Dd):(∀x ∈ l,¬(x.op=2/\x.obj=o))->lwA l o=none:=by
 induction l using zy with
 |h0=>intro;rfl
 |h1 l d ih=>
  intro h;rw[Zs,if_neg (h d (by simp)),ih fun x hx=>h x (by simp[hx])]
theorem Ri (h:fnd o (yG s)=some v):∃l1 d l2,s.deeds=l1++d::l2/\xu d=true/\d.obj=o/\d.got=v/\∀x ∈ l1,¬(x.op=2/\x.obj=o):=by
 rw[Xl] at h;obtain⟨d,hd,h1,h2⟩:=lastO_in _ h;obtain⟨l1,l2,h3,h4,h5⟩:=Xk hd;exact⟨l1,d,l2,h3,h4,h1,h2,fun x hx hc=>h5 (by rw[h1,←hc.2];exact Wl hx hc.1)⟩
theorem rd_some {l1 l2:List Dd} {d:Dd} (hs:s.deeds=l1++d::l2) (hd:xu d=true) (hw:∀x ∈ l1,¬(x.op=2/\x.obj=d.obj)):∃v,fnd d.obj (yG s)=some v:=by
 rw[Xl];refine Wq _ _ ?_;have hm:d.obj ∈ uw [] (l1++[d]):=by
  unfold uw;rw[List.foldl_append];simp[hd]
 have ho:d.op=1:=by simp[xu] at hd;exact hd.1
 obtain⟨r,hr,e⟩:=Uc hm (by simp) fun x hx=>by
  rcases List.mem_append.1 hx with hx|hx
  ·exact hw x hx
  ·rw [List.mem_singleton.1 hx];omega
 refine⟨r,?_,e⟩;rw[hs,show l1++d::l2=(l1++[d])++l2 by simp,QM];exact List.mem_append_left _ hr
theorem ZM:∀{l1 l l2:List Dd} {d:Dd} {m:Nat} {own rd:Mi},xF inits A T i rd m own l=none->l=l1++d::l2->d.op≠2->d.ret≠0->
  (fnd d.obj (Qq own l1)=some d.got)\/(fnd d.obj (Qq own l1)=none/\d.got=(fnd d.obj rd).getD 0/\(d.got=inits.getD d.obj.toNat 0\/ZE A T i d.obj d.got=true))
 |[],l,l2,d,m,own,rd,h,hl,h1,h2=>by
  subst hl;simp only[List.nil_append] at h;rw[xF,if_neg h1,if_neg h2] at h;have eo:Qq own []=own:=rfl;rw[eo];cases hv:fnd d.obj own with
  |some v=>
   rw[hv] at h;simp only at h;by_cases hc:d.got=v
   ·exact .inl (by rw[hc])
   ·rw [if_neg hc] at h;cases h
  |none=>
   rw[hv] at h;have h:(if d.got=(fnd d.obj rd).getD 0/\(d.got=inits.getD d.obj.toNat 0\/ZE A T i d.obj d.got=true) then xF inits A T i rd (m+1) own l2 else some m)=none:=h;by_cases hc:d.got=(fnd d.obj rd).getD 0/\(d.got=inits.getD d.obj.toNat 0\/ZE A T i d.obj d.got=true)
   ·exact .inr ⟨rfl,hc⟩
   ·rw [if_neg hc] at h;cases h
 |x::l1,l,l2,d,m,own,rd,h,hl,h1,h2=>by
  subst hl;simp only[List.cons_append] at h;have more:∀{own':Mi},Qq own [x]=own'->xF inits A T i rd (m+1) own' (l1++d::l2)=none->(fnd d.obj (Qq own (x::l1))=some d.got)\/(fnd d.obj (Qq own (x::l1))=none/\d.got=(fnd d.obj rd).getD 0/\(d.got=inits.getD d.obj.toNat 0\/ZE A T i d.obj d.got=true)):=by
   intro own' ho h;have:=ZM h rfl h1 h2;rw[←ho] at this;exact this
  rw[xF] at h
  split at h
  ·rename_i e
   exact more (by simp[Qq,e]) h
  ·rename_i e
   split at h
   ·exact more (by simp[Qq,e]) h
   ·split at h
    ·split at h
     ·exact more (by simp[Qq,e]) h
     ·cases h
    ·have h:(if x.got=(fnd x.obj rd).getD 0/\(x.got=inits.getD x.obj.toNat 0\/ZE A T i x.obj x.got=true) then xF inits A T i rd (m+1) own (l1++d::l2) else some m)=none:=h
     by_cases hc:x.got=(fnd x.obj rd).getD 0/\(x.got=inits.getD x.obj.toNat 0\/ZE A T i x.obj x.got=true)
     ·rw [if_pos hc] at h
      exact more (by simp[Qq,e]) h
     ·rw [if_neg hc] at h
      cases h
theorem rd_from (hex:xF inits A T i (yG s) 0 [] s.deeds=none) (h:fnd o (yG s)=some v):v=inits.getD o.toNat 0\/∃j,WV A o v=some j/\j≠i/\T.getD j false=true:=by
 obtain⟨l1,d,l2,h1,h2,h3,h4,h5⟩:=Ri h;subst h3 h4;simp[xu] at h2;have hown:fnd d.obj (Qq [] l1)=lwA l1 d.obj:=Xo List.Pairwise.nil;have:=ZM hex h1 (by omega) (by omega);rw[hown,lwA_no l1 h5] at this;rcases this with h|⟨-,-,h|h⟩
 ·cases h
 ·exact .inl h
 ·right
  unfold ZE at h
  split at h
  ·rename_i j hj
   simp only[Bool.and_eq_true,decide_eq_true_eq] at h;exact⟨j,hj,h.1,h.2⟩
  ·cases h
theorem play1 {σ:List Int} (hdd:∀d ∈ s.deeds,DdP os d) (hl:σ.length=os.length) (hok:YS s) (hex:xF inits A T i (yG s) 0 [] s.deeds=none) (hv:∀o v,fnd o (yG s)=some v->σ[o.toNat]?=some v):
  ∃τ,Yo σ s.deeds=some τ/\τ.length=os.length/\∀c:Nat,τ[c]?=σ[c]?.map fun x=>(fnd (c:Int) (zb s)).getD x:=by
 have key:∀l1 l2:List Dd,s.deeds=l1++l2->∃τ,Yo σ l1=some τ/\τ.length=os.length/\∀c:Nat,τ[c]?=σ[c]?.map fun x=>(lwR l1 (c:Int)).getD x:=by
  intro l1
  induction l1 using zy with
  |h0=>exact fun l2 _=>⟨σ,rfl,hl,fun c=>by simp[lwR]⟩
  |h1 l1 d ih=>
   intro l2 hs;have hs:s.deeds=l1++d::l2:=by rw[hs];simp
   obtain⟨τ,t1,t2,t3⟩:=ih _ hs;have hdm:d ∈ s.deeds:=by rw[hs];simp
   have hd:=hdd d hdm;rw[VU t1];obtain⟨c,hc⟩:=Int.eq_ofNat_of_zero_le hd.obj;have hcl:c < os.length:=by
    obtain⟨ob,h1,-⟩:=hd.reg;have:=(List.getElem?_eq_some_iff.1 h1).1;rw[hc,Int.toNat_natCast] at this;exact this
   unfold KR;rcases hd.ret with h0|⟨hop,hr,hg⟩|⟨hop,hr⟩
   ·rw [if_pos h0]
    exact⟨τ,rfl,t2,fun x=>by rw[uN,if_neg (by omega)];exact t3 x⟩
   ·rw [if_neg (by omega),if_pos hop,if_pos ⟨hr,hg⟩]
    refine⟨_,rfl,by simpa using t2,fun x=>?_⟩;rw[uN,hc,Int.toNat_natCast];by_cases e:c=x
    ·subst e
     rw[List.getElem?_set_self (by omega),if_pos ⟨hop,hr,rfl⟩,List.getElem?_eq_getElem (by omega)];rfl
    ·rw [List.getElem?_set_ne e,if_neg (by omega)]
     exact t3 x
   ·have hown:fnd d.obj (Qq [] l1)=lwA l1 d.obj:=Xo List.Pairwise.nil
    have hfull:lwA l1 d.obj=lwR l1 d.obj:=lw_full (fun x hx e=>by
     obtain⟨j,hj⟩:=List.mem_iff_getElem?.1 hx;have hjl:=(List.getElem?_eq_some_iff.1 hj).1;have h1:s.deeds[j]?=some x:=by rw[hs,List.getElem?_append_left hjl];exact hj
     have h2:s.deeds[l1.length]?=some d:=by rw[hs];simp
     have:=hok.full j l1.length x d hjl h1 h2;rcases(hdd x (List.mem_of_getElem? h1)).ret with h|h|h
     ·exact absurd h this
     ·exact h.2.1
     ·omega) _
    have:=ZM hex hs (by omega) (by omega);rw[hown] at this;have hgot:τ[d.obj.toNat]?=some d.got:=by
     have ht:=t3 c;rw[hc,Int.toNat_natCast,ht,←hc,←hfull];rcases this with h|⟨h,h1,-⟩
     ·rw [h,List.getElem?_eq_getElem (by omega)]
      rfl
     ·obtain ⟨v,hfv⟩:=rd_some hs (by simp[xu,hop,hr]) (lwA_none h)
      rw[hfv] at h1;have:=hv _ _ hfv;rw[hc,Int.toNat_natCast] at this;rw[h,this];simpa using h1.symm
    rw[if_neg (by omega),if_neg (by omega),if_pos ⟨hr,hgot⟩];exact⟨τ,rfl,t2,fun x=>by rw[uN,if_neg (by omega)];exact t3 x⟩
 obtain⟨τ,h1,h2,h3⟩:=key s.deeds [] (by simp);exact⟨τ,h1,h2,fun c=>by rw[h3,Vj]⟩
theorem QP:∀{l:List Dd} {rd met:List Int} {wr wr':List (Int×Int)} {d:Dd},xH os rd wr l=some wr'->d ∈ l->d.op≠1->(∀e ∈ l,e.op=1\/e.op=2)->(d.obj ∈ met->d.obj ∈ rd)->d.obj ∈ rd\/∃r ∈ xt met l,r.obj=d.obj
 |e::l,rd,met,wr,wr',d,h,hd,hop,ho,hm=>by
  rw[xH] at h
  split at h
  ·cases h
  ·split at h
   ·split at h
    ·rename_i e1
     have hdl:d ∈ l:=by
      rcases List.mem_cons.1 hd with rfl|hd
      ·exact absurd e1 hop
      ·exact hd
     by_cases hr:e.ret=3/\e.obj=d.obj
     ·by_cases hdm:d.obj ∈ met
      ·exact .inl (hm hdm)
      ·refine .inr ⟨e,?_,hr.2⟩
       rw[xt];refine List.mem_append_left _ ?_;rw[if_pos (by simp[xu,e1,hr.1,hr.2,hdm])];simp
     ·have:=QP (met:=if xu e||decide (e.op=2) then e.obj::met else met) h hdl hop (fun x hx=>ho x (List.mem_cons_of_mem _ hx)) (fun hq=>by
       have h1:d.obj ∈ met:=by
        split at hq
        ·rename_i h2
         simp[xu,e1] at h2;rcases List.mem_cons.1 hq with h3|h3
         ·exact absurd ⟨h2,h3.symm⟩ hr
         ·exact h3
        ·exact hq
       split
       ·exact List.mem_cons_of_mem _ (hm h1)
       ·exact hm h1)
      rcases this with h1|⟨r,h1,h2⟩
      ·split at h1
       ·rename_i h2
        rcases List.mem_cons.1 h1 with h3|h3
        ·exact absurd ⟨h2,h3.symm⟩ hr
        ·exact .inl h3
       ·exact .inl h1
      ·exact .inr ⟨r,by rw[xt];exact List.mem_append_right _ h1,h2⟩
    ·rename_i e1
     split at h
     ·rename_i hc
      by_cases hq:e.obj=d.obj
      ·exact .inl (hq▸hc.1)
      ·have hdl:d ∈ l:=by
        rcases List.mem_cons.1 hd with rfl|hd
        ·exact absurd rfl hq
        ·exact hd
       have:=QP (met:=if xu e||decide (e.op=2) then e.obj::met else met) h hdl hop (fun x hx=>ho x (List.mem_cons_of_mem _ hx)) (fun hz=>by
        split at hz
        ·rcases List.mem_cons.1 hz with h3|h3
         ·exact absurd h3.symm hq
         ·exact hm h3
        ·exact hm hz)
       rcases this with h1|⟨r,h1,h2⟩
       ·exact .inl h1
       ·exact .inr ⟨r,by rw[xt];exact List.mem_append_right _ h1,h2⟩
     ·cases h
   ·cases h
theorem Rk:∀{A:Au} {wr:List (Int×Int)},qU os wr A=true->∀s ∈ A,∃w w',xH os [] w s.deeds=some w'
 |s::A,wr,h,t,ht=>by
  unfold qU at h;cases hp:xH os [] wr s.deeds with
  |none=>rw[hp] at h;cases h
  |some wr'=>
   rw[hp] at h;rcases List.mem_cons.1 ht with rfl|ht
   ·exact ⟨wr,wr',hp⟩
   ·exact Rk h t ht
theorem wr_rd (hp:qU os [] A=true) (hs:s ∈ A) (hok:YS s) {w:Int} (h:fnd o (zb s)=some w):∃v,fnd o (yG s)=some v:=by
 rw[Vj] at h;obtain⟨d,hd,h1,-,h3,-⟩:=Rt h;obtain⟨w1,w2,hw⟩:=Rk hp s hs;rcases QP (met:=[]) hw hd (by omega) hok.op (by simp) with h|⟨r,hr,e⟩
 ·cases h
 ·rw [Xl]
  exact Wq _ _ ⟨r,hr,e.trans h3⟩
end
structure KY (lev:Int) (os:List Ob) (A:Au) (T:List Bool) (ord:List Int):Prop where
 ids:(A.map (·.id)).Nodup
 dd:∀s ∈ A,∀d ∈ s.deeds,DdP os d
 ok:∀s ∈ A,YS s
 ex:∀(i:Nat) (s:St),A[i]?=some s->qZ lev T i=true->xF (os.map (·.init)) A T i (yG s) 0 [] s.deeds=none
 wr:∀s ∈ A,∀o w,fnd o (zb s)=some w->∃v,fnd o (yG s)=some v
 top:jN (xG (qR lev A T).2) (qR lev A T).1 ord
section
variable {lev:Int} {os:List Ob} {A:Au} {T:List Bool} {ord P R:List Int} {x:Int} {i:Nat} {s:St} {σ τ:List Int} {o v:Int}
theorem vk (h:(A.map (·.id)).Nodup) {j:Nat} {t:St} (hi:A[i]?=some s) (hj:A[j]?=some t) (e:s.id=t.id):i=j:=by
 have hl:=(List.getElem?_eq_some_iff.1 hi).1;refine(List.getElem?_inj (by simpa using hl) h).1 ?_;rw[List.getElem?_map,List.getElem?_map,hi,hj];simp[e]
theorem RO {j k:Nat} {a b:St} (ha:A[i]?=some a) (hb:A[j]?=some b) (li:qZ lev T i=true) (lj:qZ lev T j=true) (hne:i≠j) (hk:k < 4) (hr:JS lev T i j a b k=true):(a.id,b.id) ∈ xG (qR lev A T).2:=
 Qh.2 ⟨_,NQ.2 ⟨i,j,k,a,b,ha,hb,li,lj,hne,hk,hr,rfl⟩⟩
theorem ua {j:Nat} (h:T.getD j false=true):qZ lev T j=true:=by unfold qZ;rw[h];rfl
theorem NW {j:Nat} {a b:St} (ha:A[i]?=some a) (hb:A[j]?=some b) (ti:T.getD i false=true) (lj:qZ lev T j=true) (hne:i≠j) (hw:fnd o (zb a)=some v) (hr:fnd o (yG b)=some v):(a.id,b.id) ∈ xG (qR lev A T).2:=by
 refine RO (k:=1) ha hb (ua ti) lj hne (by omega) ?_;show(T.getD i false&&Qu (zb a) (yG b) fun _=>true)=true;rw[ti,Bool.true_and];exact List.any_eq_true.2 ⟨(o,v),(fnd_some (Qe a)).1 hw,by simp[hr]⟩
theorem Ux {j:Nat} {a b:St} (ha:A[i]?=some a) (hb:A[j]?=some b) (li:qZ lev T i=true) (tj:T.getD j false=true) (hne:i≠j) (h1:fnd o (yG a)=some v) (h2:fnd o (yG b)=some v) (hw:(fnd o (zb b)).isSome=true):(a.id,b.id) ∈ xG (qR lev A T).2:=by
 refine RO (k:=3) ha hb li (ua tj) hne (by omega) ?_;show(T.getD j false&&Qu (yG a) (yG b) fun o=>(fnd o (zb b)).isSome)=true;rw[tj,Bool.true_and];exact List.any_eq_true.2 ⟨(o,v),(fnd_some (YL a)).1 h1,by simp[h2,hw]⟩
theorem Rv (h:jN (xG (qR lev A T).2) (qR lev A T).1 ord) (ho:ord=P++x::R) {a:Int} (he:(a,x) ∈ xG (qR lev A T).2):a ∈ P:=by
 obtain⟨j,hj,h1⟩:=h.lead (i:=P.length) (x:=x) (by rw[ho];simp) he;rw[ho,List.getElem?_append_left hj] at h1;exact List.mem_of_getElem? h1
theorem Kq (h:jN (xG (qR lev A T).2) (qR lev A T).1 ord) (ho:ord=P++x::R):x ∉ P/\x ∉ R:=by
 have:=h.nodup;rw[ho,List.nodup_append] at this;exact⟨fun hp=>this.2.2 x hp x (by simp) rfl,(List.nodup_cons.1 this.2.1).1⟩
def Jm (os:List Ob) (A:Au) (T:List Bool) (P:List Int) (o v:Int):Prop:=v=(os.map (·.init)).getD o.toNat 0\/∃j b,A[j]?=some b/\T.getD j false=true/\b.id ∈ P/\fnd o (zb b)=some v
def ConsdV (A:Au) (T:List Bool) (P:List Int) (o v:Int):Prop:=∃j b,A[j]?=some b/\T.getD j false=true/\b.id ∈ P/\(fnd o (zb b)).isSome=true/\fnd o (yG b)=some v
def Yw (os:List Ob) (A:Au) (T:List Bool) (P:List Int) (σ:List Int):Prop:=∀(c:Nat) (ob:Ob),os[c]?=some ob->ob.kind=1->∃x,σ[c]?=some x/\∀v,Jm os A T P c v->v=x\/ConsdV A T P c v
theorem KY.cur (h:KY lev os A T ord) (ho:ord=P++x::R) (hI:Yw os A T P σ) (hi:A[i]?=some s) (li:qZ lev T i=true) (hx:s.id=x) (hv:fnd o (yG s)=some v):∃(c:Nat) (ob:Ob),o=(c:Int)/\os[c]?=some ob/\ob.kind=1/\σ[c]?=some v:=by
 have hsm:=List.mem_of_getElem? hi;obtain⟨l1,d,l2,h1,h2,h3,h4,-⟩:=Ri hv;have hd:=h.dd s hsm d (by rw[h1];simp);obtain⟨ob,h5,h6⟩:=hd.reg;obtain⟨c,hc⟩:=Int.eq_ofNat_of_zero_le hd.obj;rw[hc,Int.toNat_natCast] at h5;have hoc:o=(c:Int):=by rw[←h3,hc]
 refine⟨c,ob,hoc,h5,h6,?_⟩;obtain⟨y,hy,hA⟩:=hI c ob h5 h6;rw[hy];congr 1;subst hoc;have hav:Jm os A T P c v:=by
  rcases rd_from (h.ex i s hi li) hv with h7|⟨j,h7,h8,h9⟩
  ·exact .inl h7
  ·obtain ⟨b,hb,-,hw⟩:=byF_wrs h7
   refine .inr ⟨j,b,hb,h9,?_,hw⟩;have:=NW hb hi h9 li h8 hw hv;rw[hx] at this;exact Rv h.top ho this
 rcases hA v hav with h7|⟨j,b,hb,tj,hbP,hw,hr⟩
 ·exact h7.symm
 ·exfalso
  have hne:i≠j:=by
   rintro rfl;rw[hi] at hb;obtain rfl:=Option.some.inj hb;exact(Kq h.top ho).1 (hx▸hbP)
  have he:=Ux hi hb li tj hne hv hr hw;obtain⟨k,hk⟩:=List.mem_iff_getElem?.1 hbP;have hkl:=(List.getElem?_eq_some_iff.1 hk).1;obtain⟨m,hm,h1⟩:=h.top.lead (i:=k) (by rw[ho,List.getElem?_append_left hkl];exact hk) he;rw[ho,List.getElem?_append_left (by omega)] at h1;exact(Kq h.top ho).1 (hx▸List.mem_of_getElem? h1)
theorem Yw.skip (hI:Yw os A T P σ) (hn:(A.map (·.id)).Nodup) (hi:A[i]?=some s) (hx:s.id=x) (ht:T.getD i false=false):Yw os A T (P++[x]) σ:=fun c ob h1 h2=>by
 obtain⟨y,hy,hA⟩:=hI c ob h1 h2;refine⟨y,hy,fun v hv=>?_⟩;have hin:∀(j:Nat) (b:St),A[j]?=some b->T.getD j false=true->b.id ∈ P++[x]->b.id ∈ P:=fun j b hb tj hm=>by
  rcases List.mem_append.1 hm with hm|hm
  ·exact hm
  ·exfalso
   have:=vk hn hb hi ((List.mem_singleton.1 hm).trans hx.symm);subst this;rw[ht] at tj;cases tj
 have:Jm os A T P c v:=by
  rcases hv with hv|⟨j,b,hb,tj,hm,hw⟩
  ·exact .inl hv
  ·exact .inr ⟨j,b,hb,tj,hin j b hb tj hm,hw⟩
 rcases hA v this with h|⟨j,b,hb,tj,hm,hw,hr⟩
 ·exact .inl h
 ·exact .inr ⟨j,b,hb,tj,List.mem_append_left _ hm,hw,hr⟩
theorem KY.took (h:KY lev os A T ord) (ho:ord=P++x::R) (hI:Yw os A T P σ) (hi:A[i]?=some s) (ti:T.getD i false=true) (hx:s.id=x) (hτ:∀c:Nat,τ[c]?=σ[c]?.map fun y=>(fnd (c:Int) (zb s)).getD y):Yw os A T (P++[x]) τ:=fun c ob h1 h2=>by
 obtain⟨y,hy,hA⟩:=hI c ob h1 h2;refine⟨(fnd (c:Int) (zb s)).getD y,by rw[hτ,hy];rfl,fun v hv=>?_⟩;have hxm:s.id ∈ P++[x]:=by rw[hx];simp
 have hold:Jm os A T P c v->v=y\/ConsdV A T (P++[x]) c v:=fun h=>by
  rcases hA v h with h|⟨j,b,hb,tj,hm,hw,hr⟩
  ·exact .inl h
  ·exact .inr ⟨j,b,hb,tj,List.mem_append_left _ hm,hw,hr⟩
 have hcase:Jm os A T P c v\/fnd (c:Int) (zb s)=some v:=by
  rcases hv with hv|⟨j,b,hb,tj,hm,hw⟩
  ·exact .inl (.inl hv)
  ·rcases List.mem_append.1 hm with hm|hm
   ·exact .inl (.inr ⟨j,b,hb,tj,hm,hw⟩)
   ·have:=vk h.ids hb hi ((List.mem_singleton.1 hm).trans hx.symm)
    subst this;rw[hi] at hb;obtain rfl:=Option.some.inj hb;exact .inr hw
 cases hw:fnd (c:Int) (zb s) with
 |none=>
  rw[hw] at hcase;rcases hcase with hc|hc
  ·exact hold hc
  ·cases hc
 |some w=>
  rcases hcase with hc|hc
  ·rcases hold hc with e|e
   ·right
    obtain⟨u,hu⟩:=h.wr s (List.mem_of_getElem? hi) _ _ hw;obtain⟨c',ob',e1,-,-,e2⟩:=h.cur ho hI hi (ua ti) hx hu;have:c=c':=by omega
    subst this;rw[hy] at e2;obtain rfl:=Option.some.inj e2;exact⟨i,s,hi,ti,hxm,by rw[hw];rfl,e▸hu⟩
   ·exact .inr e
  ·rw [hw] at hc
   exact .inl (Option.some.inj hc).symm
theorem com_at (hn:(A.map (·.id)).Nodup) (hi:A[i]?=some s):ZY A T s.id=T.getD i false:=by
 unfold ZY;rw[Bool.eq_iff_iff,List.any_eq_true];constructor
 ·rintro ⟨j,-,hj⟩
  cases hb:A[j]? with
  |none=>rw[hb] at hj;cases hj
  |some b=>
   rw[hb] at hj;simp only[Bool.and_eq_true,decide_eq_true_eq] at hj;rw[vk hn hi hb hj.1.symm];exact hj.2
 ·intro ht
  refine⟨i,List.mem_range.2 (List.getElem?_eq_some_iff.1 hi).1,?_⟩;rw[hi,ht];simp
def yI (A:Au) (T:List Bool) (P:List Int) (o:Int):List Nat:=(uc A T o).filter fun i=>match A[i]? with
 |some s=>decide (s.id ∉ P)
 |none=>false
theorem XT {j:Nat}:j ∈ yI A T P o↔∃b,A[j]?=some b/\T.getD j false=true/\(fnd o (zb b)).isSome=true/\b.id ∉ P:=by
 unfold yI uc;rw[List.mem_filter,List.mem_filter,List.mem_range];constructor
 ·rintro ⟨⟨h1,h2⟩,h3⟩
  rw[List.getElem?_eq_getElem h1] at h2 h3;simp only[Bool.and_eq_true,decide_eq_true_eq] at h2 h3;exact⟨A[j],List.getElem?_eq_getElem h1,h2.1,h2.2,h3⟩
 ·rintro ⟨b,hb,h1,h2,h3⟩
  rw[hb];exact⟨⟨(List.getElem?_eq_some_iff.1 hb).1,by rw[h1];simpa using h2⟩,by simpa using h3⟩
theorem Wp:(yI A T P o).Nodup:=by
 unfold yI uc;exact(List.nodup_range.filter _).filter _
theorem KM {l:List Nat} {p:Nat->Bool} {a:Nat} (hn:l.Nodup) (ha:a ∈ l) (hp:p a=true) (hu:∀j ∈ l,p j=true->j=a):l.filter p=[a]:=by
 obtain⟨l1,l2,rfl⟩:=List.append_of_mem ha;rw[List.nodup_append] at hn;have h1:l1.filter p=[]:=List.filter_eq_nil_iff.2 fun j hj hq=>by
  have:=hu j (List.mem_append_left _ hj) hq;exact hn.2.2 j hj a (by simp) this
 have h2:l2.filter p=[]:=List.filter_eq_nil_iff.2 fun j hj hq=>by
  have:=hu j (List.mem_append_right _ (List.mem_cons_of_mem _ hj)) hq;exact(List.nodup_cons.1 hn.2.1).1 (this▸hj)
 rw[List.filter_append,h1,List.filter_cons_of_pos hp,h2];rfl
theorem Kr {l:List Nat} (h:∀j,j ∉ l):l=[]:=List.eq_nil_iff_forall_not_mem.2 h
theorem KY.plays (h:KY lev os A T ord):∀(R P σ:List Int),ord=P++R->σ.length=os.length->Yw os A T P σ->∃τ,zT (yZ A) (decide (lev=3)) σ (R.map fun x=>(x,ZY A T x))=some τ/\τ.length=os.length/\
  ∀(c:Nat) (ob:Ob),os[c]?=some ob->ob.kind=1->∀(f:Nat) (out:List Int),(yI A T P c).length < f->out≠[]->σ[c]?=some (out.getLastD 0)->∃V,zH A c f (yI A T P c) out=(V,true)/\V≠[]/\τ[c]?=some (V.getLastD 0)
 |[],P,σ,ho,hl,hI=>by
  refine⟨σ,rfl,hl,fun c ob h1 h2 f out hf hne hc=>?_⟩;have:yI A T P c=[]:=Kr fun j hj=>by
   obtain⟨b,hb,tj,-,hm⟩:=XT.1 hj;refine hm ?_;have:=h.top.all b.id (vm.2 ⟨j,b,hb,ua tj,rfl⟩);rw[ho] at this;simpa using this
  rw[this];obtain⟨f,rfl⟩:∃f',f=f'+1:=⟨f - 1,by omega⟩
  exact⟨out,rfl,hne,hc⟩
 |x::R,P,σ,ho,hl,hI=>by
  have hxo:x ∈ ord:=by rw[ho];simp
  obtain⟨i,s,hi,li,hx⟩:=vm.1 (h.top.sub x hxo);have hx:=hx.symm;have hsm:=List.mem_of_getElem? hi;have ho':ord=(P++[x])++R:=by rw[ho];simp
  have hcur:=fun o v (hv:fnd o (yG s)=some v)=>h.cur ho hI hi li hx hv;obtain⟨ρ,r1,r2,r3⟩:=play1 (os:=os) (σ:=σ) (h.dd s hsm) hl (h.ok s hsm) (h.ex i s hi li) (fun o v hv=>by
   obtain⟨c,ob,rfl,-,-,e⟩:=hcur o v hv;simpa using e)
  have hdl:yZ A x=s.deeds:=by rw[←hx];exact KT h.ids hsm
  have hcom:ZY A T x=T.getD i false:=by rw[←hx];exact com_at h.ids hi
  rw[List.map_cons];cases ht:T.getD i false with
  |false=>
   have hlev:lev=3:=by
    unfold qZ at li;rw[ht] at li;simpa using li
   have hst:yH (yZ A) (decide (lev=3)) σ (x,ZY A T x)=some σ:=by
    unfold yH;rw[hcom,ht,if_neg (by simp[hlev]),hdl,r1];rfl
   obtain⟨τ,t1,t2,t3⟩:=h.plays R (P++[x]) σ ho' hl (hI.skip h.ids hi hx ht);refine⟨τ,by simp only[zT,hst];exact t1,t2,fun c ob h1 h2 f out hf hne hc=>?_⟩;have e:yI A T (P++[x]) c=yI A T P c:=by
    unfold yI;refine List.filter_congr fun j hj=>?_;cases hb:A[j]? with
    |none=>rfl
    |some b=>
     have hbx:b.id≠x:=fun e=>by
      have:=vk h.ids hi hb (hx.trans e.symm);subst this;have:=(List.mem_filter.1 hj).2;rw[ht] at this;cases this
     simp[hbx]
   rw[←e] at hf ⊢;exact t3 c ob h1 h2 f out hf hne hc
  |true=>
   have hst:yH (yZ A) (decide (lev=3)) σ (x,ZY A T x)=some ρ:=by
    unfold yH;rw[hcom,ht,if_neg (by simp),hdl,r1];rfl
   obtain⟨τ,t1,t2,t3⟩:=h.plays R (P++[x]) ρ ho' r2 (h.took ho hI hi ht hx r3);refine⟨τ,by simp only[zT,hst];exact t1,t2,fun c ob h1 h2 f out hf hne hc=>?_⟩;cases hw:fnd (c:Int) (zb s) with
   |none=>
    have e:yI A T (P++[x]) c=yI A T P c:=by
     unfold yI;refine List.filter_congr fun j hj=>?_;cases hb:A[j]? with
     |none=>rfl
     |some b=>
      have hbx:b.id≠x:=fun e=>by
       have:=vk h.ids hi hb (hx.trans e.symm);subst this;have:=(List.mem_filter.1 hj).2;rw[hi] at this;simp[hw] at this
      simp[hbx]
    rw[←e] at hf ⊢;refine t3 c ob h1 h2 f out hf hne ?_;rw[r3,hc,hw];rfl
   |some w=>
    obtain⟨u,hu⟩:=h.wr s hsm _ _ hw;obtain⟨c',ob',e1,-,-,e2⟩:=hcur _ _ hu;have:c=c':=by omega
    subst this;have huo:u=out.getLastD 0:=by rw[hc] at e2;exact(Option.some.inj e2).symm
    have him:i ∈ yI A T P c:=XT.2 ⟨s,hi,ht,by rw[hw];rfl,by rw[hx];exact(Kq h.top ho).1⟩;have hnx:Zp A c (out.getLastD 0) (yI A T P c)=[i]:=by
     refine KM Wp him (by rw[hi];simp[hu,huo]) fun j hj hp=>?_;obtain⟨b,hb,tj,hwb,hm⟩:=XT.1 hj;rw[hb] at hp;simp only[beq_iff_eq] at hp;apply Classical.byContradiction;intro hne;have:=Ux (lev:=lev) hb hi (ua tj) ht hne hp (huo▸hu) (by rw[hw];rfl);rw[hx] at this;exact hm (Rv h.top ho this)
    have hlf:(yI A T P c).filter (· !=i)=yI A T (P++[x]) c:=by
     have:yI A T (P++[x]) c=(yI A T P c).filter (· !=i):=by
      unfold yI;rw[List.filter_filter];refine List.filter_congr fun j hj=>?_;cases hb:A[j]? with
      |none=>simp
      |some b=>
       have:b.id=x↔j=i:=⟨fun e=>vk h.ids hb hi (e.trans hx.symm),fun e=>by subst e;rw[hi] at hb;exact(Option.some.inj hb)▸hx⟩
       simp only[List.mem_append,List.mem_singleton,not_or];by_cases e:j=i
       ·simp [e,this.2 e]
       ·have:¬b.id=x:=fun q=>e (this.1 q)
        simp[e,this]
     exact this.symm
    have hlt:((yI A T P c).filter (· !=i)).length < (yI A T P c).length:=by
     refine List.length_filter_lt_length_iff_exists.2 ⟨i,him,by simp⟩
    obtain⟨f,rfl⟩:∃f',f=f'+1:=⟨f - 1,by omega⟩
    have hwv:wrV A c i=w:=by unfold wrV;rw[hi];simp[hw]
    have hgo:zH A c (f+1) (yI A T P c) out=zH A c f (yI A T (P++[x]) c) (out++[w]):=by
     rw[←hlf];cases hL:yI A T P c with
     |nil=>rw[hL] at him;cases him
     |cons a l=>
      rw[hL] at hnx
      conv=>lhs;unfold zH
      rw[hnx];simp only;rw[hwv]
    rw[hgo];refine t3 c ob h1 h2 f (out++[w]) (by rw[←hlf];omega) (by simp) ?_;rw[r3,hc,hw];simp
end
section
attribute [local irreducible] xL
abbrev scG (x:Int):Value:=.agg #[.int .i64 (Ws x),.int .i64 (Wh x),.slice none 0 0,.slice none 0 0]
theorem zQ {o:Ob} (h:jo o=true):(1<=o.kind/\o.kind<=4)/\YI o.init:=by
 unfold jo at h;simp only[Bool.and_eq_true,decide_eq_true_eq] at h;exact⟨h.1.1.1,h.1.1.2,h.1.2⟩
theorem RX {k:Int} (h:1<=k/\k<=4):dI k:=by
 unfold dI Lit.wf;simp[IntKind.min,IntKind.max,IntKind.bits,IntKind.signed];omega
theorem scG_enc {o:Ob} (h:jo o=true):scG (vF o)=.agg #[.int .i64 o.kind,.int .i64 o.init,.slice none 0 0,.slice none 0 0]:=by
 have:=kd_enc (k:=o.kind) (zQ h).2;unfold vF;rw[scG,this.1,this.2]
attribute [local irreducible] Ws Wh
theorem l_And (v:Value) (σ:List Int) (x:Int) (w:World) (h:SlS w w.heap.size v σ) (hl:σ.length<=1000):
  Calls Tryz.prog 48 #[.agg #[v],scG x] w fun e w'=>∃v',e=.returned (.agg #[v'])/\jO w' w.heap.size v' (σ++[x])/\Below w.heap.size w w':=by
 obtain⟨a,c,rfl,hm⟩:=h.ex;have b0:Below w.heap.size w (((w.alloc (.cells #[.slice a σ.length c] 55)).alloc (.cells #[.int .i64 (Ws x),.int .i64 (Wh x),.slice none 0 0,.slice none 0 0] 119)).alloc (.cells #[.slice none 0 0] 55)):=(((Below.refl _ w).alloc (Nat.le_refl _) _).alloc (by simp) _).alloc (by simp;omega) _;go_enter Tryz.func48,Tryz.ntmps48;go_wp2_with fail;have r2:(((w.alloc (.cells #[.slice a σ.length c] 55)).alloc (.cells #[.int .i64 (Ws x),.int .i64 (Wh x),.slice none 0 0,.slice none 0 0] 119)).alloc (.cells #[.slice none 0 0] 55)).heap[w.heap.size]?=some (.cells #[.slice a σ.length c] 55 (0,0)):=qy (qy (qs w _));have r1:(((w.alloc (.cells #[.slice a σ.length c] 55)).alloc (.cells #[.int .i64 (Ws x),.int .i64 (Wh x),.slice none 0 0,.slice none 0 0] 119)).alloc (.cells #[.slice none 0 0] 55)).heap[w.heap.size+1]?=some (.cells #[.int .i64 (Ws x),.int .i64 (Wh x),.slice none 0 0,.slice none 0 0] 119 (0,0)):=qy (qX (by simp));have r0:(((w.alloc (.cells #[.slice a σ.length c] 55)).alloc (.cells #[.int .i64 (Ws x),.int .i64 (Wh x),.slice none 0 0,.slice none 0 0] 119)).alloc (.cells #[.slice none 0 0] 55)).heap[w.heap.size+1+1]?=some (.cells #[.slice none 0 0] 55 (0,0)):=qX (by simp);have hz:=qd (show(((w.alloc (.cells #[.slice a σ.length c] 55)).alloc (.cells #[.int .i64 (Ws x),.int .i64 (Wh x),.slice none 0 0,.slice none 0 0] 119)).alloc (.cells #[.slice none 0 0] 55)).heap.size=w.heap.size+3 by simp);generalize ((w.alloc (.cells #[.slice a σ.length c] 55)).alloc (.cells #[.int .i64 (Ws x),.int .i64 (Wh x),.slice none 0 0,.slice none 0 0] 119)).alloc (.cells #[.slice none 0 0] 55)=W at *;have hs:=(h.below b0).more b0.size;have AC:=qd (l_All _ σ W.drew hs hl);have HS:=qd hs;have B0:=qd b0;have R0:=qd r0;have u0:=qa r2 0;have y:=qa r1;have y0:=y 0;have y1:=y 1;have y2:=y 2;have y3:=y 3;simp at u0 y0 y1 y2 y3;have ul:=qe r2;have yl:=qe r1;clear y r0 r1 r2 b0 hs h;refine qD (W.heap.size) [1,3,1,3,2,0,2] (.frk [0,2] (.fin [1,3,4,5,6]) (.fin [3,1,4,5,6])) (by kernel_rfl) ?_;simp only[xC,qJ,qu,sD,sE,sF,sG]
 repeat first|(apply qx;(intro w2 hw2;have hk1:=hw2.cell;have hk3:=hw2.1;clear hw2;go_simp;with_reducible rfl);simp only[Act.put,sA,sB,sC])|refine qm ?_
 refine⟨?_,?_⟩
 ·refine qC (fun K hK=>?_)
  go_simp;refine AC.o.mono ?_;rintro e w1 ⟨v',rfl,o1,b1⟩;obtain⟨a1,c1,rfl,-⟩:=(qj.sl o1).ex;refine hK _ _ (RN.KeepsN.of_below b1) ?_;clear hK K;refine qC (fun K hK=>?_);go_simp;refine hK _ _ (RN.KeepsN.alloc w1 _ b1.size) ?_;clear hK K;have hz1:W.heap.size<=w1.heap.size:=b1.size;refine qF (fun K hK=>?_);refine QY _ _ _ rfl _ 64 Tryz.underlying53 Ya rfl o1 x hz1 (by rfl) (by rfl) (by first|rfl|simp) rfl (UL _) (by first|omega|(simp only[List.length_append,List.length_cons,List.length_nil,List.length_replicate];omega)) (by first|omega|(simp only[List.length_append,List.length_cons,List.length_nil,List.length_replicate];omega)) ?_;intro g1 c1 w2 o2 G2;refine hK _ _ ?_;clear hK K;have b2:Below W.heap.size W w2:=((Below.refl _ W).drew.trans b1).trans (G2.below hz1 fun j hj=>(qj.lt o1 j hj).1);have r2:=qh R0.o b2 (qe R0.o);have y:=qa r2 0;simp at y;have yf:=qt r2 0;have yl2:=qe r2;have hB2:=qd ((B0.o.trans (b2.mono B0.o.size)).setCell (p:=⟨w.heap.size+1+1,0,none⟩) (by show w.heap.size<=w.heap.size+1+1;omega) (.slice (some ⟨g1,0,none⟩) (σ.length+1) c1));have oF:=qd (qj.set (j:=0) (u:=.slice (some ⟨g1,0,none⟩) (σ.length+1) c1) o2 (show w.heap.size+1+1 < W.heap.size by have:=hz.o;omega));have rF:=qd (qn r2 0 (.slice (some ⟨g1,0,none⟩) (σ.length+1) c1));clear r2 b2 b1 o1 G2 o2 AC
  repeat (refine qq fun K hK=>?_;go_simp;refine hK _ _ ?_;clear hK K)
  refine qF (fun K hK=>?_);go_simp;refine hK _ _ ?_;clear hK K
  repeat refine qm ?_
  go_wp2_with fail;have c0:=qa rF.o 0;simp at c0;refine bodyPost_ret (v:=.agg #[.slice (some ⟨g1,0,none⟩) (σ.length+1) c1]) (by simp[results,Tryz.results48,go_sem,c0]) rfl ?_;refine⟨_,rfl,?_,hB2.o⟩;have:=qj.base oF.o (show w.heap.size<=W.heap.size from B0.o.size);simpa using this
 ·refine qC (fun K hK=>?_)
  go_simp;refine hK _ _ (RN.KeepsN.alloc W.drew _ (Nat.le_refl _)) ?_;clear hK K;have ba:Below W.heap.size W (W.drew.alloc (.cells #[.int .i64 (Ws x),.int .i64 (Wh x),.slice none 0 0,.slice none 0 0] 119)):=(Below.refl _ W).drew.alloc (Nat.le_refl _) _;have ra:=qs W.drew (.cells #[.int .i64 (Ws x),.int .i64 (Wh x),.slice none 0 0,.slice none 0 0] 119);have AC2:=qd (l_All _ σ (W.drew.alloc (.cells #[.int .i64 (Ws x),.int .i64 (Wh x),.slice none 0 0,.slice none 0 0] 119)) ((HS.o.below ba).more ba.size) hl);have hza:=ba.size;refine qC (fun K hK=>?_);go_simp;refine AC2.o.mono ?_;rintro e w1 ⟨v',rfl,o1,b1⟩;obtain⟨a1,c1,rfl,-⟩:=(qj.sl o1).ex;refine hK _ _ (RN.KeepsN.of_below (b1.mono hza)) ?_;clear hK K;have hz1:W.heap.size<=w1.heap.size:=Nat.le_trans hza b1.size;have src:SlS w1 w1.heap.size (.slice (some ⟨W.heap.size,0,none⟩) 1 1) [x]:=qj.sl (qj.ofRow (B:=0) (l:=[x]) (qh ra b1 (qe ra)) (Nat.zero_le _) rfl rfl (by decide));have o1':=qj.base o1 hza;refine qF (fun K hK=>?_);refine jw _ _ _ rfl _ 64 Tryz.underlying53 Ya rfl o1' [x] rfl src (by first|omega|(simp <;> omega)) rfl rfl Jf UL (by first|omega|(simp <;> omega)) (by first|omega|(simp <;> omega)) ?_;intro v2 w2 o2 G2;refine hK _ _ ?_;clear hK K;obtain⟨a2,c2,hv2,-⟩:=(qj.sl o2).ex;rw[show (σ++[x]).length=σ.length+1 by simp] at hv2;subst hv2;have b2:Below W.heap.size W w2:=(ba.trans (b1.mono hza)).trans (G2.below hz1 fun j hj=>(qj.lt o1' j hj).1);have r2:=qh R0.o b2 (qe R0.o);have y:=qa r2 0;simp at y;have yf:=qt r2 0;have yl2:=qe r2;have hB2:=qd ((B0.o.trans (b2.mono B0.o.size)).setCell (p:=⟨w.heap.size+1+1,0,none⟩) (by show w.heap.size<=w.heap.size+1+1;omega) (.slice a2 (σ.length+1) c2));have oF:=qd (qj.set (j:=0) (u:=.slice a2 (σ.length+1) c2) o2 (show w.heap.size+1+1 < W.heap.size by have:=hz.o;omega));have rF:=qd (qn r2 0 (.slice a2 (σ.length+1) c2));clear r2 b2 b1 o1 o1' G2 o2 AC AC2 ra src
  repeat (refine qq fun K hK=>?_;go_simp;refine hK _ _ ?_;clear hK K)
  refine qF (fun K hK=>?_);go_simp;refine hK _ _ ?_;clear hK K
  repeat refine qm ?_
  go_wp2_with fail;have c0:=qa rF.o 0;simp at c0;refine bodyPost_ret (v:=.agg #[.slice a2 (σ.length+1) c2]) (by simp[results,Tryz.results48,go_sem,c0]) rfl ?_;refine⟨_,rfl,?_,hB2.o⟩;have:=qj.base oF.o (show w.heap.size<=W.heap.size from B0.o.size);simpa using this
theorem sp_New (k x:Int) (hv:jo ⟨k,x⟩=true) (w:World) (hW:xg w) (hG:jh w 3):
  Calls Tryz.prog 47 #[.agg #[.int .i64 k,.int .i64 x]] w fun e w'=>e=.returned (.tuple #[.agg #[.int .i64 k,.int .i64 x,.slice none 0 0,.slice none 0 0],.nilIface])/\Below w.heap.size w w':=by
 have b0:Below w.heap.size w ((w.alloc (.cells #[.int .i64 k,.int .i64 x] 62)).alloc (.cells #[.int .i64 0,.int .i64 0,.slice none 0 0,.slice none 0 0] 119)):=((Below.refl _ w).alloc (Nat.le_refl _) _).alloc (by simp) _;have r0:((w.alloc (.cells #[.int .i64 k,.int .i64 x] 62)).alloc (.cells #[.int .i64 0,.int .i64 0,.slice none 0 0,.slice none 0 0] 119)).heap[w.heap.size]?=some (.cells #[.int .i64 k,.int .i64 x] 62 (0,0)):=qy (qs w _);have r1:((w.alloc (.cells #[.int .i64 k,.int .i64 x] 62)).alloc (.cells #[.int .i64 0,.int .i64 0,.slice none 0 0,.slice none 0 0] 119)).heap[w.heap.size+1]?=some (.cells #[.int .i64 0,.int .i64 0,.slice none 0 0,.slice none 0 0] 119 (0,0)):=qX (by simp);have hz:=qd (show((w.alloc (.cells #[.int .i64 k,.int .i64 x] 62)).alloc (.cells #[.int .i64 0,.int .i64 0,.slice none 0 0,.slice none 0 0] 119)).heap.size=w.heap.size+2 by simp);obtain⟨hg,tE,vE,hE⟩:=hG.below b0;have hdk:dI k:=RX (zQ hv).1;go_enter Tryz.func47,Tryz.ntmps47;go_wp2_with fail;generalize (w.alloc (.cells #[.int .i64 k,.int .i64 x] 62)).alloc (.cells #[.int .i64 0,.int .i64 0,.slice none 0 0,.slice none 0 0] 119)=W at *;refine(Qy k x hdk W (hW.below b0) _ hg hE).mono ?_;rw[hv,if_pos rfl];rintro e W1 ⟨rfl,b1⟩;have r0:=qh r0 b1 (qe r0);have r1:=qh r1 b1 (qe r1);have B1:=qd (b0.trans (b1.mono b0.size));have y:=qa r0;have y0:=y 0;have y1:=y 1;have z:=qa r1;have z0:=z 0;have z1:=z 1;have z2:=z 2;have z3:=z 3;simp at y0 y1 z0 z1 z2 z3;have yl:=qe r0;have zl:=qe r1;have zf:=fun j=>qt r1 j;have R1:=qd r1;clear y z r0 r1 b0 b1;go_wp2_with fail;have rF:=qn (qn (qn (qn R1.o 0 (.int .i64 k)) 1 (.int .i64 x)) 2 (.slice none 0 0)) 3 (.slice none 0 0);have c:=qa rF;have c0:=c 0;have c1:=c 1;have c2:=c 2;have c3:=c 3;simp at c0 c1 c2 c3;refine bodyPost_ret (v:=.tuple #[.agg #[.int .i64 k,.int .i64 x,.slice none 0 0,.slice none 0 0],.nilIface]) (by simp[results,Tryz.results47,go_sem,c0,c1,c2,c3]) rfl ?_;exact⟨rfl,(((B1.o.setCell (p:=⟨w.heap.size+1,0,none⟩) (Nat.le_succ _) _).setCell (p:=⟨w.heap.size+1,1,none⟩) (Nat.le_succ _) _).setCell (p:=⟨w.heap.size+1,2,none⟩) (Nat.le_succ _) _).setCell (p:=⟨w.heap.size+1,3,none⟩) (Nat.le_succ _) _⟩
theorem s_New (v:Value) (os:List Ob) (w:World) (h:Sl w w.heap.size 2 v os.length (os.flatMap Ob.cells)) (hr:xJ os []=true) (hW:xg w) (hG:Jl w):
  Calls Tryz.prog 18 #[v] w fun e w'=>∃v',e=.returned (.tuple #[.agg #[v'],.nilIface])/\jO w' w.heap.size v' (os.map vF)/\Below w.heap.size w w':=by
 obtain⟨a,c,rfl,hm⟩:=h.ex;have hro:∀o ∈ os,jo o=true:=by
  unfold xJ at hr;simp only[Bool.and_eq_true,decide_eq_true_eq,List.all_eq_true] at hr;exact hr.1.2
 have hr8:os.length<=8:=by
  unfold xJ at hr;simp only[Bool.and_eq_true,decide_eq_true_eq,List.all_eq_true] at hr;exact hr.1.1.1
 have b0:Below w.heap.size w (w.alloc (.cells #[.slice none 0 0] 57)):=(Below.refl _ w).alloc (Nat.le_refl _) _;have r0:=qs w (.cells #[.slice none 0 0] 57);have hg:=ZC (.slice a os.length c) (.slice none 0 0) os [] _ ((h.below b0).more b0.size) ⟨none,0,rfl,by simp,by simp,fun h=>by simp at h⟩ (fun o ho=>RX (zQ (hro o ho)).1) (fun e he=>(nomatch he)) (hW.below b0) (hG.below b0);rw[hr] at hg;have hv:=qd hg;have hz0:(w.alloc (.cells #[.slice none 0 0] 57)).heap.size=w.heap.size+1:=by simp
 have H:=qd h;have HW:=qd hW;have HG:=qd hG;have HRO:=qd hro;clear h hW hro hG hg hr;go_enter Tryz.func18,Tryz.ntmps18;go_wp2_with fail;generalize w.alloc (.cells #[.slice none 0 0] 57)=W at *;refine(hv.o).mono ?_;rintro e W1 ⟨⟨x9,rfl,hx9,-⟩,b1⟩;obtain rfl:=hx9 rfl;clear hx9;have B1:=qd (b0.trans (b1.mono b0.size));have R1:=qd (qh r0 b1 (qe r0));have hz1:w.heap.size+1<=W1.heap.size:=by have:=b1.size;omega
 clear r0 b0 b1 hz0 hv;go_wp2_with fail;have RL:=qd (qs W1 (.cells #[.slice none 0 0] 55));have R2:=qd (qy (o:=.cells #[.slice none 0 0] 55) R1.o);have B2:=qd (B1.o.alloc B1.o.size (.cells #[.slice none 0 0] 55));have hz2:=qd (show(W1.alloc (.cells #[.slice none 0 0] 55)).heap.size=W1.heap.size+1 by simp);generalize W1.alloc (.cells #[.slice none 0 0] 55)=W2 at *;generalize W1.heap.size=bl at *
 go_loopw [19] (fun p wr=>∃(k:Nat) (u:Value),k<=os.length/\p=.int .i64 k/\wr.heap[w.heap.size]?=some (.cells #[.slice none 0 0] 57 (0,0))/\wr.heap[bl]?=some (.cells #[u] 55 (0,0))/\jO wr w.heap.size u ((os.take k).map vF)/\Below w.heap.size w wr) (fun p _=>os.length - (intOf p).toNat)
 case atStart=>exact⟨0,_,by omega,by go_num,R2.o,RL.o,qj.nil _ _,B2.o⟩
 case round=>
  obtain⟨k,u,hk,rfl,q0,ql,qo,qb⟩:=hrel;clear R2 RL B2 R1 B1 hz2 W1 W2;have hsz:=qb.size;obtain⟨L,hL⟩:∃L,(os.take k).map vF=L:=⟨_,rfl⟩
  rw[hL] at qo;have hLk:=qd (show L.length=k by rw[←hL];simp;omega);have hLm:L.length<=8:=by have:=hLk.o;omega
  have HL:=qd hL;clear hL;obtain⟨au,cu,rfl,-⟩:=(qj.sl qo).ex;have y0:=qa ql 0;simp at y0;have yl:=qe ql;have Q0:=qd q0;have QL:=qd ql;have QO:=qd qo;have QB:=qd qb;clear q0 ql qo qb;by_cases hlt:k < os.length
  ·have src:=(H.o.below QB.o).more hsz
   obtain⟨b,off,o,rfl,hb,hox,hc⟩:=src.atF Ob.len rfl hlt;have hvo:=HRO.o o (List.mem_of_getElem? hox);have hse:=scG_enc hvo;obtain⟨okd,x⟩:=o;simp only at hse;have c0:wr.cell? ⟨b,off+k*2,none⟩=some (.int .i64 okd):=hc 0 (by decide);have c1:wr.cell? ⟨b,off+k*2+1,none⟩=some (.int .i64 x):=hc 1 (by decide);have HX:=qd (show(os.take (k+1)).map vF=L++[vF ⟨okd,x⟩] by rw[List.take_add_one,List.map_append,hox,HL.o];rfl);clear hc src hox;have b3:Below wr.heap.size wr (wr.alloc (.cells #[.int .i64 okd,.int .i64 x] 62)):=(Below.refl _ wr).alloc (Nat.le_refl _) _;have r3:=qs wr (.cells #[.int .i64 okd,.int .i64 x] 62);go_wp2_with fail;generalize wr.alloc (.cells #[.int .i64 okd,.int .i64 x] 62)=W3 at *;refine(sp_New okd x hvo W3 (HW.o.below (QB.o.trans (b3.mono hsz))) (HG.o.object.below (QB.o.trans (b3.mono hsz)))).mono ?_;rintro e W4 ⟨rfl,b4⟩;have b34:=b3.trans (b4.mono b3.size);have b5:Below wr.heap.size wr (W4.alloc (.cells #[.int .i64 okd,.int .i64 x,.slice none 0 0,.slice none 0 0] 119)):=b34.alloc b34.size _;have r5:=qs W4 (.cells #[.int .i64 okd,.int .i64 x,.slice none 0 0,.slice none 0 0] 119);have hz4:=b34.size;have rb:=qh QL.o b5 yl;have d0:=qa rb 0;have e:=qa r5;have e0:=e 0;have e1:=e 1;have e2:=e 2;have e3:=e 3;have QO5:=qj.below QO.o b5;have zl5:=qe r5;have zb5:=qe rb;clear e r3 b3 b4 b34 r5 rb c0 c1 y0;go_wp2_with fail;generalize W4.alloc (.cells #[.int .i64 okd,.int .i64 x,.slice none 0 0,.slice none 0 0] 119)=W5 at *;have hz5:=b5.size;have LA:=l_And _ _ (vF ⟨okd,x⟩) W5 (qj.sl QO5) (by omega);rw[hse] at LA;refine LA.mono ?_;rintro e W6 ⟨v',rfl,o6,b6⟩;obtain⟨a6,c6,hv6,-⟩:=(qj.sl o6).ex;rw[show (L++[vF ⟨okd,x⟩]).length=L.length+1 by simp] at hv6;subst hv6;have b56:=b5.trans (b6.mono hz5);have rl6:=qh QL.o b56 yl;have r06:=qh Q0.o b56 (qe Q0.o);have B6:=qd (QB.o.trans (b56.mono hsz));have yl6:=qe rl6;have d6:=qa rl6 0;simp at d6;have f6:=qt rl6 0;have oF:=qd (qj.set (j:=0) (g:=bl) (u:=.slice a6 (L.length+1) c6) o6 (show bl < W5.heap.size by omega));have rlF:=qd (qn rl6 0 (.slice a6 (L.length+1) c6));have r0F:=qd (qI (j:=0) (v:=.slice a6 (L.length+1) c6) r06 (show bl≠w.heap.size by omega));have bF:=qd (B6.o.setCell (p:=⟨bl,0,none⟩) (by show w.heap.size<=bl;omega) (.slice a6 (L.length+1) c6));have oF:=qd (qj.base oF.o (show w.heap.size<=W5.heap.size by omega));clear QO5 b5 b6 b56 rl6 r06;go_wp2_with fail;refine⟨⟨k+1,_,by omega,by go_num,r0F.o,by simpa using rlF.o,?_,bF.o⟩,by simp[intOf];omega⟩;rw[HX.o];exact oF.o
  ·obtain rfl:k=os.length:=by omega
   have hq:decide ((os.length:Int) < (os.length:Int))=false:=by simp
   have x0:=qa Q0.o 0;simp at x0;have xl:=qe Q0.o;have xf:=qt Q0.o 0;have rF:=qn Q0.o 0 (.slice au L.length cu);have hne:bl≠w.heap.size:=fun e=>by have:=Q0.o;rw[←e,QL.o] at this;simp at this
   have oo:=QO.o;have hLe:=qd (show L=os.map vF by rw[←HL.o,List.take_length]);have oF:=qj.other (j:=0) oo (qj.neT oo Q0.o (by decide)) (.slice au L.length cu);have bF:=qd (QB.o.setCell (p:=⟨w.heap.size,0,none⟩) (Nat.le_refl _) (.slice au L.length cu));have oF:=qd oF;have c0:=qa rF 0;simp at c0;clear oo rF;go_wp2_with fail;refine bodyPost_ret (v:=.tuple #[.agg #[.slice au L.length cu],.nilIface]) (by simp[results,Tryz.results18,go_sem,c0]) rfl ?_;exact⟨_,rfl,hLe.o▸oF.o,bF.o⟩
end
section
variable {lev:Int} {os:List Ob} {es:List Ev} {A:Au} {T:List Bool} {a:WW}
theorem Nf {inits:List Int} (h:yB lev inits A a) (hk:a.kind=1):Ja lev inits A (qT lev A)=none/\∃ord,uq (xG (qR lev A (qT lev A)).2) (qR lev A (qT lev A)).1=some ord/\a.steps=XM lev A (qT lev A) ord:=by
 unfold yB at h;cases hb:Ja lev inits A (qT lev A) with
 |some p=>
  rw[hb] at h;obtain⟨x,k⟩:=p;simp only at h;subst h;exact absurd hk (by simp)
 |none=>
  rw[hb] at h;simp only at h;cases ht:uq (xG (qR lev A (qT lev A)).2) (qR lev A (qT lev A)).1 with
  |some ord=>
   rw[ht] at h;simp only at h;subst h;exact⟨rfl,ord,rfl,rfl⟩
  |none=>
   rw[ht] at h;obtain⟨c,-,rfl⟩:=h;exact absurd hk (by simp)
theorem bad_none {inits:List Int} (h:Ja lev inits A T=none) {i:Nat} {s:St} (hi:A[i]?=some s) (hl:qZ lev T i=true):xF inits A T i (yG s) 0 [] s.deeds=none:=by
 unfold Ja at h;have:=List.findSome?_eq_none_iff.1 h i (List.mem_range.2 (List.getElem?_eq_some_iff.1 hi).1);unfold Mj at this;rw[hi] at this;simp only[hl,if_true] at this;cases he:xF inits A T i (yG s) 0 [] s.deeds with
 |none=>rfl
 |some k=>rw[he] at this;cases this
theorem Zg {p:Int×Bool} (h:p ∈ VT lev A T):∃(i:Nat) (s:St),A[i]?=some s/\s.id=p.1/\p.2=false/\qZ lev T i=false/\Mh lev s=true:=by
 unfold VT at h;obtain⟨i,-,h⟩:=List.mem_filterMap.1 h;cases hs:A[i]? with
 |none=>rw[hs] at h;cases h
 |some s=>
  rw[hs] at h;simp only at h
  split at h
  ·rename_i hc
   simp only[Bool.and_eq_true,Bool.not_eq_true'] at hc;cases h;exact⟨i,s,hs,rfl,rfl,hc.2,hc.1⟩
  ·cases h
theorem MP:(VT lev A T).length<=A.length:=Nat.le_trans (List.length_filterMap_le _ _) (by simp)
theorem JY {dl:Int->List Dd}:∀{l:List (Int×Bool)} {σ:List Int},(∀p ∈ l,p.2=false)->zT dl false σ l=some σ
 |[],σ,_=>rfl
 |p::l,σ,h=>by
  have h1:yH dl false σ p=some σ:=by unfold yH;rw[if_pos ⟨h p (by simp),rfl⟩]
  simp only[zT,h1];exact JY fun q hq=>h q (by simp[hq])
theorem Ui {o:Int}:yI A T [] o=uc A T o:=by
 unfold yI;refine List.filter_eq_self.2 fun i hi=>?_;unfold uc at hi;have hl:=List.mem_range.1 (List.mem_filter.1 hi).1;rw[List.getElem?_eq_getElem hl];simp
theorem Nd (ht:qN os es=some A) (hp:qU os [] A=true) (hl:lev=1\/lev=2\/lev=3) (hJ:yB lev (os.map (·.init)) A a) (hk:a.kind=1) (hal:A.length<=200):
  a.steps.length<=400/\(∀p ∈ a.steps,∃(k:Nat) (s:St),A[k]?=some s/\s.id=p.1)/\∃τ,zT (yZ A) (decide (lev=3)) (os.map vF) a.steps=some τ/\τ.length=os.length/\
   ∀(c:Nat) (ob:Ob),os[c]?=some ob->ob.kind=1->(jQ lev (os.map (·.init)) A c).2=true/\(jQ lev (os.map (·.init)) A c).1≠[]/\τ[c]?=some ((jQ lev (os.map (·.init)) A c).1.getLastD 0):=by
 obtain⟨hb,ord,hto,hst⟩:=Nf hJ hk;have top:=ME hto;have hids:=Xm ht hp;have Y:KY lev os A (qT lev A) ord:=⟨hids,VZ ht hp,QQ ht hp,fun i s hi hli=>bad_none hb hi hli,fun s hs o w hw=>wr_rd hp hs (QQ ht hp s hs) hw,top⟩
 have hlen:ord.length<=200:=by
  have:=jZ (m:=A.map (·.id)) top.nodup fun x hx=>by
   obtain⟨i,s,hi,-,e⟩:=vm.1 (top.sub x hx);exact List.mem_map.2 ⟨s,List.mem_of_getElem? hi,e.symm⟩
  rw[List.length_map] at this;omega
 refine⟨?_,?_,?_⟩
 ·rw [hst]
  unfold XM;rw[List.length_append,List.length_map];have:=MP (lev:=lev) (A:=A) (T:=qT lev A);omega
 ·intro p hm
  rw[hst] at hm;rcases List.mem_append.1 hm with hm|hm
  ·obtain ⟨x,hx,rfl⟩:=List.mem_map.1 hm
   obtain⟨i,s,hi,-,e⟩:=vm.1 (top.sub x hx);exact⟨i,s,hi,e.symm⟩
  ·obtain ⟨i,s,hi,e,-⟩:=Zg hm
   exact⟨i,s,hi,e⟩
 ·have hI:Yw os A (qT lev A) [] (os.map vF):=fun c ob h1 h2=>by
   refine⟨ob.init,by rw[List.getElem?_map,h1,Option.map_some,XD h2],fun v hv=>?_⟩;rcases hv with e|⟨j,b,-,-,hm,-⟩
   ·left
    rw[e,List.getD_eq_getElem?_getD,List.getElem?_map,Int.toNat_natCast,h1];rfl
   ·cases hm
  obtain⟨τ,h1,h2,h3⟩:=Y.plays ord [] (os.map vF) rfl (by simp) hI;refine⟨τ,?_,h2,fun c ob hc hr=>?_⟩
  ·rw [hst]
   unfold XM;rw[Ny,h1];simp only;by_cases h3:lev=3
   ·have:VT lev A (qT lev A)=[]:=by
     refine List.eq_nil_iff_forall_not_mem.2 fun p hm=>?_;obtain⟨i,s,-,-,-,hf,-⟩:=Zg hm;unfold qZ at hf;simp[h3] at hf
    rw[this];rfl
   ·rw [decide_eq_false h3]
    exact JY fun p hm=>(Zg hm).elim fun i h=>h.elim fun s h=>h.2.2.1
  ·obtain ⟨V,v1,v2,v3⟩:=h3 c ob hc hr ((uc A (qT lev A) c).length+1) [(os.map (·.init)).getD ((c:Int)).toNat 0] (by rw[Ui];omega) (by simp) (by
    rw[List.getElem?_map,hc,Option.map_some,XD hr];rw[List.getD_eq_getElem?_getD,List.getElem?_map,Int.toNat_natCast,hc];rfl)
   rw[Ui] at v1;have e:jQ lev (os.map (·.init)) A c=(V,true):=v1;rw[e];exact⟨rfl,v2,v3⟩
theorem VY (ht:qN os es=some A) (hp:qU os [] A=true):∀s ∈ A,∀d ∈ s.deeds,DdR (os.map vF) d:=fun s hs d hd=>by
 have h:=VZ ht hp s hs d hd;obtain⟨o,ho,hk⟩:=h.reg;have hv:=(yh ht)
 have hob:jo o=true:=by
  have hh:xJ os es=true:=by
   unfold qN at ht
   split at ht
   ·assumption
   ·cases ht
  unfold xJ at hh;simp only[Bool.and_eq_true,decide_eq_true_eq,List.all_eq_true] at hh;exact hh.1.2 o (List.mem_of_getElem? ho)
 refine⟨⟨h.obj,?_⟩,fun x hx=>?_,h.op,h.key⟩
 ·have:=(List.getElem?_eq_some_iff.1 ho).1
  rw[List.length_map];have:=h.obj;omega
 ·rw [List.getElem?_map,ho,Option.map_some,XD hk] at hx
  cases hx;exact(zQ hob).2
end
