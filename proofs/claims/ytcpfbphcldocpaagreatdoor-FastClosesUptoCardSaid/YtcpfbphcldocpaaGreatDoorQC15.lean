/- Parts of the proof; the first: A history under the premise, looked at. Conditions: those of each theorem, as typed. -/
import Derived.Test.YtcpfbphcldocpaaGreatDoorQC14
import Derived.Deep.LoopGhost
import Derived.LaidEqlPtr
set_option linter.unusedVariables false
set_option linter.unusedSimpArgs false
set_option linter.unusedSectionVars false
set_option maxRecDepth 100000
set_option maxHeartbeats 4000000
namespace Go.Proofs.YtcpfbphcldocpaaGreatDoor
open Go.Maps Go.RowKit
section
attribute [local irreducible] xL
theorem grownBy.turned {w w1 w2:World} {b:Nat} (h:w.grownBy w1 (some b)) (ht:w1.mapTurned w2 b):w.grownBy w2 (some b):=by
 have hz:=qP ht;have ho:=fun i (hi:i≠b)=>qA ht hi;obtain⟨es,c,es',c',hb,rfl⟩:=ht;exact⟨h.os,h.tape,h.output,by rw[hz];exact h.size,fun k hk hq=>(ho k fun e=>hq (congrArg some e)).trans (h.block k hk hq)⟩
theorem zo {g:Dd->Int}:∀{X:List Dd} {M:MI},yE dI M->(∀d ∈ X,dI d.obj)->yE dI (X.foldl (fun m d=>upd d.obj (g d) m) M)
 |[],M,h,_=>h
 |d::X,M,h,hX=>by
  rw[List.foldl_cons];exact zo (h.upd (hX d (List.mem_cons_self ..))) fun x hx=>hX x (List.mem_cons_of_mem _ hx)
theorem uo {l:List Dd} {d:Dd} (h:d ∈ xX l):d ∈ l:=by
 induction l using zy with
 |h0=>cases h
 |h1 l x ih=>
  rw[jS] at h
  split at h
  ·rcases List.mem_append.1 h with h|h
   ·exact List.mem_append_left _ (ih (List.mem_filter.1 h).1)
   ·exact List.mem_append_right _ h
  ·exact List.mem_append_left _ (ih h)
theorem Uj {g:Dd->Int} {o v:Int}:∀{X:List Dd} {r:Option Int},yO g o X r=some v->(∃d ∈ X,d.obj=o/\g d=v)\/r=some v
 |[],r,h=>.inr h
 |d::X,r,h=>by
  unfold yO at h;rw[List.foldl_cons] at h;rcases Uj (X:=X) h with⟨x,hx,e⟩|h
  ·exact .inl ⟨x,List.mem_cons_of_mem _ hx,e⟩
  ·split at h
   ·rename_i e
    exact .inl ⟨d,List.mem_cons_self ..,e,Option.some.inj h⟩
   ·exact .inr h
theorem grownBy.drew {w w1:World} {q:Option Nat} (h:w.grownBy w1 q):w.grownBy w1.drew q:=⟨h.os,h.tape,h.output,h.size,h.block⟩
theorem grownBy.toBelow {w w1:World} {q K:Nat} (h:w.grownBy w1 (some q)) (h1:K<=q) (h2:K<=w.heap.size):Below K w w1:=⟨h.os,h.tape,h.output,h.size,fun k hk=>h.block k (by omega) fun e=>by have:=Option.some.inj e;omega⟩
theorem xd {w w1:World} {q b j:Nat} {v:Value} (h:w.grownBy w1 (some q)) (hb:b < w.heap.size) (hn:b≠q) (hc:w.cell? ⟨b,j,none⟩=some v):w1.cell? ⟨b,j,none⟩=some v:=by
 rw[←hc];simp only[World.cell?,h.block b hb fun e=>hn (Option.some.inj e)]
theorem yT {w w1:World} {q b:Nat} {o:Obj} (h:w.grownBy w1 (some q)) (hn:b≠q) (hc:w.heap[b]?=some o):w1.heap[b]?=some o:=(h.block b (Array.getElem?_eq_some_iff.1 hc).1 fun e=>hn (Option.some.inj e)).trans hc
theorem xN.add {w wq w9:World} {lo n0 h8 pW bB:Nat} {lev:Int} {ov vv lv lv':Value} {ms:List xz} {A:Au} {T:List Bool} {m:xz} {s:St} {x y:Bool} {Mb:Ck->Option Value} (h:xN w lo n0 pW bB lev ov vv ms lv A T) (hy:y=(x||decide (lev=3)))
  (hm:JB w lo h8 m s y x) (h8l:h8<=w.heap.size) (h80:n0<=h8) (hf:n0<=m.p/\n0<=m.r/\n0<=m.wm) (hq:w.grownBy wq (some bB)) (hMb:yM YG wq bB Mb) (hMb2:∀c,Mb c=Jz (A++[s]) (ms++[m]) c) (hG:Yz wq w9 lv lv') (ho:qj xz.cells 133 1 w9 lo lv' (ms++[m])):
  xN (w9.setCell ⟨pW,3,none⟩ lv') lo w9.heap.size pW bB lev ov vv (ms++[m]) lv' (A++[s]) (T++[x]):=by
 have hpB:=h.pB;have hz1:=hq.size;have hz2:=hG.size;have hb:=hm.b;have step:∀k,k < w.heap.size->k≠pW->k≠bB->lv.ownBlock≠some k->(w9.setCell ⟨pW,3,none⟩ lv').heap[k]?=w.heap[k]?:=fun k h1 h2 h3 h4=>by
  rw[RowKit.Below.heap_setCell _ _ _ _ h2,hG.grown.block k (by omega) fun e=>h4 e.symm,hq.block k h1 fun e=>h3 (Option.some.inj e)]
 have rq:w9.heap[pW]?=some (.cells #[ov,vv,.int .i64 lev,lv,.map (some bB)] 137 (0,0)):=by
  rw[hG.grown.block pW (by have:=qe h.row;omega) fun e=>qj.neT h.lst h.row (by decide) e.symm,hq.block pW (qe h.row) fun e=>zh h.row h.by_.isMap (Option.some.inj e)];exact h.row
 subst hy;have hlt:n0<=w.heap.size:=by omega
 refine h.snoc (hi':=w9.heap.size) (by omega) (fun k h1 h2 h3 h4 h5=>step k (by omega) h3 h4 h5) (by have:=qn rq 3 lv';simpa using this) (qj.other (j:=3) ho (qj.neT ho rq (by decide)) lv') (fun k e=>(qj.lt ho k e).2) (hm.keep (by omega) (step _ (by omega) (by omega) (by omega) fun e=>by have:=h.lstb _ e;omega) (fun k e=>step k (qj.lt hm.dds k e).2 ?_ ?_ ?_) (step _ (by omega) (by omega) (by omega) fun e=>by have:=h.lstb _ e;omega) (step _ (by omega) (by omega) (by omega) fun e=>by have:=h.lstb _ e;omega)) hf ?_
 ·rintro rfl
  exact qj.neT hm.dds h.row (by decide) e
 ·rintro rfl
  exact qj.neM hm.dds h.by_.isMap e
 ·obtain ⟨c1,hc1⟩:=hm.dds.keepObj k e
  exact qj.neT h.lst hc1 (by decide)
 ·refine yM.fun (hMb.obj ?_) fun c=>(hMb2 c).symm
  rw[RowKit.Below.heap_setCell _ _ _ _ fun e=>zh h.row h.by_.isMap e.symm,hG.grown.block bB (by omega) fun e=>qj.neM h.lst h.by_.isMap e.symm]
theorem Ks:(Tryz.prog.info? 140).map (fun i=>i.size)=some 11:=by kernel_rfl
theorem MS {X:World} {a b:Nat} {ca cb:Array Value} {ta tb:TypeId} (ha:X.heap[a]?=some (.cells ca ta (0,0))) (hb:X.heap[b]?=some (.cells cb tb (0,0))) (d:Nat):(Op.equalIn (d+1) 133 (.pointer (some ⟨a,0,none⟩)) (.pointer (some ⟨b,0,none⟩))).run Tryz.prog X=.ok (decide (a=b)) X:=by
 obtain⟨j,hj,hs⟩:=Option.map_eq_some_iff.1 Ks;by_cases h:a=b
 ·subst h
  simp[Op.equalIn,run_underlying Tryz.underlying133,sizeOf,typeInfo,hj,run_sameAddr_same]
 ·have hne:(⟨a,0,none⟩:Addr)≠⟨b,0,none⟩:=fun e=>h (congrArg Addr.block e)
  have hsz:j.size≠0:=by rw[hs];decide
  simp[Op.equalIn,run_underlying Tryz.underlying133,sizeOf,typeInfo,hj,hsz,run_sameAddr_other X hne ha hb,h]
theorem YM {X:World} {a b:Nat} {ca cb:Array Value} {ta tb:TypeId} (ha:X.heap[a]?=some (.cells ca ta (0,0))) (hb:X.heap[b]?=some (.cells cb tb (0,0))):(binOp .neq 133 (.pointer (some ⟨a,0,none⟩)) (.pointer (some ⟨b,0,none⟩))).run Tryz.prog X=.ok (.bool (!decide (a=b))) X:=by
 have h:=MS ha hb 9999;simp only[binOp];simp[Op.equal,Op.maxDepth,h]
theorem ptr_eql {X:World} {a b:Nat} {ca cb:Array Value} {ta tb:TypeId} (ha:X.heap[a]?=some (.cells ca ta (0,0))) (hb:X.heap[b]?=some (.cells cb tb (0,0))):(binOp .eql 133 (.pointer (some ⟨a,0,none⟩)) (.pointer (some ⟨b,0,none⟩))).run Tryz.prog X=.ok (.bool (decide (a=b))) X:=by
 have h:=MS ha hb 9999;simp only[binOp];simp[Op.equal,Op.maxDepth,h]
theorem uF {A:Au} {i:Nat} {M:Mi} {S:Int->Bool} {x u:Int} (hM:za M) (hx:(x,u) ∈ M) (j:Nat):(∃p ∈ M,(S p.1&&!(p.1==x))=false/\vz A i j p)↔(∃p ∈ M,S p.1=false/\vz A i j p)\/vz A i j (x,u):=by
 constructor
 ·rintro ⟨p,h1,h2,h3⟩
  by_cases e:p.1=x
  ·right
   have:p=(x,u):=by
    have q1:=(fnd_some hM (a:=p.1) (u:=p.2)).2 h1;have q2:=(fnd_some hM).2 hx;rw[e,q2] at q1;exact Prod.ext e (Option.some.inj q1).symm
   rw[←this];exact h3
  ·left
   have:(p.1==x)=false:=by simpa using e
   rw[this] at h2;exact⟨p,h1,by simpa using h2,h3⟩
 ·rintro (⟨p,h1,h2,h3⟩|h)
  ·exact ⟨p,h1,by rw[h2];rfl,h3⟩
  ·exact ⟨(x,u),hx,by simp,h⟩
theorem Mt (w:World):(zeroValue 133).run Tryz.prog w=.ok (.pointer none) w:=by kernel_rfl
def Vt (w:World) (lev:Int) (ov vv:Value) (A:Au) (e:Ending) (w':World):Prop:=∃pW bB ms lv,e=.returned (.tuple #[.pointer (some ⟨pW,0,none⟩),.nilIface])/\xN w' w.heap.size w'.heap.size pW bB lev ov vv ms lv A (qT lev A)/\Below w.heap.size w w'
theorem f_look (ov vv:Value) (os:List Ob) (A:Au) (lev:Int) (w:World) (hov:∃a n c,ov=.slice a n c) (hvv:∃a n c,vv=.slice a n c)
  (hP:∀W,Below w.heap.size w W->Calls Tryz.prog 43 #[.agg #[ov,vv]] W (vZ W (some A))) (hD:JE os A):
  Calls Tryz.prog 31 #[.agg #[ov,vv],.int .i64 lev] w (Vt w lev ov vv A):=by
 obtain⟨ao,no,co,rfl⟩:=hov;obtain⟨av,nv,cv,rfl⟩:=hvv;have b0:Below w.heap.size w (w.alloc (.cells #[.slice ao no co,.slice av nv cv] 25)):=(Below.refl _ w).alloc (Nat.le_refl _) _;have PC:=qd (hP _ b0);have B0:=qd b0;have R0:=qd (qs w (.cells #[.slice ao no co,.slice av nv cv] 25));have hz0:w.heap.size < (w.alloc (.cells #[.slice ao no co,.slice av nv cv] 25)).heap.size:=by simp
 have hmm:=@run_makeMap Tryz.prog;have HD:=qd hD;clear b0 hP hD;go_enter Tryz.func31,Tryz.ntmps31;go_wp2_with fail;generalize w.alloc (.cells #[.slice ao no co,.slice av nv cv] 25)=W at *;refine PC.o.mono ?_;rintro e W1 ⟨tv,rfl,⟨rs,o1,hrl,hrc⟩,b1⟩;obtain⟨at1,ct1,rfl⟩:=qj.sli o1;have hz1:=b1.size;have B1:=qd (B0.o.trans (b1.mono B0.o.size));have r1:=qh R0.o b1 (qe R0.o);have y:=qa r1;have y0:=y 0;have y1:=y 1;simp at y0 y1;have yl:=qe r1;have O1:=qd o1;have HRC:=qd hrc;have HRL:=qd hrl;have hrl4:rs.length<=400:=by have:=HD.o.len;omega
 clear b1 o1 hrc hrl PC R0 r1 y;go_wp2_with fail;have B2:=qd (show Below W1.heap.size W1 ((W1.alloc (.map #[] 0)).alloc (.cells #[.slice ao no co,.slice av nv cv,.int .i64 lev,.slice none 0 0,.map (some W1.heap.size)] 137)) from((Below.refl _ W1).alloc (Nat.le_refl _) _).alloc (by simp) _);have F2:=qd (show xN ((W1.alloc (.map #[] 0)).alloc (.cells #[.slice ao no co,.slice av nv cv,.int .i64 lev,.slice none 0 0,.map (some W1.heap.size)] 137)) w.heap.size ((W1.alloc (.map #[] 0)).alloc (.cells #[.slice ao no co,.slice av nv cv,.int .i64 lev,.slice none 0 0,.map (some W1.heap.size)] 137)).heap.size (W1.heap.size+1) W1.heap.size lev (.slice ao no co) (.slice av nv cv) [] (.slice none 0 0) [] [] from by
  refine⟨by have:=qs (W1.alloc (.map #[] 0)) (.cells #[.slice ao no co,.slice av nv cv,.int .i64 lev,.slice none 0 0,.map (some W1.heap.size)] 137);simpa using this,by simp;omega,qj.nil _ _,by simp[Value.ownBlock],rfl,rfl,fun k m s hm=>by simp at hm,fun j k m m' hm=>by simp at hm,fun m hm=>by simp at hm,yM.fun (yM.made (by rw[heap_alloc_old _ _ (by simp),heap_alloc_new])) fun c=>rfl⟩)
 generalize ((W1.alloc (.map #[] 0)).alloc (.cells #[.slice ao no co,.slice av nv cv,.int .i64 lev,.slice none 0 0,.map (some W1.heap.size)] 137))=W2 at *;clear y0 y1 yl
 go_loopw [39] (fun p wr=>∃(k:Nat) (ms:List xz) (lv:Value),k<=rs.length/\p=.int .i64 k/\xN wr w.heap.size wr.heap.size (W1.heap.size+1) W1.heap.size lev (.slice ao no co) (.slice av nv cv) ms lv (A.take k) (zJ (A.take k))/\(∀j,lv.ownBlock=some j->W1.heap.size<=j)/\Below W1.heap.size W1 wr) (fun p _=>rs.length - (intOf p).toNat)
 case atStart=>exact⟨0,[],_,by omega,by go_num,by simpa[zJ] using F2.o,by simp[Value.ownBlock],B2.o⟩
 case round=>
  obtain⟨k,ms,lv,hk,rfl,hF,hGB,hB⟩:=hrel;obtain⟨bB,hbB⟩:∃bB,bB=W1.heap.size:=⟨_,rfl⟩
  have HBB:=qd hbB;clear F2 B2 W2 hbB;have hszB:=hB.size;obtain⟨al,cl,rfl⟩:=qj.sli hF.lst;have HLB:=qd hGB;have HF:=qd hF;have HB:=qd hB;have hpW:=hF.pB;clear hF hB hGB;by_cases hlt:k < rs.length
  ·obtain ⟨b,off,r,rfl,hb,hr,hc⟩:=(qj.sl (qj.below O1.o HB.o)).atF YQ.len rfl hlt
   obtain⟨s,hs⟩:∃s,A[k]?=some s:=⟨_,List.getElem?_eq_getElem (by have:=HRL.o;omega)⟩
   obtain⟨htx,hdv⟩:=HRC.o k r s hr hs;have HTK:=qd (show A.take (k+1)=A.take k++[s] from zk hs);have hsm:=List.mem_of_getElem? hs;have HSM:=qd hsm;have hnd:=HD.o.dl s hsm;have HDo:=qd (fun(d:Dd) (hd:d ∈ s.deeds)=>HD.o.dobj hsm hd);have HVu:=qd (fun(x u:Int) (h:(x,u) ∈ zb s)=>(show dI u from by
    have h:=(fnd_some (Qe s)).2 h;rw[Vj] at h;obtain⟨d,hd,-,-,-,e⟩:=Rt h;rw[←e];exact(HD.o.val s hsm d hd).1))
   obtain⟨i1,th1,st1,be1,fi1,tr1,dv⟩:=r;obtain⟨h1,h2,h3,h4,h5,h6⟩:=htx;simp only at h1 h2 h3 h4 h5 h6 hdv;subst h1 h2 h3 h4 h5 h6;obtain⟨ad,cd,rfl⟩:=qj.sli hdv;have c0:wr.cell? ⟨b,off+k*7,none⟩=some (.int .i64 s.id):=hc 0 (by decide);have c1:wr.cell? ⟨b,off+k*7+1,none⟩=some (.int .i64 s.thread):=hc 1 (by decide);have c2:wr.cell? ⟨b,off+k*7+2,none⟩=some (.int .i64 s.status):=hc 2 (by decide);have c3:wr.cell? ⟨b,off+k*7+3,none⟩=some (.int .i64 s.beg):=hc 3 (by decide);have c4:wr.cell? ⟨b,off+k*7+4,none⟩=some (.int .i64 s.fin):=hc 4 (by decide);have c5:wr.cell? ⟨b,off+k*7+5,none⟩=some (.int .i64 s.tri):=hc 5 (by decide);have c6:wr.cell? ⟨b,off+k*7+6,none⟩=some (.slice ad s.deeds.length cd):=hc 6 (by decide);have hbw:b < wr.heap.size:=by omega
   have b3:Below wr.heap.size wr ((((wr.alloc (.cells #[.int .i64 s.id,.int .i64 s.thread,.int .i64 s.status,.int .i64 s.beg,.int .i64 s.fin,.int .i64 s.tri,.slice ad s.deeds.length cd] 49)).alloc (.map #[] 0)).alloc (.map #[] 0)).alloc (.cells #[.int .i64 s.id,.int .i64 s.thread,.int .i64 s.status,.int .i64 s.beg,.int .i64 s.fin,.int .i64 s.tri,.slice ad s.deeds.length cd,.map (some (wr.heap.size+1)),.map (some (wr.heap.size+1+1)),.bool false,.bool false] 140)):=(((Below.refl _ wr).alloc (Nat.le_refl _) _).alloc (by simp) _).alloc (by simp;omega) _ |>.alloc (by simp;omega) _;have B3:=qd b3;have hz3:((((wr.alloc (.cells #[.int .i64 s.id,.int .i64 s.thread,.int .i64 s.status,.int .i64 s.beg,.int .i64 s.fin,.int .i64 s.tri,.slice ad s.deeds.length cd] 49)).alloc (.map #[] 0)).alloc (.map #[] 0)).alloc (.cells #[.int .i64 s.id,.int .i64 s.thread,.int .i64 s.status,.int .i64 s.beg,.int .i64 s.fin,.int .i64 s.tri,.slice ad s.deeds.length cd,.map (some (wr.heap.size+1)),.map (some (wr.heap.size+1+1)),.bool false,.bool false] 140)).heap.size=wr.heap.size+1+1+1+1:=by simp
   have T3:=qd (show((((wr.alloc (.cells #[.int .i64 s.id,.int .i64 s.thread,.int .i64 s.status,.int .i64 s.beg,.int .i64 s.fin,.int .i64 s.tri,.slice ad s.deeds.length cd] 49)).alloc (.map #[] 0)).alloc (.map #[] 0)).alloc (.cells #[.int .i64 s.id,.int .i64 s.thread,.int .i64 s.status,.int .i64 s.beg,.int .i64 s.fin,.int .i64 s.tri,.slice ad s.deeds.length cd,.map (some (wr.heap.size+1)),.map (some (wr.heap.size+1+1)),.bool false,.bool false] 140)).heap[wr.heap.size]?=some (.cells #[.int .i64 s.id,.int .i64 s.thread,.int .i64 s.status,.int .i64 s.beg,.int .i64 s.fin,.int .i64 s.tri,.slice ad s.deeds.length cd] 49 (0,0)) by
    rw[heap_alloc_old _ _ (by simp;omega),heap_alloc_old _ _ (by simp;omega),heap_alloc_old _ _ (by simp)];exact heap_alloc_new wr _)
   have M3:=qd (show((((wr.alloc (.cells #[.int .i64 s.id,.int .i64 s.thread,.int .i64 s.status,.int .i64 s.beg,.int .i64 s.fin,.int .i64 s.tri,.slice ad s.deeds.length cd] 49)).alloc (.map #[] 0)).alloc (.map #[] 0)).alloc (.cells #[.int .i64 s.id,.int .i64 s.thread,.int .i64 s.status,.int .i64 s.beg,.int .i64 s.fin,.int .i64 s.tri,.slice ad s.deeds.length cd,.map (some (wr.heap.size+1)),.map (some (wr.heap.size+1+1)),.bool false,.bool false] 140)).heap[wr.heap.size+1+1+1]?=some (.cells #[.int .i64 s.id,.int .i64 s.thread,.int .i64 s.status,.int .i64 s.beg,.int .i64 s.fin,.int .i64 s.tri,.slice ad s.deeds.length cd,.map (some (wr.heap.size+1)),.map (some (wr.heap.size+1+1)),.bool false,.bool false] 140 (0,0)) by
    have:=heap_alloc_new (((wr.alloc (.cells #[.int .i64 s.id,.int .i64 s.thread,.int .i64 s.status,.int .i64 s.beg,.int .i64 s.fin,.int .i64 s.tri,.slice ad s.deeds.length cd] 49)).alloc (.map #[] 0)).alloc (.map #[] 0)) (.cells #[.int .i64 s.id,.int .i64 s.thread,.int .i64 s.status,.int .i64 s.beg,.int .i64 s.fin,.int .i64 s.tri,.slice ad s.deeds.length cd,.map (some (wr.heap.size+1)),.map (some (wr.heap.size+1+1)),.bool false,.bool false] 140);simpa using this)
   have R3:=qd (show vH ((((wr.alloc (.cells #[.int .i64 s.id,.int .i64 s.thread,.int .i64 s.status,.int .i64 s.beg,.int .i64 s.fin,.int .i64 s.tri,.slice ad s.deeds.length cd] 49)).alloc (.map #[] 0)).alloc (.map #[] 0)).alloc (.cells #[.int .i64 s.id,.int .i64 s.thread,.int .i64 s.status,.int .i64 s.beg,.int .i64 s.fin,.int .i64 s.tri,.slice ad s.deeds.length cd,.map (some (wr.heap.size+1)),.map (some (wr.heap.size+1+1)),.bool false,.bool false] 140)) (wr.heap.size+1) 0 [] from by
    refine qG.obj (qG.made (wr.alloc (.cells #[.int .i64 s.id,.int .i64 s.thread,.int .i64 s.status,.int .i64 s.beg,.int .i64 s.fin,.int .i64 s.tri,.slice ad s.deeds.length cd] 49)) |> fun h=>(by simpa using h:vH ((wr.alloc (.cells #[.int .i64 s.id,.int .i64 s.thread,.int .i64 s.status,.int .i64 s.beg,.int .i64 s.fin,.int .i64 s.tri,.slice ad s.deeds.length cd] 49)).alloc (.map #[] 0)) (wr.heap.size+1) 0 [])) ?_;rw[heap_alloc_old _ _ (by simp),heap_alloc_old _ _ (by simp)])
   have V3:=qd (show vH ((((wr.alloc (.cells #[.int .i64 s.id,.int .i64 s.thread,.int .i64 s.status,.int .i64 s.beg,.int .i64 s.fin,.int .i64 s.tri,.slice ad s.deeds.length cd] 49)).alloc (.map #[] 0)).alloc (.map #[] 0)).alloc (.cells #[.int .i64 s.id,.int .i64 s.thread,.int .i64 s.status,.int .i64 s.beg,.int .i64 s.fin,.int .i64 s.tri,.slice ad s.deeds.length cd,.map (some (wr.heap.size+1)),.map (some (wr.heap.size+1+1)),.bool false,.bool false] 140)) (wr.heap.size+1+1) 0 [] from by
    refine qG.obj (qG.made ((wr.alloc (.cells #[.int .i64 s.id,.int .i64 s.thread,.int .i64 s.status,.int .i64 s.beg,.int .i64 s.fin,.int .i64 s.tri,.slice ad s.deeds.length cd] 49)).alloc (.map #[] 0)) |> fun h=>(by simpa using h:vH (((wr.alloc (.cells #[.int .i64 s.id,.int .i64 s.thread,.int .i64 s.status,.int .i64 s.beg,.int .i64 s.fin,.int .i64 s.tri,.slice ad s.deeds.length cd] 49)).alloc (.map #[] 0)).alloc (.map #[] 0)) (wr.heap.size+1+1) 0 [])) ?_;rw[heap_alloc_old _ _ (by simp)])
   have HZ3:=qd hz3;have DV3:=qd (qj.below (qj.below hdv HB.o) b3);have DVB:=qd (fun k (e:(Value.slice ad s.deeds.length cd).ownBlock=some k)=>(qj.lt hdv k e).2);have RC:=qd (p_Reads s.id s.thread s.status s.beg s.fin s.tri (.slice ad s.deeds.length cd) s.deeds _ (qj.sl DV3.o) hnd);clear hr hs hdv hc hsm b3 hz3 hb;go_wp2_with fail;have HF3:=qd (HF.o.below B3.o (Nat.le_refl _) (Nat.le_refl _));have B13:=qd (HB.o.trans (B3.o.mono hszB));generalize ((((wr.alloc (.cells #[.int .i64 s.id,.int .i64 s.thread,.int .i64 s.status,.int .i64 s.beg,.int .i64 s.fin,.int .i64 s.tri,.slice ad s.deeds.length cd] 49)).alloc (.map #[] 0)).alloc (.map #[] 0)).alloc (.cells #[.int .i64 s.id,.int .i64 s.thread,.int .i64 s.status,.int .i64 s.beg,.int .i64 s.fin,.int .i64 s.tri,.slice ad s.deeds.length cd,.map (some (wr.heap.size+1)),.map (some (wr.heap.size+1+1)),.bool false,.bool false] 140))=W3 at *;clear HF HB B3 c0 c1 c2 c3 c4 c5 c6 hbw;generalize wr.heap.size=n0 at *;refine(RC.o).mono ?_;rintro e W4 ⟨vR,rfl,oR,b4⟩;obtain⟨X,hX⟩:∃X,xt [] s.deeds=X:=⟨_,rfl⟩
   rw[hX] at oR;obtain⟨aR,cR,rfl⟩:=qj.sli oR;have hXl:X.length<=400:=by rw[←hX];exact Nat.le_trans (QK _ _) hnd
   have HXo:=qd (fun(d:Dd) (hd:d ∈ X)=>HDo.o d (jp (by rw[hX];exact hd)).1);have HXX:=qd hX;have z4:=b4.size;have z34:=HZ3.o;have T4:=qd (qh T3.o b4 (by omega));have M4:=qd (qh M3.o b4 (by omega));have R4:=qd (R3.o.below b4 (by omega));have V4:=qd (V3.o.below b4 (by omega));have DV4:=qd (qj.below DV3.o b4);have HF4:=qd (HF3.o.below b4 (by omega) (Nat.le_refl _));have B14:=qd (B13.o.trans (b4.mono (by omega)));have OR:=qd oR;clear RC hX oR b4 T3 M3 R3 V3 DV3 HF3 B13;go_wp2_with fail
   go_loopw [51] (fun p wi=>∃(j n:Nat),j<=X.length/\n<=j/\p=.int .i64 j/\vH wi (n0+1) n ((X.take j).foldl (fun m d=>upd d.obj d.got m) [])/\W4.grownBy wi (some (n0+1))) (fun p _=>X.length - (intOf p).toNat)
   case atStart=>exact⟨0,0,by omega,by omega,by go_num,R4.o,grownBy.refl _ _⟩
   case round=>
    obtain⟨j,n,hj,hn,rfl,hI,hg⟩:=hrel;have hzg:=hg.size;have HI:=qd hI;have HG:=qd hg;clear hI hg;by_cases hlt2:j < X.length
    ·obtain ⟨b2,off2,d,hq2,hb2,hdj,hc2⟩:=(qj.sl OR.o).atF Dd.len rfl hlt2
     subst hq2;have hb3:=(qj.lt OR.o b2 rfl).1;have HTJ:=qd (show X.take (j+1)=X.take j++[d] from zk hdj);have hdo:=HXo.o d (List.mem_of_getElem? hdj);have HDm:=qd (zo (g:=Dd.got) (X:=X.take j) (M:=[]) (fun _ h=>by cases h) fun x hx=>HXo.o x (List.mem_of_mem_take hx));have HSr:=qd (uJ (g:=Dd.got) (X:=X.take j) (M:=[]) List.Pairwise.nil);obtain⟨ob,op,ke,va,re,go,at_,ba⟩:=d;simp only at hdo;have HDO:=qd hdo;have c0:wr.cell? ⟨b2,off2+j*8,none⟩=some (.int .i64 ob):=xd HG.o hb2 (by omega) (hc2 0 (by decide));have c1:wr.cell? ⟨b2,off2+j*8+1,none⟩=some (.int .i64 op):=xd HG.o hb2 (by omega) (hc2 1 (by decide));have c2:wr.cell? ⟨b2,off2+j*8+2,none⟩=some (.int .i64 ke):=xd HG.o hb2 (by omega) (hc2 2 (by decide));have c3:wr.cell? ⟨b2,off2+j*8+3,none⟩=some (.int .i64 va):=xd HG.o hb2 (by omega) (hc2 3 (by decide));have c4:wr.cell? ⟨b2,off2+j*8+4,none⟩=some (.int .i64 re):=xd HG.o hb2 (by omega) (hc2 4 (by decide));have c5:wr.cell? ⟨b2,off2+j*8+5,none⟩=some (.int .i64 go):=xd HG.o hb2 (by omega) (hc2 5 (by decide));have c6:wr.cell? ⟨b2,off2+j*8+6,none⟩=some (.int .i64 at_):=xd HG.o hb2 (by omega) (hc2 6 (by decide));have c7:wr.cell? ⟨b2,off2+j*8+7,none⟩=some (.int .i64 ba):=xd HG.o hb2 (by omega) (hc2 7 (by decide));have hbw:b2 < wr.heap.size:=by omega
     have G5:=qd (show W4.grownBy (wr.alloc (.cells #[.int .i64 ob,.int .i64 op,.int .i64 ke,.int .i64 va,.int .i64 re,.int .i64 go,.int .i64 at_,.int .i64 ba] 112)) (some (n0+1)) from grownBy.below HG.o ((Below.refl _ wr).alloc (Nat.le_refl _) _));have I5:=qd (HI.o.alloc (.cells #[.int .i64 ob,.int .i64 op,.int .i64 ke,.int .i64 va,.int .i64 re,.int .i64 go,.int .i64 at_,.int .i64 ba] 112));have r5:=qs wr (.cells #[.int .i64 ob,.int .i64 op,.int .i64 ke,.int .i64 va,.int .i64 re,.int .i64 go,.int .i64 at_,.int .i64 ba] 112);have m5:=yT G5.o (by omega) M4.o;clear hc2 hdj hdo;go_wp2_with fail;have hz5:(wr.alloc (.cells #[.int .i64 ob,.int .i64 op,.int .i64 ke,.int .i64 va,.int .i64 re,.int .i64 go,.int .i64 at_,.int .i64 ba] 112)).heap.size=wr.heap.size+1:=by simp
     generalize wr.alloc (.cells #[.int .i64 ob,.int .i64 op,.int .i64 ke,.int .i64 va,.int .i64 re,.int .i64 go,.int .i64 at_,.int .i64 ba] 112)=W5 at *;clear c0 c1 c2 c3 c4 c5 c6 c7;have y:=qa r5;have y0:=y 0;have y5:=y 5;have ym:=qa m5 7;simp at y0 y5 ym;have yl:=qe r5;have yml:=qe m5;clear y r5 m5 hz5;obtain⟨F,hF⟩:∃F,(X.take j).foldl (fun m d=>upd d.obj d.got m) []=F:=⟨_,rfl⟩
     rw[hF] at I5 HDm HSr;have HFF:=qd hF;clear hF;refine qD (W5.heap.size) [0,0,0,1,0,1,0,1,2] (.fin [0,1,2,3,4,5,6,7,8]) (by kernel_rfl) ?_;simp only[xC,qJ,qu,sD,sE,sF,sG]
     repeat first|(refine qq fun K hK=>?_;go_simp;refine hK _ _ ?_;clear hK K)|(apply qx;(intro w2 hw2;have hk1:=hw2.cell;have hk3:=hw2.1;clear hw2;go_simp;with_reducible rfl);simp only[Act.put,sA,sB,sC])
     refine qF (fun K hK=>?_);refine(qG.drew I5.o).wp_store zm yK HDm.o HSr.o Tryz.underlying138 (v:=go) (by unfold maxLen;omega) HDO.o rfl (by rfl) (by rfl) (by rfl) ?_;intro w6 h6 t6;refine hK _ _ ?_;clear hK K;have I6:=qd h6;have G6:=qd (show W4.grownBy w6 (some (n0+1)) from grownBy.turned (w1:=W5.drew) (grownBy.drew G5.o) t6);clear h6 t6
     repeat refine qm ?_
     go_wp2_with fail;go_roundw
     case rel=>exact⟨j+1,n+1,by omega,by omega,by go_num,by rw[HTJ.o,List.foldl_append,HFF.o];exact I6.o,G6.o⟩
     case measure=>simp[intOf];omega
    ·obtain rfl:j=X.length:=by omega
     have hq:decide ((X.length:Int) < (X.length:Int))=false:=by simp
     have R5:=qd (show vH wr (n0+1) (yG s).length (yG s) from by
      have h:=HI.o;rw[List.take_length,←HXX.o] at h;exact qG.tight h)
     have T5:=qd (yT HG.o (by omega) T4.o);have M5:=qd (yT HG.o (by omega) M4.o);have V5:=qd (qG.obj V4.o (HG.o.block (n0+1+1) (by omega) fun e=>by have:=Option.some.inj e;omega));have DV5:=qd (DV4.o.sameB fun k e=>HG.o.block k (by have:=(qj.lt DV4.o k e).2;omega) fun e2=>by have:=DVB.o k e;have:=Option.some.inj e2;omega);have HF5:=qd (HF4.o.keep (Nat.le_refl _) fun k h1 h2=>HG.o.block k (by omega) fun e=>by have:=Option.some.inj e;omega);have B15:=qd (B14.o.trans (grownBy.toBelow HG.o (K:=W1.heap.size) (by omega) (by omega)));have WC:=qd (MU s.id s.thread s.status s.beg s.fin s.tri (.slice ad s.deeds.length cd) s.deeds wr (qj.sl DV5.o) hnd);have y:=qa T5.o;have y0:=y 0;have y1:=y 1;have y2:=y 2;have y3:=y 3;have y4:=y 4;have y5:=y 5;have y6:=y 6;simp at y0 y1 y2 y3 y4 y5 y6;have yl:=qe T5.o;clear y HG HI;go_wp2_with fail;refine(WC.o).mono ?_;rintro e W6 ⟨vW,rfl,oW,b6⟩;obtain⟨Z,hZ⟩:∃Z,xX s.deeds=Z:=⟨_,rfl⟩
     rw[hZ] at oW;obtain⟨aW,cW,rfl⟩:=qj.sli oW;have hZl:Z.length<=400:=by rw[←hZ];exact Nat.le_trans (Yj _) hnd
     have HZo:=qd (fun(d:Dd) (hd:d ∈ Z)=>HDo.o d (uo (by rw[hZ];exact hd)));have HZZ:=qd hZ;have z6:=b6.size;have T6:=qd (qh T5.o b6 (by omega));have M6:=qd (qh M5.o b6 (by omega));have R6:=qd (R5.o.below b6 (by omega));have V6:=qd (V5.o.below b6 (by omega));have DV6:=qd (qj.below DV5.o b6);have HF6:=qd (HF5.o.below b6 (by omega) (Nat.le_refl _));have B16:=qd (B15.o.trans (b6.mono (by omega)));have OW:=qd oW;clear WC hZ oW b6 T5 M5 R5 V5 DV5 HF5 B15 T4 M4 V4 DV4 HF4 B14 R4 OR y0 y1 y2 y3 y4 y5 y6 yl;go_wp2_with fail
     go_loopw [67] (fun p wi=>∃(j n:Nat),j<=Z.length/\n<=j/\p=.int .i64 j/\vH wi (n0+1+1) n ((Z.take j).foldl (fun m d=>upd d.obj d.val m) [])/\W6.grownBy wi (some (n0+1+1))) (fun p _=>Z.length - (intOf p).toNat)
     case atStart=>exact⟨0,0,by omega,by omega,by go_num,V6.o,grownBy.refl _ _⟩
     case round=>
      obtain⟨j,n,hj,hn,rfl,hI,hg⟩:=hrel;have hzg:=hg.size;have HI:=qd hI;have HG:=qd hg;clear hI hg;by_cases hlt2:j < Z.length
      ·obtain ⟨b2,off2,d,hq2,hb2,hdj,hc2⟩:=(qj.sl OW.o).atF Dd.len rfl hlt2
       subst hq2;have hb3:=(qj.lt OW.o b2 rfl).1;have HTJ:=qd (show Z.take (j+1)=Z.take j++[d] from zk hdj);have hdo:=HZo.o d (List.mem_of_getElem? hdj);have HDm:=qd (zo (g:=Dd.val) (X:=Z.take j) (M:=[]) (fun _ h=>by cases h) fun x hx=>HZo.o x (List.mem_of_mem_take hx));have HSr:=qd (uJ (g:=Dd.val) (X:=Z.take j) (M:=[]) List.Pairwise.nil);obtain⟨ob,op,ke,va,re,go,at_,ba⟩:=d;simp only at hdo;have HDO:=qd hdo;have c0:wr.cell? ⟨b2,off2+j*8,none⟩=some (.int .i64 ob):=xd HG.o hb2 (by omega) (hc2 0 (by decide));have c1:wr.cell? ⟨b2,off2+j*8+1,none⟩=some (.int .i64 op):=xd HG.o hb2 (by omega) (hc2 1 (by decide));have c2:wr.cell? ⟨b2,off2+j*8+2,none⟩=some (.int .i64 ke):=xd HG.o hb2 (by omega) (hc2 2 (by decide));have c3:wr.cell? ⟨b2,off2+j*8+3,none⟩=some (.int .i64 va):=xd HG.o hb2 (by omega) (hc2 3 (by decide));have c4:wr.cell? ⟨b2,off2+j*8+4,none⟩=some (.int .i64 re):=xd HG.o hb2 (by omega) (hc2 4 (by decide));have c5:wr.cell? ⟨b2,off2+j*8+5,none⟩=some (.int .i64 go):=xd HG.o hb2 (by omega) (hc2 5 (by decide));have c6:wr.cell? ⟨b2,off2+j*8+6,none⟩=some (.int .i64 at_):=xd HG.o hb2 (by omega) (hc2 6 (by decide));have c7:wr.cell? ⟨b2,off2+j*8+7,none⟩=some (.int .i64 ba):=xd HG.o hb2 (by omega) (hc2 7 (by decide));have hbw:b2 < wr.heap.size:=by omega
       have G5:=qd (show W6.grownBy (wr.alloc (.cells #[.int .i64 ob,.int .i64 op,.int .i64 ke,.int .i64 va,.int .i64 re,.int .i64 go,.int .i64 at_,.int .i64 ba] 112)) (some (n0+1+1)) from grownBy.below HG.o ((Below.refl _ wr).alloc (Nat.le_refl _) _));have I5:=qd (HI.o.alloc (.cells #[.int .i64 ob,.int .i64 op,.int .i64 ke,.int .i64 va,.int .i64 re,.int .i64 go,.int .i64 at_,.int .i64 ba] 112));have r5:=qs wr (.cells #[.int .i64 ob,.int .i64 op,.int .i64 ke,.int .i64 va,.int .i64 re,.int .i64 go,.int .i64 at_,.int .i64 ba] 112);have m5:=yT G5.o (by omega) M6.o;clear hc2 hdj hdo;go_wp2_with fail;have hz5:(wr.alloc (.cells #[.int .i64 ob,.int .i64 op,.int .i64 ke,.int .i64 va,.int .i64 re,.int .i64 go,.int .i64 at_,.int .i64 ba] 112)).heap.size=wr.heap.size+1:=by simp
       generalize wr.alloc (.cells #[.int .i64 ob,.int .i64 op,.int .i64 ke,.int .i64 va,.int .i64 re,.int .i64 go,.int .i64 at_,.int .i64 ba] 112)=W5 at *;clear c0 c1 c2 c3 c4 c5 c6 c7;have y:=qa r5;have y0:=y 0;have y3:=y 3;have ym:=qa m5 8;simp at y0 y3 ym;have yl:=qe r5;have yml:=qe m5;clear y r5 m5 hz5;obtain⟨F,hF⟩:∃F,(Z.take j).foldl (fun m d=>upd d.obj d.val m) []=F:=⟨_,rfl⟩
       rw[hF] at I5 HDm HSr;have HFF:=qd hF;clear hF;refine qD (W5.heap.size) [0,0,0,1,0,1,0,1,2] (.fin [0,1,2,3,4,5,6,7,8]) (by kernel_rfl) ?_;simp only[xC,qJ,qu,sD,sE,sF,sG]
       repeat first|(refine qq fun K hK=>?_;go_simp;refine hK _ _ ?_;clear hK K)|(apply qx;(intro w2 hw2;have hk1:=hw2.cell;have hk3:=hw2.1;clear hw2;go_simp;with_reducible rfl);simp only[Act.put,sA,sB,sC])
       refine qF (fun K hK=>?_);refine(qG.drew I5.o).wp_store zm yK HDm.o HSr.o Tryz.underlying138 (v:=va) (by unfold maxLen;omega) HDO.o rfl (by rfl) (by rfl) (by rfl) ?_;intro w6 h6 t6;refine hK _ _ ?_;clear hK K;have I6:=qd h6;have G6:=qd (show W6.grownBy w6 (some (n0+1+1)) from grownBy.turned (w1:=W5.drew) (grownBy.drew G5.o) t6);clear h6 t6
       repeat refine qm ?_
       go_wp2_with fail;go_roundw
       case rel=>exact⟨j+1,n+1,by omega,by omega,by go_num,by rw[HTJ.o,List.foldl_append,HFF.o];exact I6.o,G6.o⟩
       case measure=>simp[intOf];omega
      ·obtain rfl:j=Z.length:=by omega
       have hq:decide ((Z.length:Int) < (Z.length:Int))=false:=by simp
       have V7:=qd (show vH wr (n0+1+1) (zb s).length (zb s) from by
        have h:=HI.o;rw[List.take_length,←HZZ.o] at h;exact qG.tight h)
       have T7:=qd (yT HG.o (by omega) T6.o);have M7:=qd (yT HG.o (by omega) M6.o);have R7:=qd (qG.obj R6.o (HG.o.block (n0+1) (by omega) fun e=>by have:=Option.some.inj e;omega));have DV7:=qd (DV6.o.sameB fun k e=>HG.o.block k (by have:=(qj.lt DV6.o k e).2;omega) fun e2=>by have:=DVB.o k e;have:=Option.some.inj e2;omega);have HF7:=qd (HF6.o.keep (Nat.le_refl _) fun k h1 h2=>HG.o.block k (by omega) fun e=>by have:=Option.some.inj e;omega);have B17:=qd (B16.o.trans (grownBy.toBelow HG.o (K:=W1.heap.size) (by omega) (by omega)));have y:=qa T7.o;have y2:=y 2;have ym:=qa M7.o;have ym8:=ym 8;have ym9:=ym 9;have ym10:=ym 10;simp at y2 ym8 ym9 ym10;have yl:=qe T7.o;have yml:=qe M7.o;have yf:=fun i=>qt M7.o i;clear y ym HG HI T6 M6 V6 R6 DV6 HF6 B16 OW;by_cases h3:s.status=3
       ·have q3:(s.status==3)=true:=by simpa using h3
        have HS3:=qd h3;have HMY:=qd (show Jv s=true by simp[Jv,h3]);clear h3;have hne8:∀k,k≠n0+1+1+1->((wr.setCell ⟨n0+1+1+1,10,none⟩ (.bool true)).setCell ⟨n0+1+1+1,9,none⟩ (.bool true)).heap[k]?=wr.heap[k]?:=fun k hk=>by
         rw[RowKit.Below.heap_setCell _ _ _ _ hk,RowKit.Below.heap_setCell _ _ _ _ hk]
        have M8:=qd (show((wr.setCell ⟨n0+1+1+1,10,none⟩ (.bool true)).setCell ⟨n0+1+1+1,9,none⟩ (.bool true)).heap[n0+1+1+1]?=some (.cells #[.int .i64 s.id,.int .i64 s.thread,.int .i64 s.status,.int .i64 s.beg,.int .i64 s.fin,.int .i64 s.tri,.slice ad s.deeds.length cd,.map (some (n0+1)),.map (some (n0+1+1)),.bool true,.bool true] 140 (0,0)) by
         have:=qn (qn M7.o 10 (.bool true)) 9 (.bool true);simpa using this)
        have R8:=qd (qG.obj R7.o (hne8 (n0+1) (by omega)));have V8:=qd (qG.obj V7.o (hne8 (n0+1+1) (by omega)));have DV8:=qd (DV7.o.sameB fun k e=>hne8 k (by have:=DVB.o k e;omega));have HF8:=qd (HF7.o.keep (Nat.le_refl _) fun k h1 h2=>hne8 k (by omega));have B18:=qd ((B17.o.setCell (p:=⟨n0+1+1+1,10,none⟩) (show W1.heap.size<=n0+1+1+1 by omega) (.bool true)).setCell (p:=⟨n0+1+1+1,9,none⟩) (show W1.heap.size<=n0+1+1+1 by omega) (.bool true));have hz8:wr.heap.size<=((wr.setCell ⟨n0+1+1+1,10,none⟩ (.bool true)).setCell ⟨n0+1+1+1,9,none⟩ (.bool true)).heap.size:=by simp
        have MA8:=qd (show JB ((wr.setCell ⟨n0+1+1+1,10,none⟩ (.bool true)).setCell ⟨n0+1+1+1,9,none⟩ (.bool true)) w.heap.size (n0+1+1+1+1) ⟨n0+1+1+1,n0+1,n0+1+1,.slice ad s.deeds.length cd⟩ s true true from⟨M8.o,qj.base DV8.o (by omega),fun k e=>by have:=DVB.o k e;omega,R8.o,V8.o,by simp only;omega⟩);clear hne8 M7 R7 V7 DV7 HF7 B17;have HDW:=qd (zo (g:=Dd.val) (X:=xX s.deeds) (M:=[]) (fun _ h=>by cases h) fun x hx=>HDo.o x (uo hx):yE dI (zb s));have HSW:=qd (Qe s);have HVW:=qd (fun(x u:Int) (h:(x,u) ∈ zb s)=>(show dI x/\dI u from⟨HDW.o _ h,HVu.o x u h⟩));go_wp2_with (at_range;refine qH.halt ?_)
        refine qH.go ?_;generalize ((wr.setCell ⟨n0+1+1+1,10,none⟩ (.bool true)).setCell ⟨n0+1+1+1,9,none⟩ (.bool true))=W8 at *;refine V8.o.wpList_range zm HDW.o HSW.o Tryz.underlying138 rfl rfl (by rfl) ?_;intro Y hrg hg hz;have HG:=qd hrg;have HY0:=qd (show W8.grownBy Y (some W1.heap.size) from⟨hg.os,hg.tape,hg.output,hg.size,fun k hk _=>hg.block k hk (by simp)⟩);have RB:=qd (HF8.o.by_.obj (hg.block W1.heap.size (by omega) (by simp)));have hzY:W8.heap.size < Y.heap.size:=by omega
        clear hrg hg hz ym8 ym9 ym10 yml yf y2 yl;go_wp2_with fail
        go_frame
        go_loopg [16] (zb s).length (fun kk _ wq=>∃(S:Int->Bool) (Mb:Ck->Option Value),RngI wq (n0+1+1) W8.heap.size (zb s) S kk/\yM YG wq W1.heap.size Mb/\(∀c:Ck,Mb c=if fnd c.1.1 (zb s)=some c.1.2/\S c.1.1=false then some (xE (n0+1+1+1)) else Jz (A.take k) ms c)/\W8.grownBy wq (some W1.heap.size)/\W8.heap.size < wq.heap.size)
        case atStart=>exact⟨_,_,HG.o,RB.o,fun c=>by simp,HY0.o,hzY⟩
        case round=>
         obtain⟨S,Mb,hrg,hmb,hmc,hgr,hzq⟩:=hrel;have HG:=qd hrg;have HMb:=qd hmb;have HMc:=qd hmc;have HGR:=qd hgr;clear hrg hmb hmc hgr RB HY0 hzY;go_wp2_with (at_next;refine qH.halt ?_)
         refine qH.go ?_;refine HG.o.wpList_next zm yK HDW.o HSW.o rfl rfl (by rfl) ?_ ?_
         ·intro hd
          have HF9:=qd (show wr.heap[W1.heap.size+1]?=_/\qj xz.cells 133 1 wr w.heap.size (.slice al ms.length cl) ms from⟨yT HGR.o (by omega) HF8.o.row,HF8.o.lst.sameB fun j e=>HGR.o.block j (by have:=HF8.o.lstb j e;omega) fun e2=>qj.neM HF8.o.lst HF8.o.by_.isMap (e.trans (congrArg some (Option.some.inj e2)))⟩);have LVB:=qd (fun j (e:(Value.slice al ms.length cl).ownBlock=some j)=>HLB.o j e);have RWA:=qd (fun(c:Ck)=>(show Mb c=Jz (A.take k++[s]) (ms++[⟨n0+1+1+1,n0+1,n0+1+1,.slice ad s.deeds.length cd⟩]) c by
           rw[ZZ _ _ _ _ HF8.o.len,HMc.o c];by_cases h:fnd c.1.1 (zb s)=some c.1.2
           ·rw [if_pos ⟨h,hd _ ((fnd_some HSW.o).1 h)⟩,if_pos ⟨HMY.o,h⟩]
           ·rw [if_neg fun h2=>h h2.1,if_neg fun h2=>h h2.2]))
          have BX:=qd (B18.o.trans (grownBy.toBelow HGR.o (K:=W1.heap.size) (Nat.le_refl _) (by omega)));clear hd HG HMc;have rp:=HF9.o.1;have HL9:=qd HF9.o.2;have hpl:=qe rp;have hml:ms.length<=400:=by have:=HF8.o.len;rw[List.length_take] at this;have:=HD.o.len;omega
          have yp:=qa rp;have yp3:=yp 3;simp at yp3;have HZ9:=qd (show w.heap.size<=wr.heap.size by omega);clear yp rp;go_wp2_with (at_builtin;refine qM rfl _ _ _ rfl _ 8 Tryz.underlying131 Vc rfl HL9.o (⟨n0+1+1+1,n0+1,n0+1+1,.slice ad s.deeds.length cd⟩:xz) HZ9.o (by rfl) (by rfl) (by first|rfl|simp) rfl (UT _) (by first|omega|(simp only[List.length_append,List.length_cons,List.length_nil,List.length_replicate];omega)) (by first|omega|(simp only[List.length_append,List.length_cons,List.length_nil,List.length_replicate];omega)) ?_;refine qH.halt ?_)
          refine qH.go ?_;intro g9 c9 w9 o9 G9;have o9:qj xz.cells 133 1 w9 w.heap.size (.slice (some ⟨g9,0,none⟩) (ms.length+1) c9) (ms++[⟨n0+1+1+1,n0+1,n0+1+1,.slice ad s.deeds.length cd⟩]):=o9;have r9:w9.heap[W1.heap.size+1]?=some _:=qS HF9.o.1 G9 (qj.neT HF9.o.2 HF9.o.1 (by decide));have z9:=G9.size;have yp:=qa r9;have yq3:=yp 3;simp at yq3;have yqf:=qt r9 3;have yql:=qe r9;have FA:=qd (xN.add (x:=true) HF8.o rfl MA8.o (by omega) (by omega) (by simp only;omega) HGR.o HMb.o RWA.o G9 o9);have BA:=qd ((BX.o.trans (G9.below (B:=W1.heap.size) (by omega) fun j hj=>LVB.o j hj)).setCell (p:=⟨W1.heap.size+1,3,none⟩) (show W1.heap.size<=W1.heap.size+1 by omega) (.slice (some ⟨g9,0,none⟩) (ms.length+1) c9));have LB9:=qd (fun j (e:(Value.slice (some ⟨g9,0,none⟩) (ms.length+1) c9).ownBlock=some j)=>(show W1.heap.size<=j from by
           rcases G9.own j e with h|h
           ·exact LVB.o j h
           ·omega))
          clear yp r9 o9 G9;go_wp2_with fail;go_roundw
          case rel=>
           refine⟨k+1,ms++[⟨n0+1+1+1,n0+1,n0+1+1,.slice ad s.deeds.length cd⟩],.slice (some ⟨g9,0,none⟩) (ms.length+1) c9,by omega,by go_num,?_,LB9.o,BA.o⟩;rw[HTK.o,vX,show decide (s.status=3)=true from by simp[HS3.o]];have:=FA.o;simpa using this
          case measure=>simp[intOf];omega
         ·intro x u w3 k3 hxm hS hrg3 hlt3 hg3 hz3 hen
          have hdx:=HVW.o x u hxm;have hMb3:=HMb.o.obj (hg3.block W1.heap.size (by omega) fun e=>by have:=Option.some.inj e;omega);have HG3:=qd hrg3;have HX3:=qd ((fnd_some HSW.o).2 hxm);have HGR3:=qd (show W8.grownBy w3 (some W1.heap.size) from⟨hg3.os.trans HGR.o.os,hg3.tape.trans HGR.o.tape,hg3.output.trans HGR.o.output,by omega,fun k hk hq=>(hg3.block k (by omega) fun e=>by have:=Option.some.inj e;omega).trans (HGR.o.block k hk hq)⟩);have r3:=yT HGR3.o (by omega) HF8.o.row;have yq:=qa r3 4;simp at yq;have yql:=qe r3;clear hrg3 hg3 r3 HG HGR;go_wp2_with (at_mapUpdate;refine qH.halt ?_)
          refine qH.go ?_;refine hMb3.wpList_store ck Tryz.underlying135 (a:=YH x u hdx) (v:=.pointer (some ⟨n0+1+1+1,0,none⟩)) rfl rfl (by rfl) (by rfl) (by rfl) ?_;intro w4 hM4 t4;have z4:=qP t4;have HG4:=qd (HG3.o.obj (qA t4 (by omega)) (qA t4 (by omega)));have HM4:=qd hM4;have HGR4:=qd (grownBy.turned HGR3.o t4);clear t4 hM4 hMb3;go_wp2_with fail
          go_roundg k3
          case measure=>exact hlt3
          case rel=>
           refine⟨_,_,HG4.o,HM4.o,fun c=>?_,HGR4.o,by omega⟩;by_cases e:c=YH x u hdx
           ·subst e
            rw[uK,jv,if_pos ⟨HX3.o,by simp⟩];rfl
           ·rw [Xg e,HMc.o c]
            by_cases e1:c.1.1=x
            ·have e2:¬fnd c.1.1 (zb s)=some c.1.2:=fun h=>by
              rw[e1,HX3.o] at h;exact e (Subtype.ext (Prod.ext e1 (Option.some.inj h).symm))
             rw[if_neg fun h=>e2 h.1,if_neg fun h=>e2 h.1]
            ·have e3:(c.1.1==x)=false:=by simpa using e1
             simp[e3]
       ·have q3:(s.status==3)=false:=by simpa using h3
        have HS3:=qd h3;obtain⟨yb,hyb⟩:∃yb:Bool,(lev==3)=yb:=⟨_,rfl⟩
        have HYB:=qd (show yb=(false||decide (lev=3)) by rw[←hyb];simp;rfl);by_cases h2:s.status=2
        ·have q2:(s.status==2)=true:=by simpa using h2
         have HMY:=qd (show Jv s=true by simp[Jv,h2]);clear h3 h2;have hne8:∀k,k≠n0+1+1+1->((wr.setCell ⟨n0+1+1+1,10,none⟩ (.bool false)).setCell ⟨n0+1+1+1,9,none⟩ (.bool yb)).heap[k]?=wr.heap[k]?:=fun k hk=>by
          rw[RowKit.Below.heap_setCell _ _ _ _ hk,RowKit.Below.heap_setCell _ _ _ _ hk]
         have M8:=qd (show((wr.setCell ⟨n0+1+1+1,10,none⟩ (.bool false)).setCell ⟨n0+1+1+1,9,none⟩ (.bool yb)).heap[n0+1+1+1]?=some (.cells #[.int .i64 s.id,.int .i64 s.thread,.int .i64 s.status,.int .i64 s.beg,.int .i64 s.fin,.int .i64 s.tri,.slice ad s.deeds.length cd,.map (some (n0+1)),.map (some (n0+1+1)),.bool yb,.bool false] 140 (0,0)) by
          have:=qn (qn M7.o 10 (.bool false)) 9 (.bool yb);simpa using this)
         have R8:=qd (qG.obj R7.o (hne8 (n0+1) (by omega)));have V8:=qd (qG.obj V7.o (hne8 (n0+1+1) (by omega)));have DV8:=qd (DV7.o.sameB fun k e=>hne8 k (by have:=DVB.o k e;omega));have HF8:=qd (HF7.o.keep (Nat.le_refl _) fun k h1 h2=>hne8 k (by omega));have B18:=qd ((B17.o.setCell (p:=⟨n0+1+1+1,10,none⟩) (show W1.heap.size<=n0+1+1+1 by omega) (.bool false)).setCell (p:=⟨n0+1+1+1,9,none⟩) (show W1.heap.size<=n0+1+1+1 by omega) (.bool yb));have hz8:wr.heap.size<=((wr.setCell ⟨n0+1+1+1,10,none⟩ (.bool false)).setCell ⟨n0+1+1+1,9,none⟩ (.bool yb)).heap.size:=by simp
         have MA8:=qd (show JB ((wr.setCell ⟨n0+1+1+1,10,none⟩ (.bool false)).setCell ⟨n0+1+1+1,9,none⟩ (.bool yb)) w.heap.size (n0+1+1+1+1) ⟨n0+1+1+1,n0+1,n0+1+1,.slice ad s.deeds.length cd⟩ s yb false from⟨M8.o,qj.base DV8.o (by omega),fun k e=>by have:=DVB.o k e;omega,R8.o,V8.o,by simp only;omega⟩);clear hne8 M7 R7 V7 DV7 HF7 B17;have HDW:=qd (zo (g:=Dd.val) (X:=xX s.deeds) (M:=[]) (fun _ h=>by cases h) fun x hx=>HDo.o x (uo hx):yE dI (zb s));have HSW:=qd (Qe s);have HVW:=qd (fun(x u:Int) (h:(x,u) ∈ zb s)=>(show dI x/\dI u from⟨HDW.o _ h,HVu.o x u h⟩));go_wp2_with (at_range;refine qH.halt ?_)
         refine qH.go ?_;generalize ((wr.setCell ⟨n0+1+1+1,10,none⟩ (.bool false)).setCell ⟨n0+1+1+1,9,none⟩ (.bool yb))=W8 at *;refine V8.o.wpList_range zm HDW.o HSW.o Tryz.underlying138 rfl rfl (by rfl) ?_;intro Y hrg hg hz;have HG:=qd hrg;have HY0:=qd (show W8.grownBy Y (some W1.heap.size) from⟨hg.os,hg.tape,hg.output,hg.size,fun k hk _=>hg.block k hk (by simp)⟩);have RB:=qd (HF8.o.by_.obj (hg.block W1.heap.size (by omega) (by simp)));have hzY:W8.heap.size < Y.heap.size:=by omega
         clear hrg hg hz ym8 ym9 ym10 yml yf y2 yl;go_wp2_with fail
         go_frame
         go_loopg [16] (zb s).length (fun kk _ wq=>∃(S:Int->Bool) (Mb:Ck->Option Value),RngI wq (n0+1+1) W8.heap.size (zb s) S kk/\yM YG wq W1.heap.size Mb/\(∀c:Ck,Mb c=if fnd c.1.1 (zb s)=some c.1.2/\S c.1.1=false then some (xE (n0+1+1+1)) else Jz (A.take k) ms c)/\W8.grownBy wq (some W1.heap.size)/\W8.heap.size < wq.heap.size)
         case atStart=>exact⟨_,_,HG.o,RB.o,fun c=>by simp,HY0.o,hzY⟩
         case round=>
          obtain⟨S,Mb,hrg,hmb,hmc,hgr,hzq⟩:=hrel;have HG:=qd hrg;have HMb:=qd hmb;have HMc:=qd hmc;have HGR:=qd hgr;clear hrg hmb hmc hgr RB HY0 hzY;go_wp2_with (at_next;refine qH.halt ?_)
          refine qH.go ?_;refine HG.o.wpList_next zm yK HDW.o HSW.o rfl rfl (by rfl) ?_ ?_
          ·intro hd
           have HF9:=qd (show wr.heap[W1.heap.size+1]?=_/\qj xz.cells 133 1 wr w.heap.size (.slice al ms.length cl) ms from⟨yT HGR.o (by omega) HF8.o.row,HF8.o.lst.sameB fun j e=>HGR.o.block j (by have:=HF8.o.lstb j e;omega) fun e2=>qj.neM HF8.o.lst HF8.o.by_.isMap (e.trans (congrArg some (Option.some.inj e2)))⟩);have LVB:=qd (fun j (e:(Value.slice al ms.length cl).ownBlock=some j)=>HLB.o j e);have RWA:=qd (fun(c:Ck)=>(show Mb c=Jz (A.take k++[s]) (ms++[⟨n0+1+1+1,n0+1,n0+1+1,.slice ad s.deeds.length cd⟩]) c by
            rw[ZZ _ _ _ _ HF8.o.len,HMc.o c];by_cases h:fnd c.1.1 (zb s)=some c.1.2
            ·rw [if_pos ⟨h,hd _ ((fnd_some HSW.o).1 h)⟩,if_pos ⟨HMY.o,h⟩]
            ·rw [if_neg fun h2=>h h2.1,if_neg fun h2=>h h2.2]))
           have BX:=qd (B18.o.trans (grownBy.toBelow HGR.o (K:=W1.heap.size) (Nat.le_refl _) (by omega)));clear hd HG HMc;have rp:=HF9.o.1;have HL9:=qd HF9.o.2;have hpl:=qe rp;have hml:ms.length<=400:=by have:=HF8.o.len;rw[List.length_take] at this;have:=HD.o.len;omega
           have yp:=qa rp;have yp3:=yp 3;simp at yp3;have HZ9:=qd (show w.heap.size<=wr.heap.size by omega);clear yp rp;go_wp2_with (at_builtin;refine qM rfl _ _ _ rfl _ 8 Tryz.underlying131 Vc rfl HL9.o (⟨n0+1+1+1,n0+1,n0+1+1,.slice ad s.deeds.length cd⟩:xz) HZ9.o (by rfl) (by rfl) (by first|rfl|simp) rfl (UT _) (by first|omega|(simp only[List.length_append,List.length_cons,List.length_nil,List.length_replicate];omega)) (by first|omega|(simp only[List.length_append,List.length_cons,List.length_nil,List.length_replicate];omega)) ?_;refine qH.halt ?_)
           refine qH.go ?_;intro g9 c9 w9 o9 G9;have o9:qj xz.cells 133 1 w9 w.heap.size (.slice (some ⟨g9,0,none⟩) (ms.length+1) c9) (ms++[⟨n0+1+1+1,n0+1,n0+1+1,.slice ad s.deeds.length cd⟩]):=o9;have r9:w9.heap[W1.heap.size+1]?=some _:=qS HF9.o.1 G9 (qj.neT HF9.o.2 HF9.o.1 (by decide));have z9:=G9.size;have yp:=qa r9;have yq3:=yp 3;simp at yq3;have yqf:=qt r9 3;have yql:=qe r9;have FA:=qd (xN.add (x:=false) HF8.o HYB.o MA8.o (by omega) (by omega) (by simp only;omega) HGR.o HMb.o RWA.o G9 o9);have BA:=qd ((BX.o.trans (G9.below (B:=W1.heap.size) (by omega) fun j hj=>LVB.o j hj)).setCell (p:=⟨W1.heap.size+1,3,none⟩) (show W1.heap.size<=W1.heap.size+1 by omega) (.slice (some ⟨g9,0,none⟩) (ms.length+1) c9));have LB9:=qd (fun j (e:(Value.slice (some ⟨g9,0,none⟩) (ms.length+1) c9).ownBlock=some j)=>(show W1.heap.size<=j from by
            rcases G9.own j e with h|h
            ·exact LVB.o j h
            ·omega))
           clear yp r9 o9 G9;go_wp2_with fail;go_roundw
           case rel=>
            refine⟨k+1,ms++[⟨n0+1+1+1,n0+1,n0+1+1,.slice ad s.deeds.length cd⟩],.slice (some ⟨g9,0,none⟩) (ms.length+1) c9,by omega,by go_num,?_,LB9.o,BA.o⟩;rw[HTK.o,vX,show decide (s.status=3)=false from by simp[HS3.o]];have:=FA.o;simpa using this
           case measure=>simp[intOf];omega
          ·intro x u w3 k3 hxm hS hrg3 hlt3 hg3 hz3 hen
           have hdx:=HVW.o x u hxm;have hMb3:=HMb.o.obj (hg3.block W1.heap.size (by omega) fun e=>by have:=Option.some.inj e;omega);have HG3:=qd hrg3;have HX3:=qd ((fnd_some HSW.o).2 hxm);have HGR3:=qd (show W8.grownBy w3 (some W1.heap.size) from⟨hg3.os.trans HGR.o.os,hg3.tape.trans HGR.o.tape,hg3.output.trans HGR.o.output,by omega,fun k hk hq=>(hg3.block k (by omega) fun e=>by have:=Option.some.inj e;omega).trans (HGR.o.block k hk hq)⟩);have r3:=yT HGR3.o (by omega) HF8.o.row;have yq:=qa r3 4;simp at yq;have yql:=qe r3;clear hrg3 hg3 r3 HG HGR;go_wp2_with (at_mapUpdate;refine qH.halt ?_)
           refine qH.go ?_;refine hMb3.wpList_store ck Tryz.underlying135 (a:=YH x u hdx) (v:=.pointer (some ⟨n0+1+1+1,0,none⟩)) rfl rfl (by rfl) (by rfl) (by rfl) ?_;intro w4 hM4 t4;have z4:=qP t4;have HG4:=qd (HG3.o.obj (qA t4 (by omega)) (qA t4 (by omega)));have HM4:=qd hM4;have HGR4:=qd (grownBy.turned HGR3.o t4);clear t4 hM4 hMb3;go_wp2_with fail
           go_roundg k3
           case measure=>exact hlt3
           case rel=>
            refine⟨_,_,HG4.o,HM4.o,fun c=>?_,HGR4.o,by omega⟩;by_cases e:c=YH x u hdx
            ·subst e
             rw[uK,jv,if_pos ⟨HX3.o,by simp⟩];rfl
            ·rw [Xg e,HMc.o c]
             by_cases e1:c.1.1=x
             ·have e2:¬fnd c.1.1 (zb s)=some c.1.2:=fun h=>by
               rw[e1,HX3.o] at h;exact e (Subtype.ext (Prod.ext e1 (Option.some.inj h).symm))
              rw[if_neg fun h=>e2 h.1,if_neg fun h=>e2 h.1]
             ·have e3:(c.1.1==x)=false:=by simpa using e1
              simp[e3]
        ·have q2:(s.status==2)=false:=by simpa using h2
         have HMN:=qd (show Jv s=false by simp[Jv,h2,h3]);clear h3 h2;have hne8:∀k,k≠n0+1+1+1->((wr.setCell ⟨n0+1+1+1,10,none⟩ (.bool false)).setCell ⟨n0+1+1+1,9,none⟩ (.bool yb)).heap[k]?=wr.heap[k]?:=fun k hk=>by
          rw[RowKit.Below.heap_setCell _ _ _ _ hk,RowKit.Below.heap_setCell _ _ _ _ hk]
         have M8:=qd (show((wr.setCell ⟨n0+1+1+1,10,none⟩ (.bool false)).setCell ⟨n0+1+1+1,9,none⟩ (.bool yb)).heap[n0+1+1+1]?=some (.cells #[.int .i64 s.id,.int .i64 s.thread,.int .i64 s.status,.int .i64 s.beg,.int .i64 s.fin,.int .i64 s.tri,.slice ad s.deeds.length cd,.map (some (n0+1)),.map (some (n0+1+1)),.bool yb,.bool false] 140 (0,0)) by
          have:=qn (qn M7.o 10 (.bool false)) 9 (.bool yb);simpa using this)
         have R8:=qd (qG.obj R7.o (hne8 (n0+1) (by omega)));have V8:=qd (qG.obj V7.o (hne8 (n0+1+1) (by omega)));have DV8:=qd (DV7.o.sameB fun k e=>hne8 k (by have:=DVB.o k e;omega));have HF8:=qd (HF7.o.keep (Nat.le_refl _) fun k h1 h2=>hne8 k (by omega));have B18:=qd ((B17.o.setCell (p:=⟨n0+1+1+1,10,none⟩) (show W1.heap.size<=n0+1+1+1 by omega) (.bool false)).setCell (p:=⟨n0+1+1+1,9,none⟩) (show W1.heap.size<=n0+1+1+1 by omega) (.bool yb));have hz8:wr.heap.size<=((wr.setCell ⟨n0+1+1+1,10,none⟩ (.bool false)).setCell ⟨n0+1+1+1,9,none⟩ (.bool yb)).heap.size:=by simp
         have MA8:=qd (show JB ((wr.setCell ⟨n0+1+1+1,10,none⟩ (.bool false)).setCell ⟨n0+1+1+1,9,none⟩ (.bool yb)) w.heap.size (n0+1+1+1+1) ⟨n0+1+1+1,n0+1,n0+1+1,.slice ad s.deeds.length cd⟩ s yb false from⟨M8.o,qj.base DV8.o (by omega),fun k e=>by have:=DVB.o k e;omega,R8.o,V8.o,by simp only;omega⟩);clear hne8 M7 R7 V7 DV7 HF7 B17;have HF9:=qd (show _/\_ from⟨HF8.o.row,HF8.o.lst⟩);have LVB:=qd (fun j (e:(Value.slice al ms.length cl).ownBlock=some j)=>HLB.o j e);have RWA:=qd (fun(c:Ck)=>(show Jz (A.take k) ms c=Jz (A.take k++[s]) (ms++[⟨n0+1+1+1,n0+1,n0+1+1,.slice ad s.deeds.length cd⟩]) c by
          rw[ZZ _ _ _ _ HF8.o.len,if_neg fun h=>by rw[HMN.o] at h;cases h.1]))
         have BX:=qd B18.o;have rp:=HF9.o.1;have HL9:=qd HF9.o.2;have hpl:=qe rp;have hml:ms.length<=400:=by have:=HF8.o.len;rw[List.length_take] at this;have:=HD.o.len;omega
         have yp:=qa rp;have yp3:=yp 3;simp at yp3;have HZ9:=qd (show w.heap.size<=((wr.setCell ⟨n0+1+1+1,10,none⟩ (.bool false)).setCell ⟨n0+1+1+1,9,none⟩ (.bool yb)).heap.size by omega);clear yp rp;go_wp2_with (at_builtin;refine qM rfl _ _ _ rfl _ 8 Tryz.underlying131 Vc rfl HL9.o (⟨n0+1+1+1,n0+1,n0+1+1,.slice ad s.deeds.length cd⟩:xz) HZ9.o (by rfl) (by rfl) (by first|rfl|simp) rfl (UT _) (by first|omega|(simp only[List.length_append,List.length_cons,List.length_nil,List.length_replicate];omega)) (by first|omega|(simp only[List.length_append,List.length_cons,List.length_nil,List.length_replicate];omega)) ?_;refine qH.halt ?_)
         refine qH.go ?_;intro g9 c9 w9 o9 G9;have o9:qj xz.cells 133 1 w9 w.heap.size (.slice (some ⟨g9,0,none⟩) (ms.length+1) c9) (ms++[⟨n0+1+1+1,n0+1,n0+1+1,.slice ad s.deeds.length cd⟩]):=o9;have r9:w9.heap[W1.heap.size+1]?=some _:=qS HF9.o.1 G9 (qj.neT HF9.o.2 HF9.o.1 (by decide));have z9:=G9.size;have yp:=qa r9;have yq3:=yp 3;simp at yq3;have yqf:=qt r9 3;have yql:=qe r9;have FA:=qd (xN.add (x:=false) HF8.o HYB.o MA8.o (by omega) (by omega) (by simp only;omega) (grownBy.refl _ _) HF8.o.by_ RWA.o G9 o9);have BA:=qd ((BX.o.trans (G9.below (B:=W1.heap.size) (by omega) fun j hj=>LVB.o j hj)).setCell (p:=⟨W1.heap.size+1,3,none⟩) (show W1.heap.size<=W1.heap.size+1 by omega) (.slice (some ⟨g9,0,none⟩) (ms.length+1) c9));have LB9:=qd (fun j (e:(Value.slice (some ⟨g9,0,none⟩) (ms.length+1) c9).ownBlock=some j)=>(show W1.heap.size<=j from by
          rcases G9.own j e with h|h
          ·exact LVB.o j h
          ·omega))
         clear yp r9 o9 G9;go_wp2_with fail;go_roundw
         case rel=>
          refine⟨k+1,ms++[⟨n0+1+1+1,n0+1,n0+1+1,.slice ad s.deeds.length cd⟩],.slice (some ⟨g9,0,none⟩) (ms.length+1) c9,by omega,by go_num,?_,LB9.o,BA.o⟩;rw[HTK.o,vX,show decide (s.status=3)=false from by simp[HS3.o]];have:=FA.o;simpa using this
         case measure=>simp[intOf];omega
  ·obtain rfl:k=rs.length:=by omega
   have hkl:=HRL.o;have HFA:=qd (show xN wr w.heap.size wr.heap.size (W1.heap.size+1) W1.heap.size lev (.slice ao no co) (.slice av nv cv) ms (.slice al ms.length cl) A (zJ A) from by
    have h:=HF.o;rw[hkl,List.take_length] at h;exact h)
   have hq:decide ((rs.length:Int) < (rs.length:Int))=false:=by simp
   have hml:ms.length=A.length:=HFA.o.len;have hal:A.length<=400:=HD.o.len;have HIDo:=qd (fun(s:St) (hs:s ∈ A)=>YL s);have HRdo:=qd (fun(s:St) (hs:s ∈ A)=>(zo (g:=Dd.got) (X:=xt [] s.deeds) (M:=[]) (fun _ h=>by cases h) fun x hx=>HD.o.dobj hs (jp hx).1:yE dI (yG s)));have HRvo:=qd (fun(s:St) (hs:s ∈ A) (x u:Int) (h:(x,u) ∈ yG s)=>(show dI x/\dI u from⟨HRdo.o s hs _ h,by
    have h:=(fnd_some (YL s)).2 h;rw[Xl] at h;obtain⟨d,hd,-,e⟩:=(Uj h).resolve_right (by simp);rw[←e];exact(HD.o.val s hs d (jp hd).1).2⟩))
   have B0x:=qd HB.o;obtain⟨wx,hwx⟩:∃wx,wx=wr:=⟨_,rfl⟩
   rw[←hwx] at HFA B0x hszB;have hml4:ms.length<=400:=by omega
   have hlx:=qe HFA.o.row;have HML:=qd hml;clear hkl HF HB HLB hml;subst hwx;have hcl0:Yf (zJ A)<=A.length:=by have:=Vq (zJ A);rw[KJ] at this;exact this
   have BXX:=qd (B1.o.trans (B0x.o.mono (by omega)));go_wp2_with fail
   go_loopg [18] (2*(A.length - Yf (zJ A))+1) (fun kk q wr=>∃(more:Bool) (T:List Bool) (n:Nat),q=.bool more/\kk=2*(A.length - Yf T)+(if more=true then 1 else 0)/\T=YE lev A n (zJ A)/\n<=Yf T/\(more=false->Zm lev A T=T)/\xN wr w.heap.size wx.heap.size (W1.heap.size+1) W1.heap.size lev (.slice ao no co) (.slice av nv cv) ms (.slice al ms.length cl) A T/\Below w.heap.size w wr/\wx.heap.size<=wr.heap.size)
   case atStart=>exact⟨true,zJ A,0,rfl,by simp,rfl,by omega,(fun h=>by cases h),HFA.o,BXX.o,Nat.le_refl _⟩
   case round=>
    obtain⟨more,T,n,rfl,rfl,hT,hn,hfix,hF,hB,hszx⟩:=hrel;have hnT:=Vq T;rw[hF.tl] at hnT;have HT:=qd hT;have HFX:=qd hfix;have HF:=qd hF;have HB:=qd hB;clear hT hfix hF hB HFA BXX;cases more with
    |false=>
     have HP:=qd (HFX.o rfl);have HTk:=qd (MG HP.o (by omega) HT.o.symm);go_wp2_with fail;refine bodyPost_ret (v:=.tuple #[.pointer (some ⟨W1.heap.size+1,0,none⟩),.nilIface]) (by simp[results,Tryz.results31,go_sem]) rfl ?_;refine⟨W1.heap.size+1,W1.heap.size,ms,.slice al ms.length cl,rfl,?_,HB.o⟩;rw[HTk.o];exact HF.o.keep hszx fun _ _ _=>rfl
    |true=>
     have rp:=HF.o.row;have yp:=qa rp 3;simp at yp;have ypl:=qe rp;clear rp;go_wp2_with fail
     go_loopw [18,141] (fun q p wq=>∃(m':Bool) (i:Nat) (T':List Bool),q=.bool m'/\p=.int .i64 i/\i<=ms.length/\T'=(List.range i).foldl (JZ lev A) T/\(m'=false/\T'=T\/m'=true/\Yf T < Yf T')/\xN wq w.heap.size wx.heap.size (W1.heap.size+1) W1.heap.size lev (.slice ao no co) (.slice av nv cv) ms (.slice al ms.length cl) A T'/\Below w.heap.size w wq/\wx.heap.size<=wq.heap.size) (fun _ p _=>ms.length - (intOf p).toNat)
     case atStart=>exact⟨false,0,T,rfl,by go_num,by omega,rfl,.inl ⟨rfl,rfl⟩,HF.o,HB.o,hszx⟩
     case round=>
      obtain⟨m',i,T',rfl,rfl,hi,hT',hJ,hF',hB',hszq⟩:=hrel;have HT':=qd hT';have HJ:=qd hJ;have HF':=qd hF';have HB':=qd hB';clear hT' hJ hF' hB' yp ypl;by_cases hlt:i < ms.length
      ·obtain ⟨bl,ol,m,hgl,hgbl,hmi,hcl⟩:=(qj.sl HF'.o.lst).atF xz.len rfl hlt
       subst hgl;have hcm:wr.cell? ⟨bl,ol+i,none⟩=some (.pointer (some ⟨m.p,0,none⟩)):=by have:=hcl 0 (by decide);simpa[xz.cells,xE] using this
       obtain⟨m0,s,g1,hsi,hMv⟩:=HF'.o.get (k:=i) (by rw[←HML.o];exact hlt);rw[hmi] at g1;obtain rfl:=Option.some.inj g1;have rm:=hMv.row;have ym:=qa rm 7;simp at ym;have yml:=qe rm;have RM:=qd hMv.rd;have HMI:=qd hmi;have HSI:=qd hsi;have hsm:=List.mem_of_getElem? hsi;have HSRT:=qd (HIDo.o s hsm);have HDOM:=qd (HRdo.o s hsm);have HRV:=qd (HRvo.o s hsm);have hrb:=hMv.b;clear hmi hsi rm hMv hsm hcl;go_wp2_with (at_range;refine qH.halt ?_)
       refine qH.go ?_;refine RM.o.wpList_range zm HDOM.o HSRT.o Tryz.underlying138 rfl rfl (by rfl) ?_;intro Y hrg hg hz;have HG:=qd hrg;have bY:=yz (Below.refl wr.heap.size wr) hg (Nat.le_refl _);have FY:=qd (HF'.o.below bY hszq (Nat.le_refl _));have BY:=qd (HB'.o.trans (bY.mono HB'.o.size));have hzY:wr.heap.size < Y.heap.size:=by omega
       obtain⟨w5,hw5⟩:∃w5,w5=wr:=⟨_,rfl⟩
       have HLT:=qd HF'.o.tl;clear hrg hg hz bY HF' HB' ym yml hcm RM hrb;subst hw5;go_wp2_with fail
       go_frame
       go_loopg [18] (yG s).length (fun kk q wq=>∃(m2:Bool) (S:Int->Bool) (T2:List Bool),q=.bool m2/\RngI wq m.r w5.heap.size (yG s) S kk/\(∀j,T2.getD j false=true↔T'.getD j false=true\/(qZ lev T' i=true/\∃p ∈ yG s,S p.1=false/\vz A i j p))/\(m2=false/\T2=T\/m2=true/\Yf T < Yf T2)/\xN wq w.heap.size wx.heap.size (W1.heap.size+1) W1.heap.size lev (.slice ao no co) (.slice av nv cv) ms (.slice (some ⟨bl,ol,none⟩) ms.length cl) A T2/\Below w.heap.size w wq/\w5.heap.size < wq.heap.size)
       case atStart=>exact⟨m',fun _=>true,T',rfl,HG.o,fun j=>by simp,HJ.o,FY.o,BY.o,hzY⟩
       case round=>
        obtain⟨m2,S,T2,rfl,hrg,hiff,hJ2,hF2,hB2,hz2⟩:=hrel;have HG:=qd hrg;have HI:=qd hiff;have HJ2:=qd hJ2;have HF2:=qd hF2;have HB2:=qd hB2;clear hrg hiff hJ2 hF2 hB2 HJ FY BY hzY;go_wp2_with (at_next;refine qH.halt ?_)
        refine qH.go ?_;refine HG.o.wpList_next zm yK HDOM.o HSRT.o rfl rfl (by rfl) ?_ ?_
        ·intro hd
         have HT2:=qd (show T2=JZ lev A T' i from by
          refine NS (by rw[HF2.o.tl,NA,HLT.o]) fun j=>?_;rw[HI.o j];unfold JZ;rw[HSI.o];show _↔(if qZ lev T' i=true then Zr A i (yG s) T' else T').getD j false=true;by_cases hl:qZ lev T' i=true
          ·rw [if_pos hl,Ue HLT.o]
           constructor
           ·rintro (h|⟨-,p,h1,h2,h3⟩)
            ·exact .inl h
            ·exact .inr ⟨p,h1,h3⟩
           ·rintro (h|⟨p,h1,h3⟩)
            ·exact .inl h
            ·exact .inr ⟨hl,p,h1,hd p h1,h3⟩
          ·rw [if_neg hl]
           constructor
           ·rintro (h|⟨h,-⟩)
            ·exact h
            ·exact absurd h hl
           ·exact .inl)
         clear hd HG HI;go_wp2_with fail;go_roundw
         case rel=>exact⟨m2,i+1,T2,rfl,by go_num,by omega,by rw[List.range_succ,List.foldl_append,←HT'.o];exact HT2.o,HJ2.o,HF2.o,HB2.o,by omega⟩
         case measure=>simp[intOf];omega
        ·intro x u w3 k3 hxm hS hrg3 hlt3 hg3 hz3 hen
         have hdx:=HRV.o x u hxm;have F3:=qd (HF2.o.keep (Nat.le_refl _) fun k h1 h2=>hg3.block k (by omega) fun e=>by have:=Option.some.inj e;omega);have B3:=qd (zK HB2.o hg3 HB2.o.size (by have:=B1.o.size;omega));have HG3:=qd hrg3;have HX:=qd hxm;have rp:=F3.o.row;have yp:=qa rp 4;simp at yp;have ypl:=qe rp;obtain⟨m0,s0,g1,g2,hMv⟩:=F3.o.get (k:=i) (by rw[←HML.o];exact hlt);rw[HMI.o] at g1;obtain rfl:=Option.some.inj g1;have y9:=qa hMv.row 9;simp at y9;have yml:=qe hMv.row;have HRM:=qd hMv.row;have lk:=(F3.o.by_.look ck Tryz.underlying135 (Mt _) (YH x u hdx) rfl).1;simp only[YG,jv] at lk;clear hrg3 hg3 rp hMv g1 g2 HG;have hlk:qZ lev T2 i=qZ lev T' i:=by
          have h:=HI.o i;have e:T2.getD i false=T'.getD i false:=by
           cases h1:T2.getD i false with
           |true=>
            rcases h.1 h1 with h2|⟨-,p,-,-,h3,h4⟩
            ·exact h2.symm
            ·exact absurd rfl h4
           |false=>
            cases h2:T'.getD i false with
            |true=>rw[h.2 (.inl h2)] at h1;cases h1
            |false=>rfl
          unfold qZ;rw[e]
         rw[hlk] at y9;obtain⟨lb,hlb⟩:∃lb,qZ lev T' i=lb:=⟨_,rfl⟩
         rw[hlb] at y9;have HLBI:=qd hlb;clear hlk hlb;cases lb with
         |false=>
          obtain⟨vq,hvq⟩:∃vq,(Jz A ms (YH x u hdx)).getD (.pointer none)=vq:=⟨_,rfl⟩
          rw[hvq] at lk;clear hvq;go_wp2_with fail
          go_roundg k3
          case measure=>exact hlt3
          case rel=>
           refine⟨m2,fun z=>S z&&!(z==x),T2,rfl,HG3.o,fun j=>?_,HJ2.o,F3.o,B3.o,by omega⟩;rw[uF HSRT.o HX.o,HI.o j,HLBI.o];simp
         |true=>
          cases hby:WV A x u with
          |none=>
           have hbM:Jz A ms (YH x u hdx)=none:=by unfold Jz;rw[jv];simp only[hby,Option.bind_none]
           rw[hbM] at lk;have HBY:=qd hby;clear hbM hby;simp only[Option.getD_none] at lk;go_wp2_with fail
           go_roundg k3
           case measure=>exact hlt3
           case rel=>
            refine⟨m2,fun z=>S z&&!(z==x),T2,rfl,HG3.o,fun j=>?_,HJ2.o,F3.o,B3.o,by omega⟩;rw[uF HSRT.o HX.o,HI.o j];have hno:¬vz A i j (x,u):=fun h=>by have:=h.1;rw[HBY.o] at this;cases this
            rw[or_iff_left hno]
          |some j0=>
           have hj0:=Vs hby;obtain⟨mj,sj,g1,g2,hMj⟩:=F3.o.get hj0;have hbM:Jz A ms (YH x u hdx)=some (.pointer (some ⟨mj.p,0,none⟩)):=by unfold Jz;rw[jv];simp only[hby,Option.bind_some,g1];rfl
           rw[hbM] at lk;simp only[Option.getD_some] at lk;have HBY:=qd hby;have HG1:=qd g1;have HPJ:=qd (show mj.p=m.p↔j0=i from⟨fun e=>F3.o.inj j0 i mj m g1 HMI.o e,fun e=>by subst e;rw[HMI.o] at g1;rw[Option.some.inj g1]⟩);have z10:=qa hMj.row 10;have z9:=qa hMj.row 9;simp at z10 z9;have zl:=qe hMj.row;have zf:=fun o=>qt hMj.row o;have HRJ:=qd hMj.row;have HPB:=qd hMj.b;clear hbM hby g1 g2 hMj;by_cases hji:j0=i
           ·have hpe:mj.p=m.p:=HPJ.o.2 hji
            have HJI:=qd hji;rw[hpe] at lk;have hpn:=YM HRM.o HRM.o;simp only[decide_true,Bool.not_true] at hpn;clear hji hpe z10 z9 zl zf;go_wp2_with fail
            go_roundg k3
            case measure=>exact hlt3
            case rel=>
             refine⟨m2,fun z=>S z&&!(z==x),T2,rfl,HG3.o,fun j=>?_,HJ2.o,F3.o,B3.o,by omega⟩;rw[uF HSRT.o HX.o,HI.o j];have hno:¬vz A i j (x,u):=fun h=>by have h1:=h.1;rw[HBY.o] at h1;exact h.2 ((Option.some.inj h1).symm.trans HJI.o)
             rw[or_iff_left hno]
           ·have hpe:mj.p≠m.p:=fun e=>hji (HPJ.o.1 e)
            have HJI:=qd hji;have hpn:=YM HRJ.o HRM.o;rw[show decide (mj.p=m.p)=false by simpa using hpe] at hpn;simp only[Bool.not_false] at hpn;clear hji;obtain⟨tb,htb⟩:∃tb,T2[j0]?.getD false=tb:=⟨_,rfl⟩
            rw[htb] at z10;have HTB:=qd (show T2.getD j0 false=tb by rw[List.getD_eq_getElem?_getD];exact htb);clear htb;cases tb with
            |true=>
             go_wp2_with fail
             go_roundg k3
             case measure=>exact hlt3
             case rel=>
              refine⟨m2,fun z=>S z&&!(z==x),T2,rfl,HG3.o,fun j=>?_,HJ2.o,F3.o,B3.o,by omega⟩;rw[uF HSRT.o HX.o,HI.o j];have hto:vz A i j (x,u)->(T'.getD j false=true\/(qZ lev T' i=true/\∃p ∈ yG s,S p.1=false/\vz A i j p)):=fun h=>by
               have h1:=h.1;rw[HBY.o] at h1;obtain rfl:=Option.some.inj h1;exact(HI.o j0).1 HTB.o
              constructor
              ·rintro (h|⟨h1,h2⟩)
               ·exact .inl h
               ·exact .inr ⟨h1,.inl h2⟩
              ·rintro (h|⟨h1,h2|h2⟩)
               ·exact .inl h
               ·exact .inr ⟨h1,h2⟩
               ·exact hto h2
            |false=>
             have FF:=qd (F3.o.flag HG1.o);have BF:=qd ((B3.o.setCell (p:=⟨mj.p,10,none⟩) HPB.o.1.1 (.bool true)).setCell (p:=⟨mj.p,9,none⟩) HPB.o.1.1 (.bool true));have hzf:((w3.setCell ⟨mj.p,10,none⟩ (.bool true)).setCell ⟨mj.p,9,none⟩ (.bool true)).heap.size=w3.heap.size:=by simp
             have HZF:=qd hzf;have hnr:∀k,k≠mj.p->((w3.setCell ⟨mj.p,10,none⟩ (.bool true)).setCell ⟨mj.p,9,none⟩ (.bool true)).heap[k]?=w3.heap[k]?:=fun k hk=>by
              rw[RowKit.Below.heap_setCell _ _ _ _ hk,RowKit.Below.heap_setCell _ _ _ _ hk]
             have HGF:=qd (HG3.o.obj (hnr m.r fun e=>zh HRJ.o ⟨_,_,(HG3.o.owns).choose_spec.choose_spec.1⟩ e.symm) (hnr w5.heap.size (by have:=HPB.o.1.2;omega)));clear hzf hnr;go_wp2_with fail
             go_roundg k3
             case measure=>exact hlt3
             case rel=>
              have hjT:j0 < T2.length:=by rw[HF2.o.tl];exact hj0
              refine⟨true,fun z=>S z&&!(z==x),T2.set j0 true,rfl,HGF.o,fun j=>?_,.inr ⟨rfl,?_⟩,FF.o,BF.o,by have:=HZF.o;omega⟩
              ·rw [uF HSRT.o HX.o,Xx hjT,Bool.or_eq_true,decide_eq_true_eq,HI.o j,HLBI.o]
               have ht:vz A i j (x,u)↔j=j0:=by
                constructor
                ·intro h
                 have h1:=h.1;rw[HBY.o] at h1;exact(Option.some.inj h1).symm
                ·rintro rfl
                 exact⟨HBY.o,HJI.o⟩
               rw[ht];constructor
               ·rintro ((h|⟨h1,h2⟩)|h)
                ·exact .inl h
                ·exact .inr ⟨h1,.inl h2⟩
                ·exact .inr ⟨rfl,.inr h⟩
               ·rintro (h|⟨h1,h2|h2⟩)
                ·exact .inl (.inl h)
                ·exact .inl (.inr ⟨h1,h2⟩)
                ·exact .inr h2
              ·rw [cntT_set hjT HTB.o]
               rcases HJ2.o with⟨-,h2⟩|⟨-,h2⟩
               ·rw [h2];omega
               ·omega
      ·have hie:i=ms.length:=by omega
       subst hie;have hq2:decide ((ms.length:Int) < (ms.length:Int))=false:=by simp
       have HTP:=qd (show T'=Zm lev A T by rw[HT'.o,HML.o];rfl);go_wp2_with fail
       go_roundg (2*(A.length - Yf T')+if m'=true then 1 else 0)
       case measure=>
        have hn2:=Vq T';rw[HF'.o.tl] at hn2;rcases HJ.o with⟨h1,h2⟩|⟨h1,h2⟩
        ·rw [h1,h2];simp
        ·rw [h1];simp;omega
       case rel=>
        rcases HJ.o with⟨h1,h2⟩|⟨h1,h2⟩
        ·have hfx:Zm lev A T'=T':=by rw[h2];rw[h2] at HTP;exact HTP.o.symm
         exact⟨m',T',n,rfl,rfl,by rw[h2];exact HT.o,by rw[h2];exact hn,(fun _=>hfx),HF'.o,HB'.o,hszq⟩
        ·exact ⟨m',T',n+1,rfl,rfl,by rw[Qk,←HT.o];exact HTP.o,by omega,(fun h=>by rw[h1] at h;cases h),HF'.o,HB'.o,hszq⟩
end
