/- Parts of the proof, merged by program out of 1 texts (FtF): the first: A history under the premise, looked at. Conditions: those of each theorem, as typed. -/
import Derived.Test.YtcpfbphcldocpaaGreatDoorQF18
import Derived.Deep.LoopGhost
import Derived.LaidEqlPtr
set_option linter.unusedVariables false
set_option linter.unusedSimpArgs false
set_option linter.unusedSectionVars false
set_option maxRecDepth 100000
set_option maxHeartbeats 4000000
namespace Go.Proofs.YtcpfbphcldocpaaGreatDoor
open Go.Maps Go.RowKit
section
attribute [local irreducible] wpL
theorem grownBy.turned {w w1 w2:World} {b:Nat} (h:w.grownBy w1 (some b)) (ht:w1.mapTurned w2 b):w.grownBy w2 (some b):=by
 have hz:=turned_size ht
 have ho:=fun i (hi:i≠b)=>turned_other ht hi
 obtain⟨es,c,es',c',hb,rfl⟩:=ht
 exact⟨h.os,h.tape,h.output,by rw[hz];exact h.size,fun k hk hq=>(ho k fun e=>hq (congrArg some e)).trans (h.block k hk hq)⟩
theorem foldU_dom {g:Dd→Int}:∀{X:List Dd} {M:MI},KDom dI M→(∀d ∈ X,dI d.obj)→KDom dI (X.foldl (fun m d=>upd d.obj (g d) m) M)
 |[],M,h,_=>h
 |d::X,M,h,hX=>by
  rw[List.foldl_cons]
  exact foldU_dom (h.upd (hX d (List.mem_cons_self ..))) fun x hx=>hX x (List.mem_cons_of_mem _ hx)
theorem writesF_mem {l:List Dd} {d:Dd} (h:d ∈ writesF l):d ∈ l:=by
 induction l using snoc_ind with
 |h0=>cases h
 |h1 l x ih=>
  rw[writesF_snoc] at h
  split at h
  ·rcases List.mem_append.1 h with h|h
   ·exact List.mem_append_left _ (ih (List.mem_filter.1 h).1)
   ·exact List.mem_append_right _ h
  ·exact List.mem_append_left _ (ih h)
theorem lastO_mem {g:Dd→Int} {o v:Int}:∀{X:List Dd} {r:Option Int},lastO g o X r=some v→(∃d ∈ X,d.obj=o∧g d=v)∨r=some v
 |[],r,h=>.inr h
 |d::X,r,h=>by
  unfold lastO at h
  rw[List.foldl_cons] at h
  rcases lastO_mem (X:=X) h with⟨x,hx,e⟩|h
  ·exact .inl ⟨x,List.mem_cons_of_mem _ hx,e⟩
  ·split at h
   ·rename_i e
    exact .inl ⟨d,List.mem_cons_self ..,e,Option.some.inj h⟩
   ·exact .inr h
theorem grownBy.drew {w w1:World} {q:Option Nat} (h:w.grownBy w1 q):w.grownBy w1.drew q:=⟨h.os,h.tape,h.output,h.size,h.block⟩
theorem grownBy.toBelow {w w1:World} {q K:Nat} (h:w.grownBy w1 (some q)) (h1:K≤q) (h2:K≤w.heap.size):Below K w w1:=⟨h.os,h.tape,h.output,h.size,fun k hk=>h.block k (by omega) fun e=>by have:=Option.some.inj e;omega⟩
theorem cell_grown {w w1:World} {q b j:Nat} {v:Value} (h:w.grownBy w1 (some q)) (hb:b < w.heap.size) (hn:b≠q) (hc:w.cell? ⟨b,j,none⟩=some v):w1.cell? ⟨b,j,none⟩=some v:=by
 rw[←hc]
 simp only[World.cell?,h.block b hb fun e=>hn (Option.some.inj e)]
theorem row_grown {w w1:World} {q b:Nat} {o:Obj} (h:w.grownBy w1 (some q)) (hn:b≠q) (hc:w.heap[b]?=some o):w1.heap[b]?=some o:=(h.block b (Array.getElem?_eq_some_iff.1 hc).1 fun e=>hn (Option.some.inj e)).trans hc
theorem FwAt.add {w wq w9:World} {lo n0 h8 pW bB:Nat} {lev:Int} {ov vv lv lv':Value} {ms:List Mvr} {A:Au} {T:List Bool} {m:Mvr} {s:St} {x y:Bool} {Mb:Ck→Option Value} (h:FwAt w lo n0 pW bB lev ov vv ms lv A T) (hy:y=(x||decide (lev=3)))
  (hm:MvAt w lo h8 m s y x) (h8l:h8≤w.heap.size) (h80:n0≤h8) (hf:n0≤m.p∧n0≤m.r∧n0≤m.wm) (hq:w.grownBy wq (some bB)) (hMb:RawV ckV wq bB Mb) (hMb2:∀c,Mb c=byM (A++[s]) (ms++[m]) c) (hG:Grw wq w9 lv lv') (ho:OwnF Mvr.cells 133 1 w9 lo lv' (ms++[m])):
  FwAt (w9.setCell ⟨pW,3,none⟩ lv') lo w9.heap.size pW bB lev ov vv (ms++[m]) lv' (A++[s]) (T++[x]):=by
 have hpB:=h.pB
 have hz1:=hq.size
 have hz2:=hG.size
 have hb:=hm.b
 have step:∀k,k < w.heap.size→k≠pW→k≠bB→lv.ownBlock≠some k→(w9.setCell ⟨pW,3,none⟩ lv').heap[k]?=w.heap[k]?:=fun k h1 h2 h3 h4=>by
  rw[RowKit.Below.heap_setCell _ _ _ _ h2,hG.grown.block k (by omega) fun e=>h4 e.symm,hq.block k h1 fun e=>h3 (Option.some.inj e)]
 have rq:w9.heap[pW]?=some (.cells #[ov,vv,.int .i64 lev,lv,.map (some bB)] 137 (0,0)):=by
  rw[hG.grown.block pW (by have:=row_lt h.row;omega) fun e=>OwnF.neT h.lst h.row (by decide) e.symm,hq.block pW (row_lt h.row) fun e=>cells_nm h.row h.by_.isMap (Option.some.inj e)]
  exact h.row
 subst hy
 have hlt:n0≤w.heap.size:=by omega
 refine h.snoc (hi':=w9.heap.size) (by omega) (fun k h1 h2 h3 h4 h5=>step k (by omega) h3 h4 h5) (by have:=row_set rq 3 lv';simpa using this) (OwnF.other (j:=3) ho (OwnF.neT ho rq (by decide)) lv') (fun k e=>(OwnF.lt ho k e).2) (hm.keep (by omega) (step _ (by omega) (by omega) (by omega) fun e=>by have:=h.lstb _ e;omega) (fun k e=>step k (OwnF.lt hm.dds k e).2 ?_ ?_ ?_) (step _ (by omega) (by omega) (by omega) fun e=>by have:=h.lstb _ e;omega) (step _ (by omega) (by omega) (by omega) fun e=>by have:=h.lstb _ e;omega)) hf ?_
 ·rintro rfl
  exact OwnF.neT hm.dds h.row (by decide) e
 ·rintro rfl
  exact OwnF.neM hm.dds h.by_.isMap e
 ·obtain ⟨c1,hc1⟩:=hm.dds.keepObj k e
  exact OwnF.neT h.lst hc1 (by decide)
 ·refine RawV.fun (hMb.obj ?_) fun c=>(hMb2 c).symm
  rw[RowKit.Below.heap_setCell _ _ _ _ fun e=>cells_nm h.row h.by_.isMap e.symm,hG.grown.block bB (by omega) fun e=>OwnF.neM h.lst h.by_.isMap e.symm]
theorem mover_size:(Tryz.prog.info? 140).map (fun i=>i.size)=some 11:=by kernel_rfl
theorem ptr_in {X:World} {a b:Nat} {ca cb:Array Value} {ta tb:TypeId} (ha:X.heap[a]?=some (.cells ca ta (0,0))) (hb:X.heap[b]?=some (.cells cb tb (0,0))) (d:Nat):(Op.equalIn (d+1) 133 (.pointer (some ⟨a,0,none⟩)) (.pointer (some ⟨b,0,none⟩))).run Tryz.prog X=.ok (decide (a=b)) X:=by
 obtain⟨j,hj,hs⟩:=Option.map_eq_some_iff.1 mover_size
 by_cases h:a=b
 ·subst h
  simp[Op.equalIn,run_underlying Tryz.underlying133,sizeOf,typeInfo,hj,run_sameAddr_same]
 ·have hne:(⟨a,0,none⟩:Addr)≠⟨b,0,none⟩:=fun e=>h (congrArg Addr.block e)
  have hsz:j.size≠0:=by rw[hs];decide
  simp[Op.equalIn,run_underlying Tryz.underlying133,sizeOf,typeInfo,hj,hsz,run_sameAddr_other X hne ha hb,h]
theorem ptr_neq {X:World} {a b:Nat} {ca cb:Array Value} {ta tb:TypeId} (ha:X.heap[a]?=some (.cells ca ta (0,0))) (hb:X.heap[b]?=some (.cells cb tb (0,0))):(binOp .neq 133 (.pointer (some ⟨a,0,none⟩)) (.pointer (some ⟨b,0,none⟩))).run Tryz.prog X=.ok (.bool (!decide (a=b))) X:=by
 have h:=ptr_in ha hb 9999
 simp only[binOp]
 simp[Op.equal,Op.maxDepth,h]
theorem ptr_eql {X:World} {a b:Nat} {ca cb:Array Value} {ta tb:TypeId} (ha:X.heap[a]?=some (.cells ca ta (0,0))) (hb:X.heap[b]?=some (.cells cb tb (0,0))):(binOp .eql 133 (.pointer (some ⟨a,0,none⟩)) (.pointer (some ⟨b,0,none⟩))).run Tryz.prog X=.ok (.bool (decide (a=b))) X:=by
 have h:=ptr_in ha hb 9999
 simp only[binOp]
 simp[Op.equal,Op.maxDepth,h]
theorem turn_step {A:Au} {i:Nat} {M:Mi} {S:Int→Bool} {x u:Int} (hM:KSrt M) (hx:(x,u) ∈ M) (j:Nat):(∃p ∈ M,(S p.1&&!(p.1==x))=false∧Turns A i j p)↔(∃p ∈ M,S p.1=false∧Turns A i j p)∨Turns A i j (x,u):=by
 constructor
 ·rintro ⟨p,h1,h2,h3⟩
  by_cases e:p.1=x
  ·right
   have:p=(x,u):=by
    have q1:=(fnd_some hM (a:=p.1) (u:=p.2)).2 h1
    have q2:=(fnd_some hM).2 hx
    rw[e,q2] at q1
    exact Prod.ext e (Option.some.inj q1).symm
   rw[←this];exact h3
  ·left
   have:(p.1==x)=false:=by simpa using e
   rw[this] at h2
   exact⟨p,h1,by simpa using h2,h3⟩
 ·rintro (⟨p,h1,h2,h3⟩|h)
  ·exact ⟨p,h1,by rw[h2];rfl,h3⟩
  ·exact ⟨(x,u),hx,by simp,h⟩
theorem zeroMp (w:World):(zeroValue 133).run Tryz.prog w=.ok (.pointer none) w:=by kernel_rfl
def LookRet (w:World) (lev:Int) (ov vv:Value) (A:Au) (e:Ending) (w':World):Prop:=∃pW bB ms lv,e=.returned (.tuple #[.pointer (some ⟨pW,0,none⟩),.nilIface])∧FwAt w' w.heap.size w'.heap.size pW bB lev ov vv ms lv A (takenF lev A)∧Below w.heap.size w w'
theorem f_look (ov vv:Value) (os:List Ob) (A:Au) (lev:Int) (w:World) (hov:∃a n c,ov=.slice a n c) (hvv:∃a n c,vv=.slice a n c)
  (hP:∀W,Below w.heap.size w W→Calls Tryz.prog 43 #[.agg #[ov,vv]] W (TabRet W (some A))) (hD:DvOk os A):
  Calls Tryz.prog 31 #[.agg #[ov,vv],.int .i64 lev] w (LookRet w lev ov vv A):=by
 obtain⟨ao,no,co,rfl⟩:=hov
 obtain⟨av,nv,cv,rfl⟩:=hvv
 have b0:Below w.heap.size w (w.alloc (.cells #[.slice ao no co,.slice av nv cv] 25)):=(Below.refl _ w).alloc (Nat.le_refl _) _
 have PC:=hid (hP _ b0)
 have B0:=hid b0
 have R0:=hid (row_new w (.cells #[.slice ao no co,.slice av nv cv] 25))
 have hz0:w.heap.size < (w.alloc (.cells #[.slice ao no co,.slice av nv cv] 25)).heap.size:=by simp
 have hmm:=@run_makeMap Tryz.prog
 have HD:=hid hD
 clear b0 hP hD
 go_enter Tryz.func31,Tryz.ntmps31
 go_wp2_with fail
 generalize w.alloc (.cells #[.slice ao no co,.slice av nv cv] 25)=W at *
 refine PC.out.mono ?_
 rintro e W1 ⟨tv,rfl,⟨rs,o1,hrl,hrc⟩,b1⟩
 obtain⟨at1,ct1,rfl⟩:=OwnF.sli o1
 have hz1:=b1.size
 have B1:=hid (B0.out.trans (b1.mono B0.out.size))
 have r1:=row_below R0.out b1 (row_lt R0.out)
 have y:=row_cell r1
 have y0:=y 0
 have y1:=y 1
 simp at y0 y1
 have yl:=row_lt r1
 have O1:=hid o1
 have HRC:=hid hrc
 have HRL:=hid hrl
 have hrl4:rs.length≤400:=by have:=HD.out.len;omega
 clear b1 o1 hrc hrl PC R0 r1 y
 go_wp2_with fail
 have B2:=hid (show Below W1.heap.size W1 ((W1.alloc (.map #[] 0)).alloc (.cells #[.slice ao no co,.slice av nv cv,.int .i64 lev,.slice none 0 0,.map (some W1.heap.size)] 137)) from((Below.refl _ W1).alloc (Nat.le_refl _) _).alloc (by simp) _)
 have F2:=hid (show FwAt ((W1.alloc (.map #[] 0)).alloc (.cells #[.slice ao no co,.slice av nv cv,.int .i64 lev,.slice none 0 0,.map (some W1.heap.size)] 137)) w.heap.size ((W1.alloc (.map #[] 0)).alloc (.cells #[.slice ao no co,.slice av nv cv,.int .i64 lev,.slice none 0 0,.map (some W1.heap.size)] 137)).heap.size (W1.heap.size+1) W1.heap.size lev (.slice ao no co) (.slice av nv cv) [] (.slice none 0 0) [] [] from by
  refine⟨by have:=row_new (W1.alloc (.map #[] 0)) (.cells #[.slice ao no co,.slice av nv cv,.int .i64 lev,.slice none 0 0,.map (some W1.heap.size)] 137);simpa using this,by simp;omega,OwnF.nil _ _,by simp[Value.ownBlock],rfl,rfl,fun k m s hm=>by simp at hm,fun j k m m' hm=>by simp at hm,fun m hm=>by simp at hm,RawV.fun (RawV.made (by rw[heap_alloc_old _ _ (by simp),heap_alloc_new])) fun c=>rfl⟩)
 generalize ((W1.alloc (.map #[] 0)).alloc (.cells #[.slice ao no co,.slice av nv cv,.int .i64 lev,.slice none 0 0,.map (some W1.heap.size)] 137))=W2 at *
 clear y0 y1 yl
 go_loopw [39] (fun p wr=>∃(k:Nat) (ms:List Mvr) (lv:Value),k≤rs.length∧p=.int .i64 k∧FwAt wr w.heap.size wr.heap.size (W1.heap.size+1) W1.heap.size lev (.slice ao no co) (.slice av nv cv) ms lv (A.take k) (firstT (A.take k))∧(∀j,lv.ownBlock=some j→W1.heap.size≤j)∧Below W1.heap.size W1 wr) (fun p _=>rs.length - (intOf p).toNat)
 case atStart=>exact⟨0,[],_,by omega,by go_num,by simpa[firstT] using F2.out,by simp[Value.ownBlock],B2.out⟩
 case round=>
  obtain⟨k,ms,lv,hk,rfl,hF,hGB,hB⟩:=hrel
  obtain⟨bB,hbB⟩:∃bB,bB=W1.heap.size:=⟨_,rfl⟩
  have HBB:=hid hbB
  clear F2 B2 W2 hbB
  have hszB:=hB.size
  obtain⟨al,cl,rfl⟩:=OwnF.sli hF.lst
  have HLB:=hid hGB
  have HF:=hid hF
  have HB:=hid hB
  have hpW:=hF.pB
  clear hF hB hGB
  by_cases hlt:k < rs.length
  ·obtain ⟨b,off,r,rfl,hb,hr,hc⟩:=(OwnF.sl (OwnF.below O1.out HB.out)).atF TxR.len rfl hlt
   obtain⟨s,hs⟩:∃s,A[k]?=some s:=⟨_,List.getElem?_eq_getElem (by have:=HRL.out;omega)⟩
   obtain⟨htx,hdv⟩:=HRC.out k r s hr hs
   have HTK:=hid (show A.take (k+1)=A.take k++[s] from take_step hs)
   have hsm:=List.mem_of_getElem? hs
   have HSM:=hid hsm
   have hnd:=HD.out.dl s hsm
   have HDo:=hid (fun(d:Dd) (hd:d ∈ s.deeds)=>HD.out.dobj hsm hd)
   have HVu:=hid (fun(x u:Int) (h:(x,u) ∈ wrM s)=>(show dI u from by
    have h:=(fnd_some (srt_wrM s)).2 h
    rw[fnd_wrM] at h
    obtain⟨d,hd,-,-,-,e⟩:=lwR_mem h
    rw[←e]
    exact(HD.out.val s hsm d hd).1))
   obtain⟨i1,th1,st1,be1,fi1,tr1,dv⟩:=r
   obtain⟨h1,h2,h3,h4,h5,h6⟩:=htx
   simp only at h1 h2 h3 h4 h5 h6 hdv
   subst h1 h2 h3 h4 h5 h6
   obtain⟨ad,cd,rfl⟩:=OwnF.sli hdv
   have c0:wr.cell? ⟨b,off+k*7,none⟩=some (.int .i64 s.id):=hc 0 (by decide)
   have c1:wr.cell? ⟨b,off+k*7+1,none⟩=some (.int .i64 s.thread):=hc 1 (by decide)
   have c2:wr.cell? ⟨b,off+k*7+2,none⟩=some (.int .i64 s.status):=hc 2 (by decide)
   have c3:wr.cell? ⟨b,off+k*7+3,none⟩=some (.int .i64 s.beg):=hc 3 (by decide)
   have c4:wr.cell? ⟨b,off+k*7+4,none⟩=some (.int .i64 s.fin):=hc 4 (by decide)
   have c5:wr.cell? ⟨b,off+k*7+5,none⟩=some (.int .i64 s.tri):=hc 5 (by decide)
   have c6:wr.cell? ⟨b,off+k*7+6,none⟩=some (.slice ad s.deeds.length cd):=hc 6 (by decide)
   have hbw:b < wr.heap.size:=by omega
   have b3:Below wr.heap.size wr ((((wr.alloc (.cells #[.int .i64 s.id,.int .i64 s.thread,.int .i64 s.status,.int .i64 s.beg,.int .i64 s.fin,.int .i64 s.tri,.slice ad s.deeds.length cd] 49)).alloc (.map #[] 0)).alloc (.map #[] 0)).alloc (.cells #[.int .i64 s.id,.int .i64 s.thread,.int .i64 s.status,.int .i64 s.beg,.int .i64 s.fin,.int .i64 s.tri,.slice ad s.deeds.length cd,.map (some (wr.heap.size+1)),.map (some (wr.heap.size+1+1)),.bool false,.bool false] 140)):=(((Below.refl _ wr).alloc (Nat.le_refl _) _).alloc (by simp) _).alloc (by simp;omega) _ |>.alloc (by simp;omega) _
   have B3:=hid b3
   have hz3:((((wr.alloc (.cells #[.int .i64 s.id,.int .i64 s.thread,.int .i64 s.status,.int .i64 s.beg,.int .i64 s.fin,.int .i64 s.tri,.slice ad s.deeds.length cd] 49)).alloc (.map #[] 0)).alloc (.map #[] 0)).alloc (.cells #[.int .i64 s.id,.int .i64 s.thread,.int .i64 s.status,.int .i64 s.beg,.int .i64 s.fin,.int .i64 s.tri,.slice ad s.deeds.length cd,.map (some (wr.heap.size+1)),.map (some (wr.heap.size+1+1)),.bool false,.bool false] 140)).heap.size=wr.heap.size+1+1+1+1:=by simp
   have T3:=hid (show((((wr.alloc (.cells #[.int .i64 s.id,.int .i64 s.thread,.int .i64 s.status,.int .i64 s.beg,.int .i64 s.fin,.int .i64 s.tri,.slice ad s.deeds.length cd] 49)).alloc (.map #[] 0)).alloc (.map #[] 0)).alloc (.cells #[.int .i64 s.id,.int .i64 s.thread,.int .i64 s.status,.int .i64 s.beg,.int .i64 s.fin,.int .i64 s.tri,.slice ad s.deeds.length cd,.map (some (wr.heap.size+1)),.map (some (wr.heap.size+1+1)),.bool false,.bool false] 140)).heap[wr.heap.size]?=some (.cells #[.int .i64 s.id,.int .i64 s.thread,.int .i64 s.status,.int .i64 s.beg,.int .i64 s.fin,.int .i64 s.tri,.slice ad s.deeds.length cd] 49 (0,0)) by
    rw[heap_alloc_old _ _ (by simp;omega),heap_alloc_old _ _ (by simp;omega),heap_alloc_old _ _ (by simp)]
    exact heap_alloc_new wr _)
   have M3:=hid (show((((wr.alloc (.cells #[.int .i64 s.id,.int .i64 s.thread,.int .i64 s.status,.int .i64 s.beg,.int .i64 s.fin,.int .i64 s.tri,.slice ad s.deeds.length cd] 49)).alloc (.map #[] 0)).alloc (.map #[] 0)).alloc (.cells #[.int .i64 s.id,.int .i64 s.thread,.int .i64 s.status,.int .i64 s.beg,.int .i64 s.fin,.int .i64 s.tri,.slice ad s.deeds.length cd,.map (some (wr.heap.size+1)),.map (some (wr.heap.size+1+1)),.bool false,.bool false] 140)).heap[wr.heap.size+1+1+1]?=some (.cells #[.int .i64 s.id,.int .i64 s.thread,.int .i64 s.status,.int .i64 s.beg,.int .i64 s.fin,.int .i64 s.tri,.slice ad s.deeds.length cd,.map (some (wr.heap.size+1)),.map (some (wr.heap.size+1+1)),.bool false,.bool false] 140 (0,0)) by
    have:=heap_alloc_new (((wr.alloc (.cells #[.int .i64 s.id,.int .i64 s.thread,.int .i64 s.status,.int .i64 s.beg,.int .i64 s.fin,.int .i64 s.tri,.slice ad s.deeds.length cd] 49)).alloc (.map #[] 0)).alloc (.map #[] 0)) (.cells #[.int .i64 s.id,.int .i64 s.thread,.int .i64 s.status,.int .i64 s.beg,.int .i64 s.fin,.int .i64 s.tri,.slice ad s.deeds.length cd,.map (some (wr.heap.size+1)),.map (some (wr.heap.size+1+1)),.bool false,.bool false] 140)
    simpa using this)
   have R3:=hid (show IsMI ((((wr.alloc (.cells #[.int .i64 s.id,.int .i64 s.thread,.int .i64 s.status,.int .i64 s.beg,.int .i64 s.fin,.int .i64 s.tri,.slice ad s.deeds.length cd] 49)).alloc (.map #[] 0)).alloc (.map #[] 0)).alloc (.cells #[.int .i64 s.id,.int .i64 s.thread,.int .i64 s.status,.int .i64 s.beg,.int .i64 s.fin,.int .i64 s.tri,.slice ad s.deeds.length cd,.map (some (wr.heap.size+1)),.map (some (wr.heap.size+1+1)),.bool false,.bool false] 140)) (wr.heap.size+1) 0 [] from by
    refine IsMapK.obj (IsMapK.made (wr.alloc (.cells #[.int .i64 s.id,.int .i64 s.thread,.int .i64 s.status,.int .i64 s.beg,.int .i64 s.fin,.int .i64 s.tri,.slice ad s.deeds.length cd] 49)) |> fun h=>(by simpa using h:IsMI ((wr.alloc (.cells #[.int .i64 s.id,.int .i64 s.thread,.int .i64 s.status,.int .i64 s.beg,.int .i64 s.fin,.int .i64 s.tri,.slice ad s.deeds.length cd] 49)).alloc (.map #[] 0)) (wr.heap.size+1) 0 [])) ?_
    rw[heap_alloc_old _ _ (by simp),heap_alloc_old _ _ (by simp)])
   have V3:=hid (show IsMI ((((wr.alloc (.cells #[.int .i64 s.id,.int .i64 s.thread,.int .i64 s.status,.int .i64 s.beg,.int .i64 s.fin,.int .i64 s.tri,.slice ad s.deeds.length cd] 49)).alloc (.map #[] 0)).alloc (.map #[] 0)).alloc (.cells #[.int .i64 s.id,.int .i64 s.thread,.int .i64 s.status,.int .i64 s.beg,.int .i64 s.fin,.int .i64 s.tri,.slice ad s.deeds.length cd,.map (some (wr.heap.size+1)),.map (some (wr.heap.size+1+1)),.bool false,.bool false] 140)) (wr.heap.size+1+1) 0 [] from by
    refine IsMapK.obj (IsMapK.made ((wr.alloc (.cells #[.int .i64 s.id,.int .i64 s.thread,.int .i64 s.status,.int .i64 s.beg,.int .i64 s.fin,.int .i64 s.tri,.slice ad s.deeds.length cd] 49)).alloc (.map #[] 0)) |> fun h=>(by simpa using h:IsMI (((wr.alloc (.cells #[.int .i64 s.id,.int .i64 s.thread,.int .i64 s.status,.int .i64 s.beg,.int .i64 s.fin,.int .i64 s.tri,.slice ad s.deeds.length cd] 49)).alloc (.map #[] 0)).alloc (.map #[] 0)) (wr.heap.size+1+1) 0 [])) ?_
    rw[heap_alloc_old _ _ (by simp)])
   have HZ3:=hid hz3
   have DV3:=hid (OwnF.below (OwnF.below hdv HB.out) b3)
   have DVB:=hid (fun k (e:(Value.slice ad s.deeds.length cd).ownBlock=some k)=>(OwnF.lt hdv k e).2)
   have RC:=hid (p_Reads s.id s.thread s.status s.beg s.fin s.tri (.slice ad s.deeds.length cd) s.deeds _ (OwnF.sl DV3.out) hnd)
   clear hr hs hdv hc hsm b3 hz3 hb
   go_wp2_with fail
   have HF3:=hid (HF.out.below B3.out (Nat.le_refl _) (Nat.le_refl _))
   have B13:=hid (HB.out.trans (B3.out.mono hszB))
   generalize ((((wr.alloc (.cells #[.int .i64 s.id,.int .i64 s.thread,.int .i64 s.status,.int .i64 s.beg,.int .i64 s.fin,.int .i64 s.tri,.slice ad s.deeds.length cd] 49)).alloc (.map #[] 0)).alloc (.map #[] 0)).alloc (.cells #[.int .i64 s.id,.int .i64 s.thread,.int .i64 s.status,.int .i64 s.beg,.int .i64 s.fin,.int .i64 s.tri,.slice ad s.deeds.length cd,.map (some (wr.heap.size+1)),.map (some (wr.heap.size+1+1)),.bool false,.bool false] 140))=W3 at *
   clear HF HB B3 c0 c1 c2 c3 c4 c5 c6 hbw
   generalize wr.heap.size=n0 at *
   refine(RC.out).mono ?_
   rintro e W4 ⟨vR,rfl,oR,b4⟩
   obtain⟨X,hX⟩:∃X,readsF [] s.deeds=X:=⟨_,rfl⟩
   rw[hX] at oR
   obtain⟨aR,cR,rfl⟩:=OwnF.sli oR
   have hXl:X.length≤400:=by rw[←hX];exact Nat.le_trans (readsF_len _ _) hnd
   have HXo:=hid (fun(d:Dd) (hd:d ∈ X)=>HDo.out d (readsF_mem (by rw[hX];exact hd)).1)
   have HXX:=hid hX
   have z4:=b4.size
   have z34:=HZ3.out
   have T4:=hid (row_below T3.out b4 (by omega))
   have M4:=hid (row_below M3.out b4 (by omega))
   have R4:=hid (R3.out.below b4 (by omega))
   have V4:=hid (V3.out.below b4 (by omega))
   have DV4:=hid (OwnF.below DV3.out b4)
   have HF4:=hid (HF3.out.below b4 (by omega) (Nat.le_refl _))
   have B14:=hid (B13.out.trans (b4.mono (by omega)))
   have OR:=hid oR
   clear RC hX oR b4 T3 M3 R3 V3 DV3 HF3 B13
   go_wp2_with fail
   go_loopw [51] (fun p wi=>∃(j n:Nat),j≤X.length∧n≤j∧p=.int .i64 j∧IsMI wi (n0+1) n ((X.take j).foldl (fun m d=>upd d.obj d.got m) [])∧W4.grownBy wi (some (n0+1))) (fun p _=>X.length - (intOf p).toNat)
   case atStart=>exact⟨0,0,by omega,by omega,by go_num,R4.out,grownBy.refl _ _⟩
   case round=>
    obtain⟨j,n,hj,hn,rfl,hI,hg⟩:=hrel
    have hzg:=hg.size
    have HI:=hid hI
    have HG:=hid hg
    clear hI hg
    by_cases hlt2:j < X.length
    ·obtain ⟨b2,off2,d,hq2,hb2,hdj,hc2⟩:=(OwnF.sl OR.out).atF Dd.len rfl hlt2
     subst hq2
     have hb3:=(OwnF.lt OR.out b2 rfl).1
     have HTJ:=hid (show X.take (j+1)=X.take j++[d] from take_step hdj)
     have hdo:=HXo.out d (List.mem_of_getElem? hdj)
     have HDm:=hid (foldU_dom (g:=Dd.got) (X:=X.take j) (M:=[]) (fun _ h=>by cases h) fun x hx=>HXo.out x (List.mem_of_mem_take hx))
     have HSr:=hid (srt_foldU (g:=Dd.got) (X:=X.take j) (M:=[]) List.Pairwise.nil)
     obtain⟨ob,op,ke,va,re,go,at_,ba⟩:=d
     simp only at hdo
     have HDO:=hid hdo
     have c0:wr.cell? ⟨b2,off2+j*8,none⟩=some (.int .i64 ob):=cell_grown HG.out hb2 (by omega) (hc2 0 (by decide))
     have c1:wr.cell? ⟨b2,off2+j*8+1,none⟩=some (.int .i64 op):=cell_grown HG.out hb2 (by omega) (hc2 1 (by decide))
     have c2:wr.cell? ⟨b2,off2+j*8+2,none⟩=some (.int .i64 ke):=cell_grown HG.out hb2 (by omega) (hc2 2 (by decide))
     have c3:wr.cell? ⟨b2,off2+j*8+3,none⟩=some (.int .i64 va):=cell_grown HG.out hb2 (by omega) (hc2 3 (by decide))
     have c4:wr.cell? ⟨b2,off2+j*8+4,none⟩=some (.int .i64 re):=cell_grown HG.out hb2 (by omega) (hc2 4 (by decide))
     have c5:wr.cell? ⟨b2,off2+j*8+5,none⟩=some (.int .i64 go):=cell_grown HG.out hb2 (by omega) (hc2 5 (by decide))
     have c6:wr.cell? ⟨b2,off2+j*8+6,none⟩=some (.int .i64 at_):=cell_grown HG.out hb2 (by omega) (hc2 6 (by decide))
     have c7:wr.cell? ⟨b2,off2+j*8+7,none⟩=some (.int .i64 ba):=cell_grown HG.out hb2 (by omega) (hc2 7 (by decide))
     have hbw:b2 < wr.heap.size:=by omega
     have G5:=hid (show W4.grownBy (wr.alloc (.cells #[.int .i64 ob,.int .i64 op,.int .i64 ke,.int .i64 va,.int .i64 re,.int .i64 go,.int .i64 at_,.int .i64 ba] 112)) (some (n0+1)) from grownBy.below HG.out ((Below.refl _ wr).alloc (Nat.le_refl _) _))
     have I5:=hid (HI.out.alloc (.cells #[.int .i64 ob,.int .i64 op,.int .i64 ke,.int .i64 va,.int .i64 re,.int .i64 go,.int .i64 at_,.int .i64 ba] 112))
     have r5:=row_new wr (.cells #[.int .i64 ob,.int .i64 op,.int .i64 ke,.int .i64 va,.int .i64 re,.int .i64 go,.int .i64 at_,.int .i64 ba] 112)
     have m5:=row_grown G5.out (by omega) M4.out
     clear hc2 hdj hdo
     go_wp2_with fail
     have hz5:(wr.alloc (.cells #[.int .i64 ob,.int .i64 op,.int .i64 ke,.int .i64 va,.int .i64 re,.int .i64 go,.int .i64 at_,.int .i64 ba] 112)).heap.size=wr.heap.size+1:=by simp
     generalize wr.alloc (.cells #[.int .i64 ob,.int .i64 op,.int .i64 ke,.int .i64 va,.int .i64 re,.int .i64 go,.int .i64 at_,.int .i64 ba] 112)=W5 at *
     clear c0 c1 c2 c3 c4 c5 c6 c7
     have y:=row_cell r5
     have y0:=y 0
     have y5:=y 5
     have ym:=row_cell m5 7
     simp at y0 y5 ym
     have yl:=row_lt r5
     have yml:=row_lt m5
     clear y r5 m5 hz5
     obtain⟨F,hF⟩:∃F,(X.take j).foldl (fun m d=>upd d.obj d.got m) []=F:=⟨_,rfl⟩
     rw[hF] at I5 HDm HSr
     have HFF:=hid hF
     clear hF
     refine wp_rN (W5.heap.size) [0,0,0,1,0,1,0,1,2] (.fin [0,1,2,3,4,5,6,7,8]) (by kernel_rfl) ?_
     simp only[wpT,selX,guardAt,sD,sE,sF,sG]
     repeat first|(refine wpL_p fun K hK=>?_;go_simp;refine hK _ _ ?_;clear hK K)|(apply wpL_s;(intro w2 hw2;have hk1:=hw2.cell;have hk3:=hw2.1;clear hw2;go_simp;with_reducible rfl);simp only[Act.put,sA,sB,sC])
     refine wpL_e (fun K hK=>?_)
     refine(IsMapK.drew I5.out).wp_store keyI elem_int HDm.out HSr.out Tryz.underlying138 (v:=go) (by unfold maxLen;omega) HDO.out rfl (by rfl) (by rfl) (by rfl) ?_
     intro w6 h6 t6
     refine hK _ _ ?_
     clear hK K
     have I6:=hid h6
     have G6:=hid (show W4.grownBy w6 (some (n0+1)) from grownBy.turned (w1:=W5.drew) (grownBy.drew G5.out) t6)
     clear h6 t6
     repeat refine wpL_nil ?_
     go_wp2_with fail
     go_roundw
     case rel=>exact⟨j+1,n+1,by omega,by omega,by go_num,by rw[HTJ.out,List.foldl_append,HFF.out];exact I6.out,G6.out⟩
     case measure=>simp[intOf];omega
    ·obtain rfl:j=X.length:=by omega
     have hq:decide ((X.length:Int) < (X.length:Int))=false:=by simp
     have R5:=hid (show IsMI wr (n0+1) (rdM s).length (rdM s) from by
      have h:=HI.out
      rw[List.take_length,←HXX.out] at h
      exact IsMapK.tight h)
     have T5:=hid (row_grown HG.out (by omega) T4.out)
     have M5:=hid (row_grown HG.out (by omega) M4.out)
     have V5:=hid (IsMapK.obj V4.out (HG.out.block (n0+1+1) (by omega) fun e=>by have:=Option.some.inj e;omega))
     have DV5:=hid (DV4.out.sameB fun k e=>HG.out.block k (by have:=(OwnF.lt DV4.out k e).2;omega) fun e2=>by have:=DVB.out k e;have:=Option.some.inj e2;omega)
     have HF5:=hid (HF4.out.keep (Nat.le_refl _) fun k h1 h2=>HG.out.block k (by omega) fun e=>by have:=Option.some.inj e;omega)
     have B15:=hid (B14.out.trans (grownBy.toBelow HG.out (K:=W1.heap.size) (by omega) (by omega)))
     have WC:=hid (p_Writes s.id s.thread s.status s.beg s.fin s.tri (.slice ad s.deeds.length cd) s.deeds wr (OwnF.sl DV5.out) hnd)
     have y:=row_cell T5.out
     have y0:=y 0
     have y1:=y 1
     have y2:=y 2
     have y3:=y 3
     have y4:=y 4
     have y5:=y 5
     have y6:=y 6
     simp at y0 y1 y2 y3 y4 y5 y6
     have yl:=row_lt T5.out
     clear y HG HI
     go_wp2_with fail
     refine(WC.out).mono ?_
     rintro e W6 ⟨vW,rfl,oW,b6⟩
     obtain⟨Z,hZ⟩:∃Z,writesF s.deeds=Z:=⟨_,rfl⟩
     rw[hZ] at oW
     obtain⟨aW,cW,rfl⟩:=OwnF.sli oW
     have hZl:Z.length≤400:=by rw[←hZ];exact Nat.le_trans (writesF_len _) hnd
     have HZo:=hid (fun(d:Dd) (hd:d ∈ Z)=>HDo.out d (writesF_mem (by rw[hZ];exact hd)))
     have HZZ:=hid hZ
     have z6:=b6.size
     have T6:=hid (row_below T5.out b6 (by omega))
     have M6:=hid (row_below M5.out b6 (by omega))
     have R6:=hid (R5.out.below b6 (by omega))
     have V6:=hid (V5.out.below b6 (by omega))
     have DV6:=hid (OwnF.below DV5.out b6)
     have HF6:=hid (HF5.out.below b6 (by omega) (Nat.le_refl _))
     have B16:=hid (B15.out.trans (b6.mono (by omega)))
     have OW:=hid oW
     clear WC hZ oW b6 T5 M5 R5 V5 DV5 HF5 B15 T4 M4 V4 DV4 HF4 B14 R4 OR y0 y1 y2 y3 y4 y5 y6 yl
     go_wp2_with fail
     go_loopw [67] (fun p wi=>∃(j n:Nat),j≤Z.length∧n≤j∧p=.int .i64 j∧IsMI wi (n0+1+1) n ((Z.take j).foldl (fun m d=>upd d.obj d.val m) [])∧W6.grownBy wi (some (n0+1+1))) (fun p _=>Z.length - (intOf p).toNat)
     case atStart=>exact⟨0,0,by omega,by omega,by go_num,V6.out,grownBy.refl _ _⟩
     case round=>
      obtain⟨j,n,hj,hn,rfl,hI,hg⟩:=hrel
      have hzg:=hg.size
      have HI:=hid hI
      have HG:=hid hg
      clear hI hg
      by_cases hlt2:j < Z.length
      ·obtain ⟨b2,off2,d,hq2,hb2,hdj,hc2⟩:=(OwnF.sl OW.out).atF Dd.len rfl hlt2
       subst hq2
       have hb3:=(OwnF.lt OW.out b2 rfl).1
       have HTJ:=hid (show Z.take (j+1)=Z.take j++[d] from take_step hdj)
       have hdo:=HZo.out d (List.mem_of_getElem? hdj)
       have HDm:=hid (foldU_dom (g:=Dd.val) (X:=Z.take j) (M:=[]) (fun _ h=>by cases h) fun x hx=>HZo.out x (List.mem_of_mem_take hx))
       have HSr:=hid (srt_foldU (g:=Dd.val) (X:=Z.take j) (M:=[]) List.Pairwise.nil)
       obtain⟨ob,op,ke,va,re,go,at_,ba⟩:=d
       simp only at hdo
       have HDO:=hid hdo
       have c0:wr.cell? ⟨b2,off2+j*8,none⟩=some (.int .i64 ob):=cell_grown HG.out hb2 (by omega) (hc2 0 (by decide))
       have c1:wr.cell? ⟨b2,off2+j*8+1,none⟩=some (.int .i64 op):=cell_grown HG.out hb2 (by omega) (hc2 1 (by decide))
       have c2:wr.cell? ⟨b2,off2+j*8+2,none⟩=some (.int .i64 ke):=cell_grown HG.out hb2 (by omega) (hc2 2 (by decide))
       have c3:wr.cell? ⟨b2,off2+j*8+3,none⟩=some (.int .i64 va):=cell_grown HG.out hb2 (by omega) (hc2 3 (by decide))
       have c4:wr.cell? ⟨b2,off2+j*8+4,none⟩=some (.int .i64 re):=cell_grown HG.out hb2 (by omega) (hc2 4 (by decide))
       have c5:wr.cell? ⟨b2,off2+j*8+5,none⟩=some (.int .i64 go):=cell_grown HG.out hb2 (by omega) (hc2 5 (by decide))
       have c6:wr.cell? ⟨b2,off2+j*8+6,none⟩=some (.int .i64 at_):=cell_grown HG.out hb2 (by omega) (hc2 6 (by decide))
       have c7:wr.cell? ⟨b2,off2+j*8+7,none⟩=some (.int .i64 ba):=cell_grown HG.out hb2 (by omega) (hc2 7 (by decide))
       have hbw:b2 < wr.heap.size:=by omega
       have G5:=hid (show W6.grownBy (wr.alloc (.cells #[.int .i64 ob,.int .i64 op,.int .i64 ke,.int .i64 va,.int .i64 re,.int .i64 go,.int .i64 at_,.int .i64 ba] 112)) (some (n0+1+1)) from grownBy.below HG.out ((Below.refl _ wr).alloc (Nat.le_refl _) _))
       have I5:=hid (HI.out.alloc (.cells #[.int .i64 ob,.int .i64 op,.int .i64 ke,.int .i64 va,.int .i64 re,.int .i64 go,.int .i64 at_,.int .i64 ba] 112))
       have r5:=row_new wr (.cells #[.int .i64 ob,.int .i64 op,.int .i64 ke,.int .i64 va,.int .i64 re,.int .i64 go,.int .i64 at_,.int .i64 ba] 112)
       have m5:=row_grown G5.out (by omega) M6.out
       clear hc2 hdj hdo
       go_wp2_with fail
       have hz5:(wr.alloc (.cells #[.int .i64 ob,.int .i64 op,.int .i64 ke,.int .i64 va,.int .i64 re,.int .i64 go,.int .i64 at_,.int .i64 ba] 112)).heap.size=wr.heap.size+1:=by simp
       generalize wr.alloc (.cells #[.int .i64 ob,.int .i64 op,.int .i64 ke,.int .i64 va,.int .i64 re,.int .i64 go,.int .i64 at_,.int .i64 ba] 112)=W5 at *
       clear c0 c1 c2 c3 c4 c5 c6 c7
       have y:=row_cell r5
       have y0:=y 0
       have y3:=y 3
       have ym:=row_cell m5 8
       simp at y0 y3 ym
       have yl:=row_lt r5
       have yml:=row_lt m5
       clear y r5 m5 hz5
       obtain⟨F,hF⟩:∃F,(Z.take j).foldl (fun m d=>upd d.obj d.val m) []=F:=⟨_,rfl⟩
       rw[hF] at I5 HDm HSr
       have HFF:=hid hF
       clear hF
       refine wp_rN (W5.heap.size) [0,0,0,1,0,1,0,1,2] (.fin [0,1,2,3,4,5,6,7,8]) (by kernel_rfl) ?_
       simp only[wpT,selX,guardAt,sD,sE,sF,sG]
       repeat first|(refine wpL_p fun K hK=>?_;go_simp;refine hK _ _ ?_;clear hK K)|(apply wpL_s;(intro w2 hw2;have hk1:=hw2.cell;have hk3:=hw2.1;clear hw2;go_simp;with_reducible rfl);simp only[Act.put,sA,sB,sC])
       refine wpL_e (fun K hK=>?_)
       refine(IsMapK.drew I5.out).wp_store keyI elem_int HDm.out HSr.out Tryz.underlying138 (v:=va) (by unfold maxLen;omega) HDO.out rfl (by rfl) (by rfl) (by rfl) ?_
       intro w6 h6 t6
       refine hK _ _ ?_
       clear hK K
       have I6:=hid h6
       have G6:=hid (show W6.grownBy w6 (some (n0+1+1)) from grownBy.turned (w1:=W5.drew) (grownBy.drew G5.out) t6)
       clear h6 t6
       repeat refine wpL_nil ?_
       go_wp2_with fail
       go_roundw
       case rel=>exact⟨j+1,n+1,by omega,by omega,by go_num,by rw[HTJ.out,List.foldl_append,HFF.out];exact I6.out,G6.out⟩
       case measure=>simp[intOf];omega
      ·obtain rfl:j=Z.length:=by omega
       have hq:decide ((Z.length:Int) < (Z.length:Int))=false:=by simp
       have V7:=hid (show IsMI wr (n0+1+1) (wrM s).length (wrM s) from by
        have h:=HI.out
        rw[List.take_length,←HZZ.out] at h
        exact IsMapK.tight h)
       have T7:=hid (row_grown HG.out (by omega) T6.out)
       have M7:=hid (row_grown HG.out (by omega) M6.out)
       have R7:=hid (IsMapK.obj R6.out (HG.out.block (n0+1) (by omega) fun e=>by have:=Option.some.inj e;omega))
       have DV7:=hid (DV6.out.sameB fun k e=>HG.out.block k (by have:=(OwnF.lt DV6.out k e).2;omega) fun e2=>by have:=DVB.out k e;have:=Option.some.inj e2;omega)
       have HF7:=hid (HF6.out.keep (Nat.le_refl _) fun k h1 h2=>HG.out.block k (by omega) fun e=>by have:=Option.some.inj e;omega)
       have B17:=hid (B16.out.trans (grownBy.toBelow HG.out (K:=W1.heap.size) (by omega) (by omega)))
       have y:=row_cell T7.out
       have y2:=y 2
       have ym:=row_cell M7.out
       have ym8:=ym 8
       have ym9:=ym 9
       have ym10:=ym 10
       simp at y2 ym8 ym9 ym10
       have yl:=row_lt T7.out
       have yml:=row_lt M7.out
       have yf:=fun i=>row_free M7.out i
       clear y ym HG HI T6 M6 V6 R6 DV6 HF6 B16 OW
       by_cases h3:s.status=3
       ·have q3:(s.status==3)=true:=by simpa using h3
        have HS3:=hid h3
        have HMY:=hid (show mayT s=true by simp[mayT,h3])
        clear h3
        have hne8:∀k,k≠n0+1+1+1→((wr.setCell ⟨n0+1+1+1,10,none⟩ (.bool true)).setCell ⟨n0+1+1+1,9,none⟩ (.bool true)).heap[k]?=wr.heap[k]?:=fun k hk=>by
         rw[RowKit.Below.heap_setCell _ _ _ _ hk,RowKit.Below.heap_setCell _ _ _ _ hk]
        have M8:=hid (show((wr.setCell ⟨n0+1+1+1,10,none⟩ (.bool true)).setCell ⟨n0+1+1+1,9,none⟩ (.bool true)).heap[n0+1+1+1]?=some (.cells #[.int .i64 s.id,.int .i64 s.thread,.int .i64 s.status,.int .i64 s.beg,.int .i64 s.fin,.int .i64 s.tri,.slice ad s.deeds.length cd,.map (some (n0+1)),.map (some (n0+1+1)),.bool true,.bool true] 140 (0,0)) by
         have:=row_set (row_set M7.out 10 (.bool true)) 9 (.bool true)
         simpa using this)
        have R8:=hid (IsMapK.obj R7.out (hne8 (n0+1) (by omega)))
        have V8:=hid (IsMapK.obj V7.out (hne8 (n0+1+1) (by omega)))
        have DV8:=hid (DV7.out.sameB fun k e=>hne8 k (by have:=DVB.out k e;omega))
        have HF8:=hid (HF7.out.keep (Nat.le_refl _) fun k h1 h2=>hne8 k (by omega))
        have B18:=hid ((B17.out.setCell (p:=⟨n0+1+1+1,10,none⟩) (show W1.heap.size≤n0+1+1+1 by omega) (.bool true)).setCell (p:=⟨n0+1+1+1,9,none⟩) (show W1.heap.size≤n0+1+1+1 by omega) (.bool true))
        have hz8:wr.heap.size≤((wr.setCell ⟨n0+1+1+1,10,none⟩ (.bool true)).setCell ⟨n0+1+1+1,9,none⟩ (.bool true)).heap.size:=by simp
        have MA8:=hid (show MvAt ((wr.setCell ⟨n0+1+1+1,10,none⟩ (.bool true)).setCell ⟨n0+1+1+1,9,none⟩ (.bool true)) w.heap.size (n0+1+1+1+1) ⟨n0+1+1+1,n0+1,n0+1+1,.slice ad s.deeds.length cd⟩ s true true from⟨M8.out,OwnF.base DV8.out (by omega),fun k e=>by have:=DVB.out k e;omega,R8.out,V8.out,by simp only;omega⟩)
        clear hne8 M7 R7 V7 DV7 HF7 B17
        have HDW:=hid (foldU_dom (g:=Dd.val) (X:=writesF s.deeds) (M:=[]) (fun _ h=>by cases h) fun x hx=>HDo.out x (writesF_mem hx):KDom dI (wrM s))
        have HSW:=hid (srt_wrM s)
        have HVW:=hid (fun(x u:Int) (h:(x,u) ∈ wrM s)=>(show dI x∧dI u from⟨HDW.out _ h,HVu.out x u h⟩))
        go_wp2_with (at_range;refine Stop.halt ?_)
        refine Stop.go ?_
        generalize ((wr.setCell ⟨n0+1+1+1,10,none⟩ (.bool true)).setCell ⟨n0+1+1+1,9,none⟩ (.bool true))=W8 at *
        refine V8.out.wpList_range keyI HDW.out HSW.out Tryz.underlying138 rfl rfl (by rfl) ?_
        intro Y hrg hg hz
        have HG:=hid hrg
        have HY0:=hid (show W8.grownBy Y (some W1.heap.size) from⟨hg.os,hg.tape,hg.output,hg.size,fun k hk _=>hg.block k hk (by simp)⟩)
        have RB:=hid (HF8.out.by_.obj (hg.block W1.heap.size (by omega) (by simp)))
        have hzY:W8.heap.size < Y.heap.size:=by omega
        clear hrg hg hz ym8 ym9 ym10 yml yf y2 yl
        go_wp2_with fail
        go_frame
        go_loopg [16] (wrM s).length (fun kk _ wq=>∃(S:Int→Bool) (Mb:Ck→Option Value),RngI wq (n0+1+1) W8.heap.size (wrM s) S kk∧RawV ckV wq W1.heap.size Mb∧(∀c:Ck,Mb c=if fnd c.1.1 (wrM s)=some c.1.2∧S c.1.1=false then some (ptrV (n0+1+1+1)) else byM (A.take k) ms c)∧W8.grownBy wq (some W1.heap.size)∧W8.heap.size < wq.heap.size)
        case atStart=>exact⟨_,_,HG.out,RB.out,fun c=>by simp,HY0.out,hzY⟩
        case round=>
         obtain⟨S,Mb,hrg,hmb,hmc,hgr,hzq⟩:=hrel
         have HG:=hid hrg
         have HMb:=hid hmb
         have HMc:=hid hmc
         have HGR:=hid hgr
         clear hrg hmb hmc hgr RB HY0 hzY
         go_wp2_with (at_next;refine Stop.halt ?_)
         refine Stop.go ?_
         refine HG.out.wpList_next keyI elem_int HDW.out HSW.out rfl rfl (by rfl) ?_ ?_
         ·intro hd
          have HF9:=hid (show wr.heap[W1.heap.size+1]?=_∧OwnF Mvr.cells 133 1 wr w.heap.size (.slice al ms.length cl) ms from⟨row_grown HGR.out (by omega) HF8.out.row,HF8.out.lst.sameB fun j e=>HGR.out.block j (by have:=HF8.out.lstb j e;omega) fun e2=>OwnF.neM HF8.out.lst HF8.out.by_.isMap (e.trans (congrArg some (Option.some.inj e2)))⟩)
          have LVB:=hid (fun j (e:(Value.slice al ms.length cl).ownBlock=some j)=>HLB.out j e)
          have RWA:=hid (fun(c:Ck)=>(show Mb c=byM (A.take k++[s]) (ms++[⟨n0+1+1+1,n0+1,n0+1+1,.slice ad s.deeds.length cd⟩]) c by
           rw[byM_snoc _ _ _ _ HF8.out.len,HMc.out c]
           by_cases h:fnd c.1.1 (wrM s)=some c.1.2
           ·rw [if_pos ⟨h,hd _ ((fnd_some HSW.out).1 h)⟩,if_pos ⟨HMY.out,h⟩]
           ·rw [if_neg fun h2=>h h2.1,if_neg fun h2=>h h2.2]))
          have BX:=hid (B18.out.trans (grownBy.toBelow HGR.out (K:=W1.heap.size) (Nat.le_refl _) (by omega)))
          clear hd HG HMc
          have rp:=HF9.out.1
          have HL9:=hid HF9.out.2
          have hpl:=row_lt rp
          have hml:ms.length≤400:=by have:=HF8.out.len;rw[List.length_take] at this;have:=HD.out.len;omega
          have yp:=row_cell rp
          have yp3:=yp 3
          simp at yp3
          have HZ9:=hid (show w.heap.size≤wr.heap.size by omega)
          clear yp rp
          go_wp2_with (at_builtin;refine wpList_appF rfl _ _ _ rfl _ 8 Tryz.underlying131 infoMv rfl HL9.out (⟨n0+1+1+1,n0+1,n0+1+1,.slice ad s.deeds.length cd⟩:Mvr) HZ9.out (by rfl) (by rfl) (by first|rfl|simp) rfl (mv_one _) (by first|omega|(simp only[List.length_append,List.length_cons,List.length_nil,List.length_replicate];omega)) (by first|omega|(simp only[List.length_append,List.length_cons,List.length_nil,List.length_replicate];omega)) ?_;refine Stop.halt ?_)
          refine Stop.go ?_
          intro g9 c9 w9 o9 G9
          have o9:OwnF Mvr.cells 133 1 w9 w.heap.size (.slice (some ⟨g9,0,none⟩) (ms.length+1) c9) (ms++[⟨n0+1+1+1,n0+1,n0+1+1,.slice ad s.deeds.length cd⟩]):=o9
          have r9:w9.heap[W1.heap.size+1]?=some _:=row_grw HF9.out.1 G9 (OwnF.neT HF9.out.2 HF9.out.1 (by decide))
          have z9:=G9.size
          have yp:=row_cell r9
          have yq3:=yp 3
          simp at yq3
          have yqf:=row_free r9 3
          have yql:=row_lt r9
          have FA:=hid (FwAt.add (x:=true) HF8.out rfl MA8.out (by omega) (by omega) (by simp only;omega) HGR.out HMb.out RWA.out G9 o9)
          have BA:=hid ((BX.out.trans (G9.below (B:=W1.heap.size) (by omega) fun j hj=>LVB.out j hj)).setCell (p:=⟨W1.heap.size+1,3,none⟩) (show W1.heap.size≤W1.heap.size+1 by omega) (.slice (some ⟨g9,0,none⟩) (ms.length+1) c9))
          have LB9:=hid (fun j (e:(Value.slice (some ⟨g9,0,none⟩) (ms.length+1) c9).ownBlock=some j)=>(show W1.heap.size≤j from by
           rcases G9.own j e with h|h
           ·exact LVB.out j h
           ·omega))
          clear yp r9 o9 G9
          go_wp2_with fail
          go_roundw
          case rel=>
           refine⟨k+1,ms++[⟨n0+1+1+1,n0+1,n0+1+1,.slice ad s.deeds.length cd⟩],.slice (some ⟨g9,0,none⟩) (ms.length+1) c9,by omega,by go_num,?_,LB9.out,BA.out⟩
           rw[HTK.out,firstT_snoc,show decide (s.status=3)=true from by simp[HS3.out]]
           have:=FA.out
           simpa using this
          case measure=>simp[intOf];omega
         ·intro x u w3 k3 hxm hS hrg3 hlt3 hg3 hz3 hen
          have hdx:=HVW.out x u hxm
          have hMb3:=HMb.out.obj (hg3.block W1.heap.size (by omega) fun e=>by have:=Option.some.inj e;omega)
          have HG3:=hid hrg3
          have HX3:=hid ((fnd_some HSW.out).2 hxm)
          have HGR3:=hid (show W8.grownBy w3 (some W1.heap.size) from⟨hg3.os.trans HGR.out.os,hg3.tape.trans HGR.out.tape,hg3.output.trans HGR.out.output,by omega,fun k hk hq=>(hg3.block k (by omega) fun e=>by have:=Option.some.inj e;omega).trans (HGR.out.block k hk hq)⟩)
          have r3:=row_grown HGR3.out (by omega) HF8.out.row
          have yq:=row_cell r3 4
          simp at yq
          have yql:=row_lt r3
          clear hrg3 hg3 r3 HG HGR
          go_wp2_with (at_mapUpdate;refine Stop.halt ?_)
          refine Stop.go ?_
          refine hMb3.wpList_store ck Tryz.underlying135 (a:=ckOf x u hdx) (v:=.pointer (some ⟨n0+1+1+1,0,none⟩)) rfl rfl (by rfl) (by rfl) (by rfl) ?_
          intro w4 hM4 t4
          have z4:=turned_size t4
          have HG4:=hid (HG3.out.obj (turned_other t4 (by omega)) (turned_other t4 (by omega)))
          have HM4:=hid hM4
          have HGR4:=hid (grownBy.turned HGR3.out t4)
          clear t4 hM4 hMb3
          go_wp2_with fail
          go_roundg k3
          case measure=>exact hlt3
          case rel=>
           refine⟨_,_,HG4.out,HM4.out,fun c=>?_,HGR4.out,by omega⟩
           by_cases e:c=ckOf x u hdx
           ·subst e
            rw[rupV_same,ckOf_1,if_pos ⟨HX3.out,by simp⟩]
            rfl
           ·rw [rupV_ne e,HMc.out c]
            by_cases e1:c.1.1=x
            ·have e2:¬fnd c.1.1 (wrM s)=some c.1.2:=fun h=>by
              rw[e1,HX3.out] at h
              exact e (Subtype.ext (Prod.ext e1 (Option.some.inj h).symm))
             rw[if_neg fun h=>e2 h.1,if_neg fun h=>e2 h.1]
            ·have e3:(c.1.1==x)=false:=by simpa using e1
             simp[e3]
       ·have q3:(s.status==3)=false:=by simpa using h3
        have HS3:=hid h3
        obtain⟨yb,hyb⟩:∃yb:Bool,(lev==3)=yb:=⟨_,rfl⟩
        have HYB:=hid (show yb=(false||decide (lev=3)) by rw[←hyb];simp;rfl)
        by_cases h2:s.status=2
        ·have q2:(s.status==2)=true:=by simpa using h2
         have HMY:=hid (show mayT s=true by simp[mayT,h2])
         clear h3 h2
         have hne8:∀k,k≠n0+1+1+1→((wr.setCell ⟨n0+1+1+1,10,none⟩ (.bool false)).setCell ⟨n0+1+1+1,9,none⟩ (.bool yb)).heap[k]?=wr.heap[k]?:=fun k hk=>by
          rw[RowKit.Below.heap_setCell _ _ _ _ hk,RowKit.Below.heap_setCell _ _ _ _ hk]
         have M8:=hid (show((wr.setCell ⟨n0+1+1+1,10,none⟩ (.bool false)).setCell ⟨n0+1+1+1,9,none⟩ (.bool yb)).heap[n0+1+1+1]?=some (.cells #[.int .i64 s.id,.int .i64 s.thread,.int .i64 s.status,.int .i64 s.beg,.int .i64 s.fin,.int .i64 s.tri,.slice ad s.deeds.length cd,.map (some (n0+1)),.map (some (n0+1+1)),.bool yb,.bool false] 140 (0,0)) by
          have:=row_set (row_set M7.out 10 (.bool false)) 9 (.bool yb)
          simpa using this)
         have R8:=hid (IsMapK.obj R7.out (hne8 (n0+1) (by omega)))
         have V8:=hid (IsMapK.obj V7.out (hne8 (n0+1+1) (by omega)))
         have DV8:=hid (DV7.out.sameB fun k e=>hne8 k (by have:=DVB.out k e;omega))
         have HF8:=hid (HF7.out.keep (Nat.le_refl _) fun k h1 h2=>hne8 k (by omega))
         have B18:=hid ((B17.out.setCell (p:=⟨n0+1+1+1,10,none⟩) (show W1.heap.size≤n0+1+1+1 by omega) (.bool false)).setCell (p:=⟨n0+1+1+1,9,none⟩) (show W1.heap.size≤n0+1+1+1 by omega) (.bool yb))
         have hz8:wr.heap.size≤((wr.setCell ⟨n0+1+1+1,10,none⟩ (.bool false)).setCell ⟨n0+1+1+1,9,none⟩ (.bool yb)).heap.size:=by simp
         have MA8:=hid (show MvAt ((wr.setCell ⟨n0+1+1+1,10,none⟩ (.bool false)).setCell ⟨n0+1+1+1,9,none⟩ (.bool yb)) w.heap.size (n0+1+1+1+1) ⟨n0+1+1+1,n0+1,n0+1+1,.slice ad s.deeds.length cd⟩ s yb false from⟨M8.out,OwnF.base DV8.out (by omega),fun k e=>by have:=DVB.out k e;omega,R8.out,V8.out,by simp only;omega⟩)
         clear hne8 M7 R7 V7 DV7 HF7 B17
         have HDW:=hid (foldU_dom (g:=Dd.val) (X:=writesF s.deeds) (M:=[]) (fun _ h=>by cases h) fun x hx=>HDo.out x (writesF_mem hx):KDom dI (wrM s))
         have HSW:=hid (srt_wrM s)
         have HVW:=hid (fun(x u:Int) (h:(x,u) ∈ wrM s)=>(show dI x∧dI u from⟨HDW.out _ h,HVu.out x u h⟩))
         go_wp2_with (at_range;refine Stop.halt ?_)
         refine Stop.go ?_
         generalize ((wr.setCell ⟨n0+1+1+1,10,none⟩ (.bool false)).setCell ⟨n0+1+1+1,9,none⟩ (.bool yb))=W8 at *
         refine V8.out.wpList_range keyI HDW.out HSW.out Tryz.underlying138 rfl rfl (by rfl) ?_
         intro Y hrg hg hz
         have HG:=hid hrg
         have HY0:=hid (show W8.grownBy Y (some W1.heap.size) from⟨hg.os,hg.tape,hg.output,hg.size,fun k hk _=>hg.block k hk (by simp)⟩)
         have RB:=hid (HF8.out.by_.obj (hg.block W1.heap.size (by omega) (by simp)))
         have hzY:W8.heap.size < Y.heap.size:=by omega
         clear hrg hg hz ym8 ym9 ym10 yml yf y2 yl
         go_wp2_with fail
         go_frame
         go_loopg [16] (wrM s).length (fun kk _ wq=>∃(S:Int→Bool) (Mb:Ck→Option Value),RngI wq (n0+1+1) W8.heap.size (wrM s) S kk∧RawV ckV wq W1.heap.size Mb∧(∀c:Ck,Mb c=if fnd c.1.1 (wrM s)=some c.1.2∧S c.1.1=false then some (ptrV (n0+1+1+1)) else byM (A.take k) ms c)∧W8.grownBy wq (some W1.heap.size)∧W8.heap.size < wq.heap.size)
         case atStart=>exact⟨_,_,HG.out,RB.out,fun c=>by simp,HY0.out,hzY⟩
         case round=>
          obtain⟨S,Mb,hrg,hmb,hmc,hgr,hzq⟩:=hrel
          have HG:=hid hrg
          have HMb:=hid hmb
          have HMc:=hid hmc
          have HGR:=hid hgr
          clear hrg hmb hmc hgr RB HY0 hzY
          go_wp2_with (at_next;refine Stop.halt ?_)
          refine Stop.go ?_
          refine HG.out.wpList_next keyI elem_int HDW.out HSW.out rfl rfl (by rfl) ?_ ?_
          ·intro hd
           have HF9:=hid (show wr.heap[W1.heap.size+1]?=_∧OwnF Mvr.cells 133 1 wr w.heap.size (.slice al ms.length cl) ms from⟨row_grown HGR.out (by omega) HF8.out.row,HF8.out.lst.sameB fun j e=>HGR.out.block j (by have:=HF8.out.lstb j e;omega) fun e2=>OwnF.neM HF8.out.lst HF8.out.by_.isMap (e.trans (congrArg some (Option.some.inj e2)))⟩)
           have LVB:=hid (fun j (e:(Value.slice al ms.length cl).ownBlock=some j)=>HLB.out j e)
           have RWA:=hid (fun(c:Ck)=>(show Mb c=byM (A.take k++[s]) (ms++[⟨n0+1+1+1,n0+1,n0+1+1,.slice ad s.deeds.length cd⟩]) c by
            rw[byM_snoc _ _ _ _ HF8.out.len,HMc.out c]
            by_cases h:fnd c.1.1 (wrM s)=some c.1.2
            ·rw [if_pos ⟨h,hd _ ((fnd_some HSW.out).1 h)⟩,if_pos ⟨HMY.out,h⟩]
            ·rw [if_neg fun h2=>h h2.1,if_neg fun h2=>h h2.2]))
           have BX:=hid (B18.out.trans (grownBy.toBelow HGR.out (K:=W1.heap.size) (Nat.le_refl _) (by omega)))
           clear hd HG HMc
           have rp:=HF9.out.1
           have HL9:=hid HF9.out.2
           have hpl:=row_lt rp
           have hml:ms.length≤400:=by have:=HF8.out.len;rw[List.length_take] at this;have:=HD.out.len;omega
           have yp:=row_cell rp
           have yp3:=yp 3
           simp at yp3
           have HZ9:=hid (show w.heap.size≤wr.heap.size by omega)
           clear yp rp
           go_wp2_with (at_builtin;refine wpList_appF rfl _ _ _ rfl _ 8 Tryz.underlying131 infoMv rfl HL9.out (⟨n0+1+1+1,n0+1,n0+1+1,.slice ad s.deeds.length cd⟩:Mvr) HZ9.out (by rfl) (by rfl) (by first|rfl|simp) rfl (mv_one _) (by first|omega|(simp only[List.length_append,List.length_cons,List.length_nil,List.length_replicate];omega)) (by first|omega|(simp only[List.length_append,List.length_cons,List.length_nil,List.length_replicate];omega)) ?_;refine Stop.halt ?_)
           refine Stop.go ?_
           intro g9 c9 w9 o9 G9
           have o9:OwnF Mvr.cells 133 1 w9 w.heap.size (.slice (some ⟨g9,0,none⟩) (ms.length+1) c9) (ms++[⟨n0+1+1+1,n0+1,n0+1+1,.slice ad s.deeds.length cd⟩]):=o9
           have r9:w9.heap[W1.heap.size+1]?=some _:=row_grw HF9.out.1 G9 (OwnF.neT HF9.out.2 HF9.out.1 (by decide))
           have z9:=G9.size
           have yp:=row_cell r9
           have yq3:=yp 3
           simp at yq3
           have yqf:=row_free r9 3
           have yql:=row_lt r9
           have FA:=hid (FwAt.add (x:=false) HF8.out HYB.out MA8.out (by omega) (by omega) (by simp only;omega) HGR.out HMb.out RWA.out G9 o9)
           have BA:=hid ((BX.out.trans (G9.below (B:=W1.heap.size) (by omega) fun j hj=>LVB.out j hj)).setCell (p:=⟨W1.heap.size+1,3,none⟩) (show W1.heap.size≤W1.heap.size+1 by omega) (.slice (some ⟨g9,0,none⟩) (ms.length+1) c9))
           have LB9:=hid (fun j (e:(Value.slice (some ⟨g9,0,none⟩) (ms.length+1) c9).ownBlock=some j)=>(show W1.heap.size≤j from by
            rcases G9.own j e with h|h
            ·exact LVB.out j h
            ·omega))
           clear yp r9 o9 G9
           go_wp2_with fail
           go_roundw
           case rel=>
            refine⟨k+1,ms++[⟨n0+1+1+1,n0+1,n0+1+1,.slice ad s.deeds.length cd⟩],.slice (some ⟨g9,0,none⟩) (ms.length+1) c9,by omega,by go_num,?_,LB9.out,BA.out⟩
            rw[HTK.out,firstT_snoc,show decide (s.status=3)=false from by simp[HS3.out]]
            have:=FA.out
            simpa using this
           case measure=>simp[intOf];omega
          ·intro x u w3 k3 hxm hS hrg3 hlt3 hg3 hz3 hen
           have hdx:=HVW.out x u hxm
           have hMb3:=HMb.out.obj (hg3.block W1.heap.size (by omega) fun e=>by have:=Option.some.inj e;omega)
           have HG3:=hid hrg3
           have HX3:=hid ((fnd_some HSW.out).2 hxm)
           have HGR3:=hid (show W8.grownBy w3 (some W1.heap.size) from⟨hg3.os.trans HGR.out.os,hg3.tape.trans HGR.out.tape,hg3.output.trans HGR.out.output,by omega,fun k hk hq=>(hg3.block k (by omega) fun e=>by have:=Option.some.inj e;omega).trans (HGR.out.block k hk hq)⟩)
           have r3:=row_grown HGR3.out (by omega) HF8.out.row
           have yq:=row_cell r3 4
           simp at yq
           have yql:=row_lt r3
           clear hrg3 hg3 r3 HG HGR
           go_wp2_with (at_mapUpdate;refine Stop.halt ?_)
           refine Stop.go ?_
           refine hMb3.wpList_store ck Tryz.underlying135 (a:=ckOf x u hdx) (v:=.pointer (some ⟨n0+1+1+1,0,none⟩)) rfl rfl (by rfl) (by rfl) (by rfl) ?_
           intro w4 hM4 t4
           have z4:=turned_size t4
           have HG4:=hid (HG3.out.obj (turned_other t4 (by omega)) (turned_other t4 (by omega)))
           have HM4:=hid hM4
           have HGR4:=hid (grownBy.turned HGR3.out t4)
           clear t4 hM4 hMb3
           go_wp2_with fail
           go_roundg k3
           case measure=>exact hlt3
           case rel=>
            refine⟨_,_,HG4.out,HM4.out,fun c=>?_,HGR4.out,by omega⟩
            by_cases e:c=ckOf x u hdx
            ·subst e
             rw[rupV_same,ckOf_1,if_pos ⟨HX3.out,by simp⟩]
             rfl
            ·rw [rupV_ne e,HMc.out c]
             by_cases e1:c.1.1=x
             ·have e2:¬fnd c.1.1 (wrM s)=some c.1.2:=fun h=>by
               rw[e1,HX3.out] at h
               exact e (Subtype.ext (Prod.ext e1 (Option.some.inj h).symm))
              rw[if_neg fun h=>e2 h.1,if_neg fun h=>e2 h.1]
             ·have e3:(c.1.1==x)=false:=by simpa using e1
              simp[e3]
        ·have q2:(s.status==2)=false:=by simpa using h2
         have HMN:=hid (show mayT s=false by simp[mayT,h2,h3])
         clear h3 h2
         have hne8:∀k,k≠n0+1+1+1→((wr.setCell ⟨n0+1+1+1,10,none⟩ (.bool false)).setCell ⟨n0+1+1+1,9,none⟩ (.bool yb)).heap[k]?=wr.heap[k]?:=fun k hk=>by
          rw[RowKit.Below.heap_setCell _ _ _ _ hk,RowKit.Below.heap_setCell _ _ _ _ hk]
         have M8:=hid (show((wr.setCell ⟨n0+1+1+1,10,none⟩ (.bool false)).setCell ⟨n0+1+1+1,9,none⟩ (.bool yb)).heap[n0+1+1+1]?=some (.cells #[.int .i64 s.id,.int .i64 s.thread,.int .i64 s.status,.int .i64 s.beg,.int .i64 s.fin,.int .i64 s.tri,.slice ad s.deeds.length cd,.map (some (n0+1)),.map (some (n0+1+1)),.bool yb,.bool false] 140 (0,0)) by
          have:=row_set (row_set M7.out 10 (.bool false)) 9 (.bool yb)
          simpa using this)
         have R8:=hid (IsMapK.obj R7.out (hne8 (n0+1) (by omega)))
         have V8:=hid (IsMapK.obj V7.out (hne8 (n0+1+1) (by omega)))
         have DV8:=hid (DV7.out.sameB fun k e=>hne8 k (by have:=DVB.out k e;omega))
         have HF8:=hid (HF7.out.keep (Nat.le_refl _) fun k h1 h2=>hne8 k (by omega))
         have B18:=hid ((B17.out.setCell (p:=⟨n0+1+1+1,10,none⟩) (show W1.heap.size≤n0+1+1+1 by omega) (.bool false)).setCell (p:=⟨n0+1+1+1,9,none⟩) (show W1.heap.size≤n0+1+1+1 by omega) (.bool yb))
         have hz8:wr.heap.size≤((wr.setCell ⟨n0+1+1+1,10,none⟩ (.bool false)).setCell ⟨n0+1+1+1,9,none⟩ (.bool yb)).heap.size:=by simp
         have MA8:=hid (show MvAt ((wr.setCell ⟨n0+1+1+1,10,none⟩ (.bool false)).setCell ⟨n0+1+1+1,9,none⟩ (.bool yb)) w.heap.size (n0+1+1+1+1) ⟨n0+1+1+1,n0+1,n0+1+1,.slice ad s.deeds.length cd⟩ s yb false from⟨M8.out,OwnF.base DV8.out (by omega),fun k e=>by have:=DVB.out k e;omega,R8.out,V8.out,by simp only;omega⟩)
         clear hne8 M7 R7 V7 DV7 HF7 B17
         have HF9:=hid (show _∧_ from⟨HF8.out.row,HF8.out.lst⟩)
         have LVB:=hid (fun j (e:(Value.slice al ms.length cl).ownBlock=some j)=>HLB.out j e)
         have RWA:=hid (fun(c:Ck)=>(show byM (A.take k) ms c=byM (A.take k++[s]) (ms++[⟨n0+1+1+1,n0+1,n0+1+1,.slice ad s.deeds.length cd⟩]) c by
          rw[byM_snoc _ _ _ _ HF8.out.len,if_neg fun h=>by rw[HMN.out] at h;cases h.1]))
         have BX:=hid B18.out
         have rp:=HF9.out.1
         have HL9:=hid HF9.out.2
         have hpl:=row_lt rp
         have hml:ms.length≤400:=by have:=HF8.out.len;rw[List.length_take] at this;have:=HD.out.len;omega
         have yp:=row_cell rp
         have yp3:=yp 3
         simp at yp3
         have HZ9:=hid (show w.heap.size≤((wr.setCell ⟨n0+1+1+1,10,none⟩ (.bool false)).setCell ⟨n0+1+1+1,9,none⟩ (.bool yb)).heap.size by omega)
         clear yp rp
         go_wp2_with (at_builtin;refine wpList_appF rfl _ _ _ rfl _ 8 Tryz.underlying131 infoMv rfl HL9.out (⟨n0+1+1+1,n0+1,n0+1+1,.slice ad s.deeds.length cd⟩:Mvr) HZ9.out (by rfl) (by rfl) (by first|rfl|simp) rfl (mv_one _) (by first|omega|(simp only[List.length_append,List.length_cons,List.length_nil,List.length_replicate];omega)) (by first|omega|(simp only[List.length_append,List.length_cons,List.length_nil,List.length_replicate];omega)) ?_;refine Stop.halt ?_)
         refine Stop.go ?_
         intro g9 c9 w9 o9 G9
         have o9:OwnF Mvr.cells 133 1 w9 w.heap.size (.slice (some ⟨g9,0,none⟩) (ms.length+1) c9) (ms++[⟨n0+1+1+1,n0+1,n0+1+1,.slice ad s.deeds.length cd⟩]):=o9
         have r9:w9.heap[W1.heap.size+1]?=some _:=row_grw HF9.out.1 G9 (OwnF.neT HF9.out.2 HF9.out.1 (by decide))
         have z9:=G9.size
         have yp:=row_cell r9
         have yq3:=yp 3
         simp at yq3
         have yqf:=row_free r9 3
         have yql:=row_lt r9
         have FA:=hid (FwAt.add (x:=false) HF8.out HYB.out MA8.out (by omega) (by omega) (by simp only;omega) (grownBy.refl _ _) HF8.out.by_ RWA.out G9 o9)
         have BA:=hid ((BX.out.trans (G9.below (B:=W1.heap.size) (by omega) fun j hj=>LVB.out j hj)).setCell (p:=⟨W1.heap.size+1,3,none⟩) (show W1.heap.size≤W1.heap.size+1 by omega) (.slice (some ⟨g9,0,none⟩) (ms.length+1) c9))
         have LB9:=hid (fun j (e:(Value.slice (some ⟨g9,0,none⟩) (ms.length+1) c9).ownBlock=some j)=>(show W1.heap.size≤j from by
          rcases G9.own j e with h|h
          ·exact LVB.out j h
          ·omega))
         clear yp r9 o9 G9
         go_wp2_with fail
         go_roundw
         case rel=>
          refine⟨k+1,ms++[⟨n0+1+1+1,n0+1,n0+1+1,.slice ad s.deeds.length cd⟩],.slice (some ⟨g9,0,none⟩) (ms.length+1) c9,by omega,by go_num,?_,LB9.out,BA.out⟩
          rw[HTK.out,firstT_snoc,show decide (s.status=3)=false from by simp[HS3.out]]
          have:=FA.out
          simpa using this
         case measure=>simp[intOf];omega
  ·obtain rfl:k=rs.length:=by omega
   have hkl:=HRL.out
   have HFA:=hid (show FwAt wr w.heap.size wr.heap.size (W1.heap.size+1) W1.heap.size lev (.slice ao no co) (.slice av nv cv) ms (.slice al ms.length cl) A (firstT A) from by
    have h:=HF.out
    rw[hkl,List.take_length] at h
    exact h)
   have hq:decide ((rs.length:Int) < (rs.length:Int))=false:=by simp
   have hml:ms.length=A.length:=HFA.out.len
   have hal:A.length≤400:=HD.out.len
   have HIDo:=hid (fun(s:St) (hs:s ∈ A)=>srt_rdM s)
   have HRdo:=hid (fun(s:St) (hs:s ∈ A)=>(foldU_dom (g:=Dd.got) (X:=readsF [] s.deeds) (M:=[]) (fun _ h=>by cases h) fun x hx=>HD.out.dobj hs (readsF_mem hx).1:KDom dI (rdM s)))
   have HRvo:=hid (fun(s:St) (hs:s ∈ A) (x u:Int) (h:(x,u) ∈ rdM s)=>(show dI x∧dI u from⟨HRdo.out s hs _ h,by
    have h:=(fnd_some (srt_rdM s)).2 h
    rw[rdM_last] at h
    obtain⟨d,hd,-,e⟩:=(lastO_mem h).resolve_right (by simp)
    rw[←e]
    exact(HD.out.val s hs d (readsF_mem hd).1).2⟩))
   have B0x:=hid HB.out
   obtain⟨wx,hwx⟩:∃wx,wx=wr:=⟨_,rfl⟩
   rw[←hwx] at HFA B0x hszB
   have hml4:ms.length≤400:=by omega
   have hlx:=row_lt HFA.out.row
   have HML:=hid hml
   clear hkl HF HB HLB hml
   subst hwx
   have hcl0:cntT (firstT A)≤A.length:=by have:=cntT_le (firstT A);rw[firstT_len] at this;exact this
   have BXX:=hid (B1.out.trans (B0x.out.mono (by omega)))
   go_wp2_with fail
   go_loopg [18] (2*(A.length - cntT (firstT A))+1) (fun kk q wr=>∃(more:Bool) (T:List Bool) (n:Nat),q=.bool more∧kk=2*(A.length - cntT T)+(if more=true then 1 else 0)∧T=fixT lev A n (firstT A)∧n≤cntT T∧(more=false→passF lev A T=T)∧FwAt wr w.heap.size wx.heap.size (W1.heap.size+1) W1.heap.size lev (.slice ao no co) (.slice av nv cv) ms (.slice al ms.length cl) A T∧Below w.heap.size w wr∧wx.heap.size≤wr.heap.size)
   case atStart=>exact⟨true,firstT A,0,rfl,by simp,rfl,by omega,(fun h=>by cases h),HFA.out,BXX.out,Nat.le_refl _⟩
   case round=>
    obtain⟨more,T,n,rfl,rfl,hT,hn,hfix,hF,hB,hszx⟩:=hrel
    have hnT:=cntT_le T
    rw[hF.tl] at hnT
    have HT:=hid hT
    have HFX:=hid hfix
    have HF:=hid hF
    have HB:=hid hB
    clear hT hfix hF hB HFA BXX
    cases more with
    |false=>
     have HP:=hid (HFX.out rfl)
     have HTk:=hid (taken_of HP.out (by omega) HT.out.symm)
     go_wp2_with fail
     refine bodyPost_ret (v:=.tuple #[.pointer (some ⟨W1.heap.size+1,0,none⟩),.nilIface]) (by simp[results,Tryz.results31,go_sem]) rfl ?_
     refine⟨W1.heap.size+1,W1.heap.size,ms,.slice al ms.length cl,rfl,?_,HB.out⟩
     rw[HTk.out]
     exact HF.out.keep hszx fun _ _ _=>rfl
    |true=>
     have rp:=HF.out.row
     have yp:=row_cell rp 3
     simp at yp
     have ypl:=row_lt rp
     clear rp
     go_wp2_with fail
     go_loopw [18,141] (fun q p wq=>∃(m':Bool) (i:Nat) (T':List Bool),q=.bool m'∧p=.int .i64 i∧i≤ms.length∧T'=(List.range i).foldl (pass1 lev A) T∧(m'=false∧T'=T∨m'=true∧cntT T < cntT T')∧FwAt wq w.heap.size wx.heap.size (W1.heap.size+1) W1.heap.size lev (.slice ao no co) (.slice av nv cv) ms (.slice al ms.length cl) A T'∧Below w.heap.size w wq∧wx.heap.size≤wq.heap.size) (fun _ p _=>ms.length - (intOf p).toNat)
     case atStart=>exact⟨false,0,T,rfl,by go_num,by omega,rfl,.inl ⟨rfl,rfl⟩,HF.out,HB.out,hszx⟩
     case round=>
      obtain⟨m',i,T',rfl,rfl,hi,hT',hJ,hF',hB',hszq⟩:=hrel
      have HT':=hid hT'
      have HJ:=hid hJ
      have HF':=hid hF'
      have HB':=hid hB'
      clear hT' hJ hF' hB' yp ypl
      by_cases hlt:i < ms.length
      ·obtain ⟨bl,ol,m,hgl,hgbl,hmi,hcl⟩:=(OwnF.sl HF'.out.lst).atF Mvr.len rfl hlt
       subst hgl
       have hcm:wr.cell? ⟨bl,ol+i,none⟩=some (.pointer (some ⟨m.p,0,none⟩)):=by have:=hcl 0 (by decide);simpa[Mvr.cells,ptrV] using this
       obtain⟨m0,s,g1,hsi,hMv⟩:=HF'.out.get (k:=i) (by rw[←HML.out];exact hlt)
       rw[hmi] at g1
       obtain rfl:=Option.some.inj g1
       have rm:=hMv.row
       have ym:=row_cell rm 7
       simp at ym
       have yml:=row_lt rm
       have RM:=hid hMv.rd
       have HMI:=hid hmi
       have HSI:=hid hsi
       have hsm:=List.mem_of_getElem? hsi
       have HSRT:=hid (HIDo.out s hsm)
       have HDOM:=hid (HRdo.out s hsm)
       have HRV:=hid (HRvo.out s hsm)
       have hrb:=hMv.b
       clear hmi hsi rm hMv hsm hcl
       go_wp2_with (at_range;refine Stop.halt ?_)
       refine Stop.go ?_
       refine RM.out.wpList_range keyI HDOM.out HSRT.out Tryz.underlying138 rfl rfl (by rfl) ?_
       intro Y hrg hg hz
       have HG:=hid hrg
       have bY:=below_ranged (Below.refl wr.heap.size wr) hg (Nat.le_refl _)
       have FY:=hid (HF'.out.below bY hszq (Nat.le_refl _))
       have BY:=hid (HB'.out.trans (bY.mono HB'.out.size))
       have hzY:wr.heap.size < Y.heap.size:=by omega
       obtain⟨w5,hw5⟩:∃w5,w5=wr:=⟨_,rfl⟩
       have HLT:=hid HF'.out.tl
       clear hrg hg hz bY HF' HB' ym yml hcm RM hrb
       subst hw5
       go_wp2_with fail
       go_frame
       go_loopg [18] (rdM s).length (fun kk q wq=>∃(m2:Bool) (S:Int→Bool) (T2:List Bool),q=.bool m2∧RngI wq m.r w5.heap.size (rdM s) S kk∧(∀j,T2.getD j false=true↔T'.getD j false=true∨(lookF lev T' i=true∧∃p ∈ rdM s,S p.1=false∧Turns A i j p))∧(m2=false∧T2=T∨m2=true∧cntT T < cntT T2)∧FwAt wq w.heap.size wx.heap.size (W1.heap.size+1) W1.heap.size lev (.slice ao no co) (.slice av nv cv) ms (.slice (some ⟨bl,ol,none⟩) ms.length cl) A T2∧Below w.heap.size w wq∧w5.heap.size < wq.heap.size)
       case atStart=>exact⟨m',fun _=>true,T',rfl,HG.out,fun j=>by simp,HJ.out,FY.out,BY.out,hzY⟩
       case round=>
        obtain⟨m2,S,T2,rfl,hrg,hiff,hJ2,hF2,hB2,hz2⟩:=hrel
        have HG:=hid hrg
        have HI:=hid hiff
        have HJ2:=hid hJ2
        have HF2:=hid hF2
        have HB2:=hid hB2
        clear hrg hiff hJ2 hF2 hB2 HJ FY BY hzY
        go_wp2_with (at_next;refine Stop.halt ?_)
        refine Stop.go ?_
        refine HG.out.wpList_next keyI elem_int HDOM.out HSRT.out rfl rfl (by rfl) ?_ ?_
        ·intro hd
         have HT2:=hid (show T2=pass1 lev A T' i from by
          refine flags_ext (by rw[HF2.out.tl,pass1_len,HLT.out]) fun j=>?_
          rw[HI.out j]
          unfold pass1
          rw[HSI.out]
          show _↔(if lookF lev T' i=true then markF A i (rdM s) T' else T').getD j false=true
          by_cases hl:lookF lev T' i=true
          ·rw [if_pos hl,markF_get HLT.out]
           constructor
           ·rintro (h|⟨-,p,h1,h2,h3⟩)
            ·exact .inl h
            ·exact .inr ⟨p,h1,h3⟩
           ·rintro (h|⟨p,h1,h3⟩)
            ·exact .inl h
            ·exact .inr ⟨hl,p,h1,hd p h1,h3⟩
          ·rw [if_neg hl]
           constructor
           ·rintro (h|⟨h,-⟩)
            ·exact h
            ·exact absurd h hl
           ·exact .inl)
         clear hd HG HI
         go_wp2_with fail
         go_roundw
         case rel=>exact⟨m2,i+1,T2,rfl,by go_num,by omega,by rw[List.range_succ,List.foldl_append,←HT'.out];exact HT2.out,HJ2.out,HF2.out,HB2.out,by omega⟩
         case measure=>simp[intOf];omega
        ·intro x u w3 k3 hxm hS hrg3 hlt3 hg3 hz3 hen
         have hdx:=HRV.out x u hxm
         have F3:=hid (HF2.out.keep (Nat.le_refl _) fun k h1 h2=>hg3.block k (by omega) fun e=>by have:=Option.some.inj e;omega)
         have B3:=hid (below_next HB2.out hg3 HB2.out.size (by have:=B1.out.size;omega))
         have HG3:=hid hrg3
         have HX:=hid hxm
         have rp:=F3.out.row
         have yp:=row_cell rp 4
         simp at yp
         have ypl:=row_lt rp
         obtain⟨m0,s0,g1,g2,hMv⟩:=F3.out.get (k:=i) (by rw[←HML.out];exact hlt)
         rw[HMI.out] at g1
         obtain rfl:=Option.some.inj g1
         have y9:=row_cell hMv.row 9
         simp at y9
         have yml:=row_lt hMv.row
         have HRM:=hid hMv.row
         have lk:=(F3.out.by_.look ck Tryz.underlying135 (zeroMp _) (ckOf x u hdx) rfl).1
         simp only[ckV,ckOf_1] at lk
         clear hrg3 hg3 rp hMv g1 g2 HG
         have hlk:lookF lev T2 i=lookF lev T' i:=by
          have h:=HI.out i
          have e:T2.getD i false=T'.getD i false:=by
           cases h1:T2.getD i false with
           |true=>
            rcases h.1 h1 with h2|⟨-,p,-,-,h3,h4⟩
            ·exact h2.symm
            ·exact absurd rfl h4
           |false=>
            cases h2:T'.getD i false with
            |true=>rw[h.2 (.inl h2)] at h1;cases h1
            |false=>rfl
          unfold lookF
          rw[e]
         rw[hlk] at y9
         obtain⟨lb,hlb⟩:∃lb,lookF lev T' i=lb:=⟨_,rfl⟩
         rw[hlb] at y9
         have HLBI:=hid hlb
         clear hlk hlb
         cases lb with
         |false=>
          obtain⟨vq,hvq⟩:∃vq,(byM A ms (ckOf x u hdx)).getD (.pointer none)=vq:=⟨_,rfl⟩
          rw[hvq] at lk
          clear hvq
          go_wp2_with fail
          go_roundg k3
          case measure=>exact hlt3
          case rel=>
           refine⟨m2,fun z=>S z&&!(z==x),T2,rfl,HG3.out,fun j=>?_,HJ2.out,F3.out,B3.out,by omega⟩
           rw[turn_step HSRT.out HX.out,HI.out j,HLBI.out]
           simp
         |true=>
          cases hby:byF A x u with
          |none=>
           have hbM:byM A ms (ckOf x u hdx)=none:=by unfold byM;rw[ckOf_1];simp only[hby,Option.bind_none]
           rw[hbM] at lk
           have HBY:=hid hby
           clear hbM hby
           simp only[Option.getD_none] at lk
           go_wp2_with fail
           go_roundg k3
           case measure=>exact hlt3
           case rel=>
            refine⟨m2,fun z=>S z&&!(z==x),T2,rfl,HG3.out,fun j=>?_,HJ2.out,F3.out,B3.out,by omega⟩
            rw[turn_step HSRT.out HX.out,HI.out j]
            have hno:¬Turns A i j (x,u):=fun h=>by have:=h.1;rw[HBY.out] at this;cases this
            rw[or_iff_left hno]
          |some j0=>
           have hj0:=byF_lt hby
           obtain⟨mj,sj,g1,g2,hMj⟩:=F3.out.get hj0
           have hbM:byM A ms (ckOf x u hdx)=some (.pointer (some ⟨mj.p,0,none⟩)):=by unfold byM;rw[ckOf_1];simp only[hby,Option.bind_some,g1];rfl
           rw[hbM] at lk
           simp only[Option.getD_some] at lk
           have HBY:=hid hby
           have HG1:=hid g1
           have HPJ:=hid (show mj.p=m.p↔j0=i from⟨fun e=>F3.out.inj j0 i mj m g1 HMI.out e,fun e=>by subst e;rw[HMI.out] at g1;rw[Option.some.inj g1]⟩)
           have z10:=row_cell hMj.row 10
           have z9:=row_cell hMj.row 9
           simp at z10 z9
           have zl:=row_lt hMj.row
           have zf:=fun o=>row_free hMj.row o
           have HRJ:=hid hMj.row
           have HPB:=hid hMj.b
           clear hbM hby g1 g2 hMj
           by_cases hji:j0=i
           ·have hpe:mj.p=m.p:=HPJ.out.2 hji
            have HJI:=hid hji
            rw[hpe] at lk
            have hpn:=ptr_neq HRM.out HRM.out
            simp only[decide_true,Bool.not_true] at hpn
            clear hji hpe z10 z9 zl zf
            go_wp2_with fail
            go_roundg k3
            case measure=>exact hlt3
            case rel=>
             refine⟨m2,fun z=>S z&&!(z==x),T2,rfl,HG3.out,fun j=>?_,HJ2.out,F3.out,B3.out,by omega⟩
             rw[turn_step HSRT.out HX.out,HI.out j]
             have hno:¬Turns A i j (x,u):=fun h=>by have h1:=h.1;rw[HBY.out] at h1;exact h.2 ((Option.some.inj h1).symm.trans HJI.out)
             rw[or_iff_left hno]
           ·have hpe:mj.p≠m.p:=fun e=>hji (HPJ.out.1 e)
            have HJI:=hid hji
            have hpn:=ptr_neq HRJ.out HRM.out
            rw[show decide (mj.p=m.p)=false by simpa using hpe] at hpn
            simp only[Bool.not_false] at hpn
            clear hji
            obtain⟨tb,htb⟩:∃tb,T2[j0]?.getD false=tb:=⟨_,rfl⟩
            rw[htb] at z10
            have HTB:=hid (show T2.getD j0 false=tb by rw[List.getD_eq_getElem?_getD];exact htb)
            clear htb
            cases tb with
            |true=>
             go_wp2_with fail
             go_roundg k3
             case measure=>exact hlt3
             case rel=>
              refine⟨m2,fun z=>S z&&!(z==x),T2,rfl,HG3.out,fun j=>?_,HJ2.out,F3.out,B3.out,by omega⟩
              rw[turn_step HSRT.out HX.out,HI.out j]
              have hto:Turns A i j (x,u)→(T'.getD j false=true∨(lookF lev T' i=true∧∃p ∈ rdM s,S p.1=false∧Turns A i j p)):=fun h=>by
               have h1:=h.1
               rw[HBY.out] at h1
               obtain rfl:=Option.some.inj h1
               exact(HI.out j0).1 HTB.out
              constructor
              ·rintro (h|⟨h1,h2⟩)
               ·exact .inl h
               ·exact .inr ⟨h1,.inl h2⟩
              ·rintro (h|⟨h1,h2|h2⟩)
               ·exact .inl h
               ·exact .inr ⟨h1,h2⟩
               ·exact hto h2
            |false=>
             have FF:=hid (F3.out.flag HG1.out)
             have BF:=hid ((B3.out.setCell (p:=⟨mj.p,10,none⟩) HPB.out.1.1 (.bool true)).setCell (p:=⟨mj.p,9,none⟩) HPB.out.1.1 (.bool true))
             have hzf:((w3.setCell ⟨mj.p,10,none⟩ (.bool true)).setCell ⟨mj.p,9,none⟩ (.bool true)).heap.size=w3.heap.size:=by simp
             have HZF:=hid hzf
             have hnr:∀k,k≠mj.p→((w3.setCell ⟨mj.p,10,none⟩ (.bool true)).setCell ⟨mj.p,9,none⟩ (.bool true)).heap[k]?=w3.heap[k]?:=fun k hk=>by
              rw[RowKit.Below.heap_setCell _ _ _ _ hk,RowKit.Below.heap_setCell _ _ _ _ hk]
             have HGF:=hid (HG3.out.obj (hnr m.r fun e=>cells_nm HRJ.out ⟨_,_,(HG3.out.owns).choose_spec.choose_spec.1⟩ e.symm) (hnr w5.heap.size (by have:=HPB.out.1.2;omega)))
             clear hzf hnr
             go_wp2_with fail
             go_roundg k3
             case measure=>exact hlt3
             case rel=>
              have hjT:j0 < T2.length:=by rw[HF2.out.tl];exact hj0
              refine⟨true,fun z=>S z&&!(z==x),T2.set j0 true,rfl,HGF.out,fun j=>?_,.inr ⟨rfl,?_⟩,FF.out,BF.out,by have:=HZF.out;omega⟩
              ·rw [turn_step HSRT.out HX.out,getD_set hjT,Bool.or_eq_true,decide_eq_true_eq,HI.out j,HLBI.out]
               have ht:Turns A i j (x,u)↔j=j0:=by
                constructor
                ·intro h
                 have h1:=h.1
                 rw[HBY.out] at h1
                 exact(Option.some.inj h1).symm
                ·rintro rfl
                 exact⟨HBY.out,HJI.out⟩
               rw[ht]
               constructor
               ·rintro ((h|⟨h1,h2⟩)|h)
                ·exact .inl h
                ·exact .inr ⟨h1,.inl h2⟩
                ·exact .inr ⟨rfl,.inr h⟩
               ·rintro (h|⟨h1,h2|h2⟩)
                ·exact .inl (.inl h)
                ·exact .inl (.inr ⟨h1,h2⟩)
                ·exact .inr h2
              ·rw [cntT_set hjT HTB.out]
               rcases HJ2.out with⟨-,h2⟩|⟨-,h2⟩
               ·rw [h2];omega
               ·omega
      ·have hie:i=ms.length:=by omega
       subst hie
       have hq2:decide ((ms.length:Int) < (ms.length:Int))=false:=by simp
       have HTP:=hid (show T'=passF lev A T by rw[HT'.out,HML.out];rfl)
       go_wp2_with fail
       go_roundg (2*(A.length - cntT T')+if m'=true then 1 else 0)
       case measure=>
        have hn2:=cntT_le T'
        rw[HF'.out.tl] at hn2
        rcases HJ.out with⟨h1,h2⟩|⟨h1,h2⟩
        ·rw [h1,h2];simp
        ·rw [h1];simp;omega
       case rel=>
        rcases HJ.out with⟨h1,h2⟩|⟨h1,h2⟩
        ·have hfx:passF lev A T'=T':=by rw[h2];rw[h2] at HTP;exact HTP.out.symm
         exact⟨m',T',n,rfl,rfl,by rw[h2];exact HT.out,by rw[h2];exact hn,(fun _=>hfx),HF'.out,HB'.out,hszq⟩
        ·exact ⟨m',T',n+1,rfl,rfl,by rw[fixT_succ,←HT.out];exact HTP.out,by omega,(fun h=>by rw[h1] at h;cases h),HF'.out,HB'.out,hszq⟩
end
