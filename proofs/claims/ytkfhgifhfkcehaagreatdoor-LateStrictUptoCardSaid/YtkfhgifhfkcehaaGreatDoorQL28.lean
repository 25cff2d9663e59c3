/- Parts of the proof, merged by program out of 4 texts (ShQ, ShO, ShR, ShS): the first: The automaton of well-formed histories: the map of its moves. Conditions: those of each theorem, as typed. -/
import Derived.Test.YtkfhgifhfkcehaaGreatDoorQL27
set_option linter.unusedVariables false
set_option linter.unusedSimpArgs false
set_option linter.unusedSectionVars false
set_option maxRecDepth 100000
set_option maxHeartbeats 4000000
namespace Go.Proofs.YtkfhgifhfkcehaaGreatDoor
open Go.Maps Go.RowKit
section
attribute [local irreducible] wpL
def fromOf (k:Int):List Int:=if k=3 then[2] else if k=5 then[3] else if k=6 then[1,2,3,4] else[1]
def DoIs (w:World) (B0:Nat) (k:Int) (F:FuncId) (caps:Array Value):Prop:=
 (k=2∧F=154∧caps=#[])∨(k=3∧F=155∧caps=#[])∨(k=4∧F=157∧caps=#[])∨(k=7∧F=158∧caps=#[])∨
 (F=153∧∃c st,(k=5∧st=3∨k=6∧st=4)∧caps=#[.pointer (some ⟨c,0,none⟩)]∧w.heap[c]?=some (.cells #[.int .i64 st] 3 (0,0))∧B0≤c)
def MvOk (w:World) (B0:Nat) (k:Int) (v:Value):Prop:=∃g F caps,v=.agg #[.slice (some ⟨g,0,none⟩) (fromOf k).length (fromOf k).length,.func (.func F) #[] caps]∧w.heap[g]?=some (.cells ((fromOf k).map (.int .i64)).toArray 3 (0,0))∧B0≤g∧DoIs w B0 k F caps
def MvsRet (w:World) (e:Ending) (w':World):Prop:=∃bm M,e=.returned (.map (some bm))∧RawM w' bm M∧(∀k:Int,2≤k→k < 8→∃v,M k=some v∧MvOk w' w.heap.size k v)∧Below w.heap.size w w'
theorem DoIs.row {w w':World} {B0:Nat} {k:Int} {F:FuncId} {caps:Array Value} (h:DoIs w B0 k F caps) (hr:∀(g:Nat) (cs:Array Value) (t:TypeId) (fz:Nat×Nat),w.heap[g]?=some (.cells cs t fz)→w'.heap[g]?=some (.cells cs t fz)):DoIs w' B0 k F caps:=by
 rcases h with h|h|h|h|⟨h1,c,st,h2,h3,h4,h5⟩
 ·exact .inl h
 ·exact .inr (.inl h)
 ·exact .inr (.inr (.inl h))
 ·exact .inr (.inr (.inr (.inl h)))
 ·exact .inr (.inr (.inr (.inr ⟨h1,c,st,h2,h3,hr _ _ _ _ h4,h5⟩)))
theorem MvOk.row {w w':World} {B0:Nat} {k:Int} {v:Value} (h:MvOk w B0 k v) (hr:∀(g:Nat) (cs:Array Value) (t:TypeId) (fz:Nat×Nat),w.heap[g]?=some (.cells cs t fz)→w'.heap[g]?=some (.cells cs t fz)):MvOk w' B0 k v:=
 let ⟨g,F,caps,h1,h2,h3,h4⟩:=h;⟨g,F,caps,h1,hr _ _ _ _ h2,h3,h4.row hr⟩
theorem mv_clos (st:Int) (w:World):Calls Tryz.prog 152 #[.int .i64 st] w fun e w'=>e=.returned (.func (.func 153) #[] #[.pointer (some ⟨w.heap.size,0,none⟩)])∧w'=w.alloc (.cells #[.int .i64 st] 3):=by
 go_enter Tryz.func152,Tryz.ntmps152
 go_wp2
 go_ret
 exact⟨rfl,rfl⟩
structure MvInv (w:World) (bm:Nat) (K:Int→Prop) (X:World):Prop where
 raw:∃M,RawM X bm M∧∀k,K k→∃v,M k=some v∧MvOk X w.heap.size k v
 below:Below w.heap.size w X
 hb:w.heap.size≤bm
theorem MvInv.alloc {w X:World} {bm:Nat} {K:Int→Prop} (h:MvInv w bm K X) (o:Obj):MvInv w bm K (X.alloc o):=by
 obtain⟨⟨M,h1,h2⟩,h3,h4⟩:=h
 have b:Below X.heap.size X (X.alloc o):=(Below.refl _ X).alloc (Nat.le_refl _) _
 exact⟨⟨M,h1.below b h1.lt,fun k hk=>let ⟨v,h5,h6⟩:=h2 k hk;⟨v,h5,h6.row fun g cs t fz hg=>row_old hg⟩⟩,h3.trans (b.mono h3.size),h4⟩
theorem MvInv.ins {w X:World} {bm:Nat} {K:Int→Prop} {k:Int} {v:Value} (h:MvInv w bm K X) (hv:MvOk X w.heap.size k v):
  ∃Y,Sem.run Tryz.prog (Instr.mapUpdate 224 (.map (some bm)) (.int .i64 k) v) X=.ok () Y∧MvInv w bm (fun j=>K j∨j=k) Y:=by
 obtain⟨⟨M,h1,h2⟩,h3,h4⟩:=h
 obtain⟨Y,hr,hm,ht⟩:=h1.store Tryz.underlying3 Tryz.underlying224 k v
 have hrow:∀(g:Nat) (cs:Array Value) (t:TypeId) (fz:Nat×Nat),X.heap[g]?=some (.cells cs t fz)→Y.heap[g]?=some (.cells cs t fz):=fun g cs t fz hg=>(turned_cells ht hg).trans hg
 refine⟨Y,hr,⟨_,hm,fun j hj=>?_⟩,h3.trans (Below.turned ht h4),h4⟩
 by_cases e:j=k
 ·subst e
  exact⟨v,rup_same,hv.row hrow⟩
 ·obtain ⟨u,h5,h6⟩:=h2 j (hj.resolve_right e)
  exact⟨u,by rw[rup_ne e];exact h5,h6.row hrow⟩
theorem s_moves (w:World):Calls Tryz.prog 117 #[] w (MvsRet w):=by
 have hmk:∀X:World,Sem.run Tryz.prog (Instr.makeMap 224 none) X=.ok (.map (some X.heap.size)) (X.alloc (.map #[] 0)):=fun X=>by kernel_rfl
 have b0:Below w.heap.size w (w.alloc (.map #[] 0)):=(Below.refl _ w).alloc (Nat.le_refl _) _
 have h0:MvInv w w.heap.size (fun _=>False) (w.alloc (.map #[] 0)):=⟨⟨_,RawM.made (row_new w _),fun k hk=>hk.elim⟩,b0,Nat.le_refl _⟩
 have z0:(w.alloc (.map #[] 0)).heap.size=w.heap.size+1:=by simp
 have a1:=h0.alloc (.cells #[.int .i64 1] 3)
 have o1:MvOk ((w.alloc (.map #[] 0)).alloc (.cells #[.int .i64 1] 3)) w.heap.size 2 (.agg #[.slice (some ⟨w.heap.size+1,0,none⟩) 1 1,.func (.func 154) #[] #[]]):=⟨w.heap.size+1,_,_,rfl,row_new' z0.symm,by omega,.inl ⟨rfl,rfl,rfl⟩⟩
 obtain⟨X1,r1,h1⟩:=a1.ins o1
 clear a1 o1 h0 b0
 have a2:=h1.alloc (.cells #[.int .i64 2] 3)
 have o2:MvOk (X1.alloc (.cells #[.int .i64 2] 3)) w.heap.size 3 (.agg #[.slice (some ⟨X1.heap.size,0,none⟩) 1 1,.func (.func 155) #[] #[]]):=⟨X1.heap.size,_,_,rfl,row_new _ _,h1.below.size,.inr (.inl ⟨rfl,rfl,rfl⟩)⟩
 obtain⟨X2,r2,h2⟩:=a2.ins o2
 clear a2 o2 h1
 have a3:=h2.alloc (.cells #[.int .i64 1] 3)
 have o3:MvOk (X2.alloc (.cells #[.int .i64 1] 3)) w.heap.size 4 (.agg #[.slice (some ⟨X2.heap.size,0,none⟩) 1 1,.func (.func 157) #[] #[]]):=⟨X2.heap.size,_,_,rfl,row_new _ _,h2.below.size,.inr (.inr (.inl ⟨rfl,rfl,rfl⟩))⟩
 obtain⟨X3,r3,h3⟩:=a3.ins o3
 clear a3 o3 h2
 have a4:=h3.alloc (.cells #[.int .i64 1] 3)
 have o4:MvOk (X3.alloc (.cells #[.int .i64 1] 3)) w.heap.size 7 (.agg #[.slice (some ⟨X3.heap.size,0,none⟩) 1 1,.func (.func 158) #[] #[]]):=⟨X3.heap.size,_,_,rfl,row_new _ _,h3.below.size,.inr (.inr (.inr (.inl ⟨rfl,rfl,rfl⟩)))⟩
 obtain⟨X4,r4,h4⟩:=a4.ins o4
 clear a4 o4 h3
 have a5:=(h4.alloc (.cells #[.int .i64 3] 3)).alloc (.cells #[.int .i64 3] 3)
 have zz5:(X4.alloc (.cells #[.int .i64 3] 3)).heap.size=X4.heap.size+1:=by simp
 have o5:MvOk ((X4.alloc (.cells #[.int .i64 3] 3)).alloc (.cells #[.int .i64 3] 3)) w.heap.size 5 (.agg #[.slice (some ⟨X4.heap.size,0,none⟩) 1 1,.func (.func 153) #[] #[.pointer (some ⟨X4.heap.size+1,0,none⟩)]]):=
  ⟨X4.heap.size,_,_,rfl,row_old (row_new _ _),h4.below.size,.inr (.inr (.inr (.inr ⟨rfl,X4.heap.size+1,3,.inl ⟨rfl,rfl⟩,rfl,row_new' zz5.symm,by have:=h4.below.size;omega⟩)))⟩
 obtain⟨X5,r5,h5⟩:=a5.ins o5
 clear a5 o5 h4 zz5
 have a6:=(h5.alloc (.cells #[.int .i64 1,.int .i64 2,.int .i64 3,.int .i64 4] 3)).alloc (.cells #[.int .i64 4] 3)
 have zz6:(X5.alloc (.cells #[.int .i64 1,.int .i64 2,.int .i64 3,.int .i64 4] 3)).heap.size=X5.heap.size+1:=by simp
 have o6:MvOk ((X5.alloc (.cells #[.int .i64 1,.int .i64 2,.int .i64 3,.int .i64 4] 3)).alloc (.cells #[.int .i64 4] 3)) w.heap.size 6 (.agg #[.slice (some ⟨X5.heap.size,0,none⟩) 4 4,.func (.func 153) #[] #[.pointer (some ⟨X5.heap.size+1,0,none⟩)]]):=
  ⟨X5.heap.size,_,_,rfl,row_old (row_new _ _),h5.below.size,.inr (.inr (.inr (.inr ⟨rfl,X5.heap.size+1,4,.inr ⟨rfl,rfl⟩,rfl,row_new' zz6.symm,by have:=h5.below.size;omega⟩)))⟩
 obtain⟨X6,r6,h6⟩:=a6.ins o6
 clear a6 o6 h5 zz6
 go_enter Tryz.func117,Tryz.ntmps117
 go_wp2_with fail
 refine(mv_clos 3 _).mono ?_
 rintro e W ⟨rfl,rfl⟩
 go_wp2_with fail
 refine(mv_clos 4 _).mono ?_
 rintro e W ⟨rfl,rfl⟩
 go_wp2_with fail
 go_ret
 obtain⟨⟨M,h1,h2⟩,h3,h4⟩:=h6
 refine⟨_,M,rfl,h1,fun k hk1 hk2=>h2 k ?_,h3⟩
 omega
end
theorem ptr_one (g:Nat):∀u ∈ valC (ptrV g),u.oneCell'=true:=by intro u hu;simp[valC] at hu;subst hu;rfl
theorem infoPs:(Tryz.prog.info? 149).map (fun i=>(i.zero,i.size,i.bytes))=some (some (.pointer none),1,8):=by kernel_rfl
theorem zeroPs (w:World):(zeroValue 149).run Tryz.prog w=.ok (.pointer none) w:=by kernel_rfl
theorem row_map {w w':World} {b:Nat} {g:Nat} {cs:Array Value} {t:TypeId} {fz:Nat×Nat} (h:w.mapTurned w' b) (hg:w.heap[g]?=some (.cells cs t fz)):w'.heap[g]?=some (.cells cs t fz):=(turned_cells h hg).trans hg
section
variable {w w':World} {B bA bY bZ n:Nat} {ov tv:Value} {os:List Ob} {A:Au} {Z:Int→Prop} {bs:List (Nat×Value)}
theorem AuIn.turn (h:AuIn w B bA bY bZ ov tv os n A Z bs) (hc:Chg (fun k=>k=bA∨k=bZ) w w') {n':Nat} {Z':Int→Prop} (hr:w'.heap[bA]?=some (.cells #[ov,.int .i64 n',tv,.map (some bY),.map (some bZ)] 148 (0,0)))
  {M:Int→Option Value} (hm:RawM w' bZ M) (hz:∀x,¬Z' x→M x=none):AuIn w' B bA bY bZ ov tv os n' A Z' bs:=by
 obtain⟨MZ,hmz,-⟩:=h.bz.2
 have notA:∀g cs t fz,w.heap[g]?=some (.cells cs t fz)→t≠148→¬(g=bA∨g=bZ):=fun g cs t fz hg ht=>by
  rintro(rfl|rfl)
  ·rw [h.row] at hg
   simp only[Option.some.injEq,Obj.cells.injEq] at hg
   exact ht hg.2.1.symm
  ·obtain ⟨es,c,hh⟩:=hmz.isMap
   rw[hg] at hh;cases hh
 refine⟨hr,h.hB,OwnF.chg h.obs hc fun g hg=>?_,OwnF.chg h.txs hc fun g hg=>?_,h.len,fun k p s hp hs=>(h.sts k p s hp hs).chg hc fun g hg=>?_,h.nod,h.dis,⟨h.by_.1,?_⟩,⟨h.bz.1,M,hm,hz⟩,h.ne⟩
 ·obtain ⟨cs,fz,hh⟩:=OwnF.typ h.obs hg
  exact notA g cs _ fz hh (by decide)
 ·obtain ⟨cs,fz,hh⟩:=OwnF.typ h.txs hg
  exact notA g cs _ fz hh (by decide)
 ·obtain ⟨cs,t,fz,hh,ht⟩:=(h.sts k p s hp hs).typ hg
  refine notA g cs _ fz hh ?_
  rcases ht with rfl|rfl <;> decide
 ·obtain ⟨M1,h1,h2⟩:=h.by_.2
  refine⟨M1,h1.chg hc ?_,h2⟩
  rintro(e|e)
  ·obtain ⟨es,c,hh⟩:=h1.isMap
   rw[e,h.row] at hh;cases hh
  ·exact h.ne e
theorem AuIn.begun (h:AuIn w B bA bY bZ ov tv os n A Z bs) (hc:Chg (fun k=>k=bA∨tv.ownBlock=some k∨k=bY∨k=bZ) w w') {n' p:Nat} {tv':Value} {s:St}
  (hr:w'.heap[bA]?=some (.cells #[ov,.int .i64 n',tv',.map (some bY),.map (some bZ)] 148 (0,0)))
  (ht:OwnF valC 149 1 w' B tv' ((bs++[(p,Value.slice none 0 0)]).map fun q=>ptrV q.1)) (hs:StAt w' B (p,.slice none 0 0) s) (hp:w.heap.size≤p)
  {MY MY' MZ MZ':Int→Option Value} (hY:RawM w' bY MY') (f1:∀(k:Nat) (p:Nat×Value) (s:St),bs[k]?=some p→A[k]?=some s→MY s.id=some (ptrV p.1)) (f2:∀x,¬hasId x A→MY x=none) (f3:∀k,k≠s.id→MY' k=MY k) (f4:MY' s.id=some (ptrV p)) (hno:¬hasId s.id A)
  (hZ:RawM w' bZ MZ') (f5:∀x,¬Z x→MZ x=none) (f6:∀k,k≠s.thread→MZ' k=MZ k) (hsd:s.deeds=[]):
  AuIn w' B bA bY bZ ov tv' os n' (A++[s]) (fun x=>Z x∨x=s.thread) (bs++[(p,.slice none 0 0)]):=by
 obtain⟨M0,hm0,-⟩:=h.bz.2
 obtain⟨M1,hm1,-⟩:=h.by_.2
 have notA:∀g cs t fz,w.heap[g]?=some (.cells cs t fz)→t≠148→t≠149→¬(g=bA∨tv.ownBlock=some g∨g=bY∨g=bZ):=fun g cs t fz hg ht ht2=>by
  rintro(rfl|hk|rfl|rfl)
  ·rw [h.row] at hg
   simp only[Option.some.injEq,Obj.cells.injEq] at hg
   exact ht hg.2.1.symm
  ·obtain ⟨cs',fz',hh⟩:=OwnF.typ h.txs hk
   rw[hg] at hh
   simp only[Option.some.injEq,Obj.cells.injEq] at hh
   exact ht2 hh.2.1
  ·obtain ⟨es,c,hh⟩:=hm1.isMap
   rw[hg] at hh;cases hh
  ·obtain ⟨es,c,hh⟩:=hm0.isMap
   rw[hg] at hh;cases hh
 have old:∀k (q:Nat×Value),bs[k]?=some q→∃t,A[k]?=some t∧StAt w B q t:=fun k q hq=>by
  have hk:=(List.getElem?_eq_some_iff.1 hq).1
  obtain⟨t,ht⟩:∃t,A[k]?=some t:=⟨_,List.getElem?_eq_getElem (by rw[←h.len];exact hk)⟩
  exact⟨t,ht,h.sts k q t hq ht⟩
 have split:∀k (q:Nat×Value),(bs++[(p,Value.slice none 0 0)])[k]?=some q→bs[k]?=some q∨(k=bs.length∧q=(p,.slice none 0 0)):=fun k q hq=>by
  rcases Nat.lt_or_ge k bs.length with hk|hk
  ·rw [List.getElem?_append_left hk] at hq;exact .inl hq
  ·have hl:=(List.getElem?_eq_some_iff.1 hq).1
   simp only[List.length_append,List.length_cons,List.length_nil] at hl
   obtain rfl:k=bs.length:=by omega
   simp only[List.getElem?_concat_length,Option.some.injEq] at hq
   exact .inr ⟨rfl,hq.symm⟩
 have splitA:∀k (t:St),(A++[s])[k]?=some t→A[k]?=some t∨(k=bs.length∧t=s):=fun k t hq=>by
  rcases Nat.lt_or_ge k A.length with hk|hk
  ·rw [List.getElem?_append_left hk] at hq;exact .inl hq
  ·have hl:=(List.getElem?_eq_some_iff.1 hq).1
   simp only[List.length_append,List.length_cons,List.length_nil] at hl
   have:=h.len
   obtain rfl:k=A.length:=by omega
   simp only[List.getElem?_concat_length,Option.some.injEq] at hq
   exact .inr ⟨by omega,hq.symm⟩
 have both:∀k (q:Nat×Value) (t:St),(bs++[(p,Value.slice none 0 0)])[k]?=some q→(A++[s])[k]?=some t→(bs[k]?=some q∧A[k]?=some t)∨(q=(p,.slice none 0 0)∧t=s):=fun k q t hq ht=>by
  rcases split k q hq with h1|⟨h1,h2⟩
  ·rcases splitA k t ht with h3|⟨h3,h4⟩
   ·exact .inl ⟨h1,h3⟩
   ·have:=(List.getElem?_eq_some_iff.1 h1).1;omega
  ·rcases splitA k t ht with h3|⟨h3,h4⟩
   ·have:=(List.getElem?_eq_some_iff.1 h3).1
    have:=h.len
    omega
   ·exact .inr ⟨h2,h4⟩
 refine⟨hr,h.hB,OwnF.chg h.obs hc fun g hg=>?_,ht,by simp[h.len],fun k q t hq ht=>?_,?_,fun j k q r hq hr hne g hg=>?_,⟨h.by_.1,MY',hY,fun k q t hq ht=>?_,fun x hx=>?_⟩,⟨h.bz.1,MZ',hZ,fun x hx=>?_⟩,h.ne⟩
 ·obtain ⟨cs,fz,hh⟩:=OwnF.typ h.obs hg
  exact notA g cs _ fz hh (by decide) (by decide)
 ·rcases both k q t hq ht with⟨h1,h2⟩|⟨rfl,rfl⟩
  ·refine (h.sts k q t h1 h2).chg hc fun g hg=>?_
   obtain⟨cs,t',fz,hh,ht'⟩:=(h.sts k q t h1 h2).typ hg
   rcases ht' with rfl|rfl
   ·exact notA g cs _ fz hh (by decide) (by decide)
   ·exact notA g cs _ fz hh (by decide) (by decide)
  ·exact hs
 ·rw [List.map_append]
  refine List.nodup_append.2 ⟨h.nod,by simp,?_⟩
  intro a ha b hb
  simp only[List.map_cons,List.map_nil,List.mem_singleton] at hb
  subst hb
  obtain⟨q,hq,rfl⟩:=List.mem_map.1 ha
  obtain⟨k,hk⟩:=List.mem_iff_getElem?.1 hq
  obtain⟨t,-,hst⟩:=old k q hk
  have:=row_lt hst.row
  exact fun e=>by omega
 ·rcases split j q hq with h1|⟨-,rfl⟩
  ·rcases split k r hr with h2|⟨-,rfl⟩
   ·exact h.dis j k q r h1 h2 hne g hg
   ·simp [Value.ownBlock]
  ·simp [Value.ownBlock] at hg
 ·rcases both k q t hq ht with⟨h1,h2⟩|⟨rfl,rfl⟩
  ·rw [f3 t.id ?_]
   ·exact f1 k q t h1 h2
   ·intro e
    exact hno ⟨t,List.mem_of_getElem? h2,e⟩
  ·exact f4
 ·rw [f3 x ?_]
  ·exact f2 x fun⟨t,ht,e⟩=>hx ⟨t,by simp[ht],e⟩
  ·rintro rfl
   exact hx ⟨s,by simp,rfl⟩
 ·rw [f6 x fun e=>hx (.inr e)]
  exact f5 x fun e=>hx (.inl e)
theorem isBusy_snoc {s:St} {x:Int} (h:isBusy x A∨x=s.thread) (hs:s.stand≠5):isBusy x (A++[s]):=by
 rcases h with⟨t,ht,h⟩|rfl
 ·exact ⟨t,by simp[ht],h⟩
 ·exact ⟨s,by simp,rfl,hs⟩
end
section
attribute [local irreducible] wpL
def FeedRet (w:World) (B bA:Nat) (os:List Ob) (n:Nat) (A':Au) (e:Ending) (w':World):Prop:=e=.returned .nilIface∧AuAt w' B bA os (n+1) A'∧Below B w w'
theorem KeepsN_turned {N:Nat→Prop} {w w':World} {b:Nat} (h:w.mapTurned w' b) (hb:¬N b):RK.KeepsN N w w':=⟨by rw[turned_size h];exact Nat.le_refl _,fun k hk=>turned_other h (by rintro rfl;exact hb hk)⟩
theorem feed_begin (xk xx xh xj xo xy xv xr:Int) {B bA n:Nat} {os:List Ob} {A:Au} (w:World) (hx:EvOk os.length ⟨xk,xx,xh,xj,xo,xy,xv,xr⟩) (hk:xk=1) (hi:¬hasId xx A) (hb:¬isBusy xh A) (hn:n < 400) (hA:A.length≤1000) (h:AuAt w B bA os n A) (hW:WordsAt w):
  Calls Tryz.prog 70 #[.pointer (some ⟨bA,0,none⟩),evV ⟨xk,xx,xh,xj,xo,xy,xv,xr⟩] w (FeedRet w B bA os n (A++[newSt ⟨xk,xx,xh,xj,xo,xy,xv,xr⟩ n])):=by
 obtain⟨bY,bZ,ov,tv,bs,h⟩:=h
 have r0:=h.row
 have l0:=row_lt r0
 have y:=row_cell r0
 have y1:=y 1
 simp at y1
 have b0:Below w.heap.size w (w.alloc (.cells #[.int .i64 xk,.int .i64 xx,.int .i64 xh,.int .i64 xj,.int .i64 xo,.int .i64 xy,.int .i64 xv,.int .i64 xr] 53)):=(Below.refl _ w).alloc (Nat.le_refl _) _
 have re:=row_new w (.cells #[.int .i64 xk,.int .i64 xx,.int .i64 xh,.int .i64 xj,.int .i64 xo,.int .i64 xy,.int .i64 xv,.int .i64 xr] 53)
 have hv:=hid (e_Valid ⟨xk,xx,xh,xj,xo,xy,xv,xr⟩ os.length hx _ (hW.below b0))
 have q1:((n:Int)==400)=false:=by simp;omega
 have HI:=hid hi
 have HBs:=hid hb
 have H:=hid h
 have HB0:=hid b0
 have RE:=hid re
 have hAB:=h.hB
 have hBw:B≤w.heap.size:=by omega
 subst hk
 clear y r0 h hx hi hb hW b0 re
 go_enter Tryz.func70,Tryz.ntmps70
 go_wp2_with fail
 obtain⟨W,hWW⟩:∃W,W=w.alloc (.cells #[.int .i64 1,.int .i64 xx,.int .i64 xh,.int .i64 xj,.int .i64 xo,.int .i64 xy,.int .i64 xv,.int .i64 xr] 53):=⟨_,rfl⟩
 rw[←hWW] at hv HB0 RE ⊢
 clear hWW
 refine(hv.out).mono ?_
 rintro e W1 ⟨rfl,b1⟩
 have H1:=hid ((H.out.below HB0.out).below b1)
 have B1:=hid (HB0.out.trans (b1.mono HB0.out.size))
 have re1:=row_below RE.out b1 (row_lt RE.out)
 have le:=row_lt re1
 have ra1:=H1.out.row
 have la:=row_lt ra1
 have hea:w.heap.size≠bA:=by omega
 have hz1:=B1.out.size
 have hbew:w.heap.size < W1.heap.size:=le
 have y:=row_cell re1
 have e0:=y 0
 have e1:=y 1
 have e2:=y 2
 simp at e0 e1 e2
 have z:=row_cell ra1
 have a1:=z 1
 have a2:=z 2
 have a3:=z 3
 have a4:=z 4
 simp at a1 a2 a3 a4
 have yf:∀j,W1.frozen? ⟨bA,j,none⟩=false:=fun j=>row_free ra1 j
 obtain⟨MY,hmY,f1,f2⟩:=H1.out.by_.2
 obtain⟨MZ,hmZ,f5⟩:=H1.out.bz.2
 have lY:=hmY.lt
 have lZ:=hmZ.lt
 have lk1:=(hmY.drew.look Tryz.underlying3 Tryz.underlying146 (zeroPs W1.drew) xx (f2 xx HI.out)).2
 have lk2:=(hmZ.drew.drew.look Tryz.underlying3 Tryz.underlying146 (zeroPs W1.drew.drew) xh (f5 xh HBs.out)).1
 simp only[Option.getD_none,Option.isSome_none] at lk1 lk2
 have RE1:=hid re1
 have RA1:=hid ra1
 have F:=hid (And.intro hmY (And.intro f1 (And.intro f2 (And.intro hmZ f5))))
 clear y z re1 ra1 hmY f1 f2 hmZ f5 b1 hv
 go_wp2_with fail
 refine wp_rN (W1.heap.size) [0,0,0,1,0,1,2,0,0,0,0,0] (.fin [0,1,2,3,4,5,6,7,8,9,10,11]) (by kernel_rfl) ?_
 simp only[wpT,selX,guardAt,sD,sE,sF,sG]
 repeat first|(refine wpL_p fun K hK=>?_;go_simp;refine hK _ _ ?_;clear hK K)|(apply wpL_s;(intro w2 hw2;have hk1:=hw2.cell;have hk3:=hw2.1;clear hw2;go_simp;with_reducible rfl);simp only[Act.put,sA,sB,sC])
 refine wpL_e (fun K hK=>?_)
 go_simp
 refine hK _ _ ?_
 clear hK K lk1
 repeat first|(refine wpL_p fun K hK=>?_;go_simp;refine hK _ _ ?_;clear hK K)|refine wpL_nil ?_
 go_wp2_with fail
 refine wp_rN (W1.heap.size) [0,0,0,1,0,1,2,0,0] (.fin [0,1,2,3,4,5,6,7,8]) (by kernel_rfl) ?_
 simp only[wpT,selX,guardAt,sD,sE,sF,sG]
 repeat first|(refine wpL_p fun K hK=>?_;go_simp;refine hK _ _ ?_;clear hK K)|(apply wpL_s;(intro w2 hw2;have hk1:=hw2.cell;have hk3:=hw2.1;clear hw2;go_simp;with_reducible rfl);simp only[Act.put,sA,sB,sC])
 refine wpL_e (fun K hK=>?_)
 go_simp
 refine hK _ _ ?_
 clear hK K lk2
 repeat first|(refine wpL_p fun K hK=>?_;go_simp;refine hK _ _ ?_;clear hK K)|refine wpL_nil ?_
 go_wp2_with fail
 refine wp_rN (W1.heap.size) [0,1,0,1,0,0,0,1,0,0,3,0] (.fin [0,1,2,3,4,5,6,7,8,9,10,11]) (by kernel_rfl) ?_
 simp only[wpT,selX,guardAt,sD,sE,sF,sG]
 repeat first|(refine wpL_p fun K hK=>?_;go_simp;refine hK _ _ ?_;clear hK K)|(apply wpL_s;(intro w2 hw2;have hk1:=hw2.cell;have hk3:=hw2.1;clear hw2;go_simp;with_reducible rfl);simp only[Act.put,sA,sB,sC])
 refine wpL_k (fun K hK=>?_)
 go_simp
 refine hK _ _ (RN.KeepsN.alloc _ _ (Nat.le_refl _)) ?_
 clear hK K
 repeat first|(refine wpL_p fun K hK=>?_;go_simp;refine hK _ _ ?_;clear hK K)|refine wpL_nil ?_
 have bV:Below W1.heap.size W1 (W1.alloc (.cells #[.int .i64 xx,.int .i64 xh,.int .i64 1,.int .i64 n,.int .i64 (-1),.int .i64 (-1),.slice none 0 0,.int .i64 1] 151)).drew.drew.drew:=((Below.refl _ W1).alloc (Nat.le_refl _) _).drew.drew.drew
 have rp:(W1.alloc (.cells #[.int .i64 xx,.int .i64 xh,.int .i64 1,.int .i64 n,.int .i64 (-1),.int .i64 (-1),.slice none 0 0,.int .i64 1] 151)).drew.drew.drew.heap[W1.heap.size]?=some (.cells #[.int .i64 xx,.int .i64 xh,.int .i64 1,.int .i64 n,.int .i64 (-1),.int .i64 (-1),.slice none 0 0,.int .i64 1] 151 (0,0)):=row_new W1 _
 have zV:W1.heap.size < (W1.alloc (.cells #[.int .i64 xx,.int .i64 xh,.int .i64 1,.int .i64 n,.int .i64 (-1),.int .i64 (-1),.slice none 0 0,.int .i64 1] 151)).drew.drew.drew.heap.size:=row_lt rp
 generalize (W1.alloc (.cells #[.int .i64 xx,.int .i64 xh,.int .i64 1,.int .i64 n,.int .i64 (-1),.int .i64 (-1),.slice none 0 0,.int .i64 1] 151)).drew.drew.drew=V at *
 have HV:=hid (H1.out.below bV)
 have BV:=hid (B1.out.trans (bV.mono hz1))
 have BV1:=hid bV
 have rv:=row_below RA1.out bV la
 have ev:=row_below RE1.out bV le
 have lv:=row_lt rv
 have z:=row_cell rv
 clear a1 a2 a3 a4 e0 e1 e2 yf
 have a1:=z 1
 have a2:=z 2
 have a3:=z 3
 have a4:=z 4
 simp at a1 a2 a3 a4
 have hBV:B≤V.heap.size:=by omega
 have hlen:(bs.map fun p=>ptrV p.1).length≤1000:=by rw[List.length_map,HV.out.len];exact hA
 have RV:=hid rv
 have EV:=hid ev
 have RP:=hid rp
 clear z rv ev rp bV F lY lZ
 go_wp2_with (at_builtin;refine wpList_appF rfl _ _ _ rfl _ 8 Tryz.underlying145 infoPs rfl HV.out.txs (ptrV W1.heap.size) hBV (by rfl) (by rfl) (by first|rfl|simp) rfl (ptr_one _) (by first|omega|(simp only[List.length_append,List.length_cons,List.length_nil,List.length_replicate];omega)) (by first|omega|(simp only[List.length_append,List.length_cons,List.length_nil,List.length_replicate];omega)) ?_;refine Stop.halt ?_)
 refine Stop.go ?_
 intro g cap X ho hg
 have c1:=Chg.grw (S:=fun k=>tv.ownBlock=some k) hg (fun _ h=>h)
 have rx:=row_grw RV.out hg (OwnF.neT HV.out.txs RV.out (by decide))
 have ex:=row_grw EV.out hg (OwnF.neT HV.out.txs EV.out (by decide))
 have px:=row_grw RP.out hg (OwnF.neT HV.out.txs RP.out (by decide))
 have notM:∀b,(∃es c,V.heap[b]?=some (.map es c))→¬tv.ownBlock=some b:=fun b hb hk=>by
  obtain⟨cs,fz,hh⟩:=OwnF.typ HV.out.txs hk
  obtain⟨es,c,hb⟩:=hb
  rw[hb] at hh;cases hh
 obtain⟨MY,hmY,f1,f2⟩:=HV.out.by_.2
 obtain⟨MZ,hmZ,f5⟩:=HV.out.bz.2
 have xY:=hmY.chg c1 (notM _ hmY.isMap)
 have xZ:=hmZ.chg c1 (notM _ hmZ.isMap)
 have lx:=row_lt rx
 have zx:V.heap.size≤X.heap.size:=hg.size
 clear a1 a2 a3 a4
 have z:=row_cell rx
 have a2:=z 2
 simp at a2
 have yf:∀j,X.frozen? ⟨bA,j,none⟩=false:=fun j=>row_free rx j
 have HX:=hid (And.intro ho (And.intro hg (And.intro c1 (And.intro rx (And.intro ex (And.intro px (And.intro xY xZ)))))))
 have FF:=hid (And.intro f1 (And.intro f2 f5))
 clear z ho hg c1 rx ex px xY xZ notM hmY hmZ f1 f2 f5
 go_wp2_with fail
 obtain⟨ho,hg,c1,rx,ex,px,xY,xZ⟩:=HX.out
 try simp only[List.length_map] at ho hg
 have hbe:bA≠w.heap.size:=fun e=>hea e.symm
 have hpa:W1.heap.size≠bA:=by omega
 have r1:=row_set rx 2 (.slice (some ⟨g,0,none⟩) (bs.length+1) cap)
 have v1:=row_other (g':=bA) (j:=2) (v:=.slice (some ⟨g,0,none⟩) (bs.length+1) cap) ex hbe
 have p1:=row_other (g':=bA) (j:=2) (v:=.slice (some ⟨g,0,none⟩) (bs.length+1) cap) px (Ne.symm hpa)
 have nY:bY≠bA:=fun e=>by
  obtain⟨es,c,hh⟩:=xY.isMap
  rw[e,rx] at hh;cases hh
 have nZ:bZ≠bA:=fun e=>by
  obtain⟨es,c,hh⟩:=xZ.isMap
  rw[e,rx] at hh;cases hh
 have nYe:bY≠w.heap.size:=fun e=>by
  obtain⟨es,c,hh⟩:=xY.isMap
  rw[e,ex] at hh;cases hh
 have nZe:bZ≠w.heap.size:=fun e=>by
  obtain⟨es,c,hh⟩:=xZ.isMap
  rw[e,ex] at hh;cases hh
 have Y1:=xY.set (g:=bA) (j:=2) (v:=.slice (some ⟨g,0,none⟩) (bs.length+1) cap) nY
 have Z1:=xZ.set (g:=bA) (j:=2) (v:=.slice (some ⟨g,0,none⟩) (bs.length+1) cap) nZ
 have hgne:(Value.slice (some ⟨g,0,none⟩) (bs.length+1) cap).ownBlock≠some bA:=OwnF.neT ho rx (by decide)
 have T1:=OwnF.other (j:=2) ho hgne (.slice (some ⟨g,0,none⟩) (bs.length+1) cap)
 have zX:(X.setCell ⟨bA,2,none⟩ (.slice (some ⟨g,0,none⟩) (bs.length+1) cap)).heap.size=X.heap.size:=by simp
 have c2:Chg (fun k=>k=bA∨tv.ownBlock=some k∨k=bY∨k=bZ) V (X.setCell ⟨bA,2,none⟩ (.slice (some ⟨g,0,none⟩) (bs.length+1) cap)):=(c1.mono fun j hj=>.inr (.inl hj)).set (.inl rfl)
 generalize X.setCell ⟨bA,2,none⟩ (.slice (some ⟨g,0,none⟩) (bs.length+1) cap)=Y at *
 clear a2 yf
 have z:=row_cell r1
 have a1:=z 1
 have a3:=z 3
 have a4:=z 4
 simp at a1 a3 a4
 have y:=row_cell v1
 have e1:=y 1
 have e2:=y 2
 simp at e1 e2
 have HY:=hid (And.intro r1 (And.intro v1 (And.intro p1 (And.intro Y1 (And.intro Z1 (And.intro T1 c2))))))
 have lxY:V.heap.size≤Y.heap.size:=by omega
 clear z y r1 v1 p1 Y1 Z1 T1 c2 ho hg c1 rx ex px xY xZ zX
 refine wp_rK (fun k=>k=bA∨k=w.heap.size) [0,0,0,1,0,1,0,0,0,1,0,1,0,0,3,0,3,3,0,3] (.fin [0,1,2,3,4,5,6,7,8,9,10,11,12,13,14,15,16,17,18,19]) (by kernel_rfl) ?_
 simp only[wpT,selX,guardAt,sD,sE,sF,sG]
 repeat first|(refine wpL_p fun K hK=>?_;go_simp;refine hK _ _ ?_;clear hK K)|(apply wpL_s;(intro w2 hw2;have hk1:=hw2.cell;(try simp only at hk1);have hk3:=hw2.1;clear hw2;go_simp;with_reducible rfl);simp only[Act.put,sA,sB,sC])
 have nNY:¬(bY=bA∨bY=w.heap.size):=fun h=>h.elim nY nYe
 have nNZ:¬(bZ=bA∨bZ=w.heap.size):=fun h=>h.elim nZ nZe
 have hyz:=H1.out.ne
 refine wpL_k (fun K hK=>?_)
 refine HY.out.2.2.2.1.drew.wp_entry Tryz.underlying3 Tryz.underlying146 (zeroPs _) (a:=xx) rfl rfl rfl ?_
 intro X1 v1 n1 M1 ha1 hn1 t1
 refine hK _ _ (KeepsN_turned t1 nNY) ?_
 clear hK K
 repeat (refine wpL_p fun K hK=>?_;go_simp;refine hK _ _ ?_;clear hK K)
 refine wpL_k (fun K hK=>?_)
 refine ha1.wp_stored rfl rfl rfl rfl ?_
 intro X2 hm2 t2
 refine hK _ _ (KeepsN_turned t2 nNY) ?_
 clear hK K
 have zz2:RawM X2 bZ MZ:=((HY.out.2.2.2.2.1.drew).obj (turned_other t1 (Ne.symm hyz))).obj (turned_other t2 (Ne.symm hyz))
 refine wpL_k (fun K hK=>?_)
 refine zz2.wp_entry Tryz.underlying3 Tryz.underlying146 (zeroPs _) (a:=xh) rfl rfl rfl ?_
 intro X3 v3 n3 M3 ha3 hn3 t3
 refine hK _ _ (KeepsN_turned t3 nNZ) ?_
 clear hK K
 repeat (refine wpL_p fun K hK=>?_;go_simp;refine hK _ _ ?_;clear hK K)
 refine wpL_k (fun K hK=>?_)
 refine ha3.wp_stored rfl rfl rfl rfl ?_
 intro X4 hm4 t4
 refine hK _ _ (KeepsN_turned t4 nNZ) ?_
 clear hK K
 have yy4:=(hm2.obj (turned_other t3 hyz)).obj (turned_other t4 hyz)
 obtain⟨r1,v1,p1,Y1,Z1,T1,c2⟩:=HY.out
 have r4:=row_map t4 (row_map t3 (row_map t2 (row_map t1 (row_drew r1))))
 have p4:=row_map t4 (row_map t3 (row_map t2 (row_map t1 (row_drew p1))))
 have c4:=(((c2.drew.trans (Chg.turned (S:=fun k=>k=bY) t1 rfl) fun j _ hj=>.inr (.inr (.inl hj))).trans (Chg.turned (S:=fun k=>k=bY) t2 rfl) fun j _ hj=>.inr (.inr (.inl hj))).trans (Chg.turned (S:=fun k=>k=bZ) t3 rfl) fun j _ hj=>.inr (.inr (.inr hj))).trans (Chg.turned (S:=fun k=>k=bZ) t4 rfl) fun j _ hj=>.inr (.inr (.inr hj))
 have tt:∀{P Q:World} {b:Nat},P.mapTurned Q b→OwnF valC 149 1 P B (.slice (some ⟨g,0,none⟩) (bs.length+1) cap) (bs.map (fun p=>ptrV p.1)++[ptrV W1.heap.size])→OwnF valC 149 1 Q B (.slice (some ⟨g,0,none⟩) (bs.length+1) cap) (bs.map (fun p=>ptrV p.1)++[ptrV W1.heap.size]):=fun {P Q b} ht ho=>OwnF.chg ho (Chg.turned (S:=fun k=>k=b) ht rfl) fun k hk e=>by
  obtain⟨cs,fz,hh⟩:=OwnF.typ ho hk
  obtain⟨es,c,es',c',hb,-⟩:=ht
  rw[e,hb] at hh;cases hh
 have T4:=tt t4 (tt t3 (tt t2 (tt t1 (OwnF.drew T1))))
 have l4:=row_lt r4
 clear a1 a3 a4 e1 e2
 have z:=row_cell r4
 have a1:=z 1
 simp at a1
 have yf:∀j,X4.frozen? ⟨bA,j,none⟩=false:=fun j=>row_free r4 j
 have H4:=hid (And.intro r4 (And.intro p4 (And.intro c4 (And.intro T4 (And.intro yy4 hm4)))))
 have HN:=hid (And.intro hn1 hn3)
 clear z r4 p4 c4 T4 yy4 hm4 tt r1 v1 p1 Y1 Z1 T1 c2 t1 t2 t3 t4 ha1 ha3 hm2 zz2 hn1 hn3 nNY nNZ HY
 repeat refine wpL_nil ?_
 go_wp2
 go_ret
 obtain⟨r4,p4,c4,T4,yy4,hm4⟩:=H4.out
 obtain⟨f1,f2,f5⟩:=FF.out
 have r5:=row_set r4 1 (.int .i64 ((n:Int)+1))
 have cc:Chg (fun k=>k=bA∨tv.ownBlock=some k∨k=bY∨k=bZ) W1 (X4.setCell ⟨bA,1,none⟩ (.int .i64 ((n:Int)+1))):=((Chg.of_below BV1.out).trans c4 fun j _ hj=>hj).set (.inl rfl)
 have key:=H1.out.begun cc (n':=n+1) (p:=W1.heap.size) (tv':=.slice (some ⟨g,0,none⟩) (bs.length+1) cap) (s:=newSt ⟨1,xx,xh,xj,xo,xy,xv,xr⟩ n) r5 (by rw[List.map_append];exact OwnF.other T4 hgne _)
  ⟨row_other p4 (Ne.symm hpa),by show B≤W1.heap.size;omega,OwnF.nil _ _⟩ (Nat.le_refl _) (yy4.set nY) f1 f2 (fun k hk=>(rup_ne hk).trans (HN.out.1 k hk)) rup_same HI.out (hm4.set nZ) f5 (fun k hk=>(rup_ne hk).trans (HN.out.2 k hk)) rfl
 refine⟨rfl,⟨bY,bZ,ov,_,_,key.zmono fun x hx=>isBusy_snoc hx (by simp[newSt])⟩,?_⟩
 have gY:=H1.out.by_.1
 have gZ:=H1.out.bz.1
 have gT:∀k,tv.ownBlock=some k→B≤k:=fun k hk=>(OwnF.lt H1.out.txs k hk).1
 exact(B1.out.mono hBw).trans (cc.below (fun j hj=>by
  rcases hj with rfl|hj|rfl|rfl
  ·exact hAB
  ·exact gT j hj
  ·exact gY
  ·exact gZ) (by omega))
end
theorem wp_mid {P:Program} {c:Code} {Q:Exit→Act→World→Prop} {a:Act} {w:World} (R:Act→Act→World→Prop) (h1:c.wp P (fun e a' X=>e=.normal∧R a a' X) a w) (h2:∀a' X,R a a' X→Q .normal a' X):c.wp P Q a w:=
 wp_mono h1 (by rintro e a' X ⟨rfl,h⟩;exact h2 a' X h)
theorem zeroMove (w:World):(zeroValue 223).run Tryz.prog w=.ok (.agg #[.slice none 0 0,.nilFunc]) w:=by kernel_rfl
theorem DoIs.cf {w:World} {B0:Nat} {k:Int} {F:FuncId} {caps:Array Value} (h:DoIs w B0 k F caps) (args:Array Value) (X:World):Sem.run Tryz.prog (callFunc F args) X=.ok (.enter F args) X:=by
 rcases h with⟨-,rfl,-⟩|⟨-,rfl,-⟩|⟨-,rfl,-⟩|⟨-,rfl,-⟩|⟨rfl,-⟩ <;> kernel_rfl
theorem DoIs.base {w:World} {B0 B1:Nat} {k:Int} {F:FuncId} {caps:Array Value} (h:DoIs w B0 k F caps) (hB:B1≤B0):DoIs w B1 k F caps:=by
 rcases h with h|h|h|h|⟨h1,c,st,h2,h3,h4,h5⟩
 ·exact .inl h
 ·exact .inr (.inl h)
 ·exact .inr (.inr (.inl h))
 ·exact .inr (.inr (.inr (.inl h)))
 ·exact .inr (.inr (.inr (.inr ⟨h1,c,st,h2,h3,h4,by omega⟩)))
theorem DoIs.set {w:World} {B0 b j:Nat} {u:Value} {k:Int} {F:FuncId} {caps:Array Value} (h:DoIs w B0 k F caps) (hb:b < B0):DoIs (w.setCell ⟨b,j,none⟩ u) B0 k F caps:=by
 rcases h with h|h|h|h|⟨h1,c,st,h2,h3,h4,h5⟩
 ·exact .inl h
 ·exact .inr (.inl h)
 ·exact .inr (.inr (.inl h))
 ·exact .inr (.inr (.inr (.inl h)))
 ·exact .inr (.inr (.inr (.inr ⟨h1,c,st,h2,h3,row_other h4 (by omega),h5⟩)))
theorem move_cases {n:Nat} {x:Ev} {s s':St} (hm:moveSt n x s=some s'):
  x.kind=2∧s.stand=1∧s'=callSt x n s∨(x.kind=3∧s.stand=2∧∃d,s.deeds.getLast?=some d∧fitsR d.op x.ret∧s'=retSt x.ret x.val n s)∨x.kind=4∧s.stand=1∧s'=tryS n s∨x.kind=5∧s.stand=3∧s'=endS 3 n s∨
   x.kind=6∧(s.stand=1∨s.stand=2∨s.stand=3∨s.stand=4)∧s'=endS 4 n s∨x.kind=7∧s.stand=1∧s'=canS s:=by
 unfold moveSt at hm
 split at hm
 ·rename_i hk
  split at hm
  ·rename_i h1;exact .inl ⟨hk,h1,(Option.some.inj hm).symm⟩
  ·cases hm
 ·split at hm
  ·rename_i hk
   split at hm
   ·rename_i h1
    cases hd:s.deeds.getLast? with
    |none=>rw[hd] at hm;cases hm
    |some d=>
     rw[hd] at hm
     simp only at hm
     split at hm
     ·rename_i h2
      refine .inr (.inl ⟨hk,h1,d,rfl,h2,?_⟩)
      rw[←Option.some.inj hm]
      unfold retSt
      rw[hd]
      rfl
     ·cases hm
   ·cases hm
  ·split at hm
   ·rename_i hk
    split at hm
    ·rename_i h1;exact .inr (.inr (.inl ⟨hk,h1,(Option.some.inj hm).symm⟩))
    ·cases hm
   ·split at hm
    ·rename_i hk
     split at hm
     ·rename_i h1;exact .inr (.inr (.inr (.inl ⟨hk,h1,(Option.some.inj hm).symm⟩)))
     ·cases hm
    ·split at hm
     ·rename_i hk
      split at hm
      ·rename_i h1;exact .inr (.inr (.inr (.inr (.inl ⟨hk,h1,(Option.some.inj hm).symm⟩))))
      ·cases hm
     ·split at hm
      ·rename_i hk
       split at hm
       ·rename_i h1;exact .inr (.inr (.inr (.inr (.inr ⟨hk,h1,(Option.some.inj hm).symm⟩))))
       ·cases hm
      ·cases hm
theorem move_from {n:Nat} {x:Ev} {s s':St} (hm:moveSt n x s=some s'):s.stand ∈ fromOf x.kind∧2≤x.kind∧x.kind < 8:=by
 rcases move_cases hm with⟨h1,h2,-⟩|⟨h1,h2,-⟩|⟨h1,h2,-⟩|⟨h1,h2,-⟩|⟨h1,h2,-⟩|⟨h1,h2,-⟩ <;> rw[h1] <;> first|(rw[h2];decide)|(rcases h2 with h2|h2|h2|h2 <;> rw[h2] <;> decide)
theorem move_keeps {n:Nat} {x:Ev} {s s':St} (hm:moveSt n x s=some s'):s'.id=s.id∧s'.thread=s.thread∧s.stand≠5:=by
 rcases move_cases hm with⟨h1,h2,rfl⟩|⟨h1,h2,d,hd,-,rfl⟩|⟨h1,h2,rfl⟩|⟨h1,h2,rfl⟩|⟨h1,h2,rfl⟩|⟨h1,h2,rfl⟩
 ·exact ⟨rfl,rfl,by omega⟩
 ·unfold retSt;rw[hd];exact⟨rfl,rfl,by omega⟩
 ·exact ⟨rfl,rfl,by omega⟩
 ·exact ⟨rfl,rfl,by omega⟩
 ·exact ⟨rfl,rfl,by omega⟩
 ·exact ⟨rfl,rfl,by omega⟩
theorem busy_set {A:Au} {k:Nat} {s s':St} {x:Int} (hs:A[k]?=some s) (hth:s'.thread=s.thread) (h5:s'.stand≠5∨x≠s.thread) (h:isBusy x A):isBusy x (A.set k s'):=by
 obtain⟨t,ht,hx,hst⟩:=h
 obtain⟨j,hj⟩:=List.mem_iff_getElem?.1 ht
 by_cases e:k=j
 ·subst e
  rw[hs] at hj
  obtain rfl:=Option.some.inj hj
  refine⟨s',mem_set_self hs,by rw[hth,hx],?_⟩
  rcases h5 with h5|h5
  ·exact h5
  ·exact absurd hx.symm h5
 ·exact ⟨t,List.mem_iff_getElem?.2 ⟨j,by rw[List.getElem?_set_ne e];exact hj⟩,hx,hst⟩
theorem from_len (k:Int):(fromOf k).length≤4:=by
 unfold fromOf
 repeat' split
 all_goals decide
theorem from_sl {w:World} {g:Nat} {k:Int} (h:w.heap[g]?=some (.cells ((fromOf k).map (.int .i64)).toArray 3 (0,0))):Sl w w.heap.size 1 (.slice (some ⟨g,0,none⟩) (fromOf k).length (fromOf k).length) (fromOf k).length ((fromOf k).map (.int .i64)):=
 ⟨_,_,rfl,by have:=from_len k;omega,by simp,fun _=>⟨g,0,rfl,row_lt h,fun j u hu=>by rw[Nat.zero_add,row_cell h];simpa using hu⟩⟩
theorem do_call {W:World} {B B0 p n:Nat} {dv:Value} {s s':St} {F:FuncId} {caps:Array Value} (xk xx xh xj xo xy xv xr:Int) (hst:StAt W B (p,dv) s) (hd:DoIs W B0 xk F caps) (hp:p < B0) (hm:moveSt n ⟨xk,xx,xh,xj,xo,xy,xv,xr⟩ s=some s') (hl:s.deeds.length≤1000):
  Calls Tryz.prog F (#[.pointer (some ⟨p,0,none⟩),evV ⟨xk,xx,xh,xj,xo,xy,xv,xr⟩,.int .i64 n]++caps) W (MvRet W B (p,dv) s'):=by
 rcases move_cases hm with⟨h1,h2,rfl⟩|⟨h1,h2,d,hdl,hf,rfl⟩|⟨h1,h2,rfl⟩|⟨h1,h2,rfl⟩|⟨h1,h2,rfl⟩|⟨h1,h2,rfl⟩ <;> simp only at h1 <;> rcases hd with⟨e1,rfl,rfl⟩|⟨e1,rfl,rfl⟩|⟨e1,rfl,rfl⟩|⟨e1,rfl,rfl⟩|⟨rfl,c,st,e1,rfl,hc,hcB⟩ <;> first|(exfalso;omega)|skip
 ·exact mv_call xk xx xh xj xo xy xv xr n hst hl
 ·exact mv_ret xk xx xh xj xo xy xv xr n d hst hdl hf hl
 ·exact mv_try xk xx xh xj xo xy xv xr n hst
 ·obtain rfl:st=3:=by omega
  exact mv_end xk xx xh xj xo xy xv xr n c 3 hc (by omega) hst
 ·obtain rfl:st=4:=by omega
  exact mv_end xk xx xh xj xo xy xv xr n c 4 hc (by omega) hst
 ·exact mv_can xk xx xh xj xo xy xv xr n hst
