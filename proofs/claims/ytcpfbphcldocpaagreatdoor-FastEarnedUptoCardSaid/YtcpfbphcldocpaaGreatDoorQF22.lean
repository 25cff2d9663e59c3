/- Parts of the proof, merged by program out of 1 texts (Cut): the first: cut.Prefix: the first part of a history, laid anew. Conditions: those of each theorem, as typed. -/
import Derived.Test.YtcpfbphcldocpaaGreatDoorQF21
set_option linter.unusedVariables false
set_option linter.unusedSimpArgs false
set_option linter.unusedSectionVars false
set_option maxRecDepth 100000
set_option maxHeartbeats 4000000
namespace Go.Proofs.YtcpfbphcldocpaaGreatDoor
open Go.Maps Go.RowKit
section
attribute [local irreducible] wpL
theorem OwnF.cap {α:Type} {f:α→List Value} {e:TypeId} {sz n c B:Nat} {a:Option Addr} {w:World} {l:List α} (h:OwnF f e sz w B (.slice a n c) l):l.length≤c:=by
 obtain⟨-,h|⟨g,cap,cur,hv,-,-,hc,-⟩⟩:=h
 ·omega
 ·simp only[Value.slice.injEq] at hv
  omega
theorem Sl.take {α:Type} {f:α→List Value} {w:World} {B sz n c:Nat} {a:Option Addr} {l:List α} (hf:∀x,(f x).length=sz) (h:Sl w B sz (.slice a n c) n (l.flatMap f)) (hl:l.length=n) {m:Nat} (hm:m≤n):Sl w B sz (.slice a m c) m ((l.take m).flatMap f):=by
 obtain⟨a',c',hv,hn,hlen,hc⟩:=h
 simp only[Value.slice.injEq,true_and] at hv
 obtain⟨rfl,rfl⟩:=hv
 refine⟨a,c,rfl,by omega,?_,fun h0=>?_⟩
 ·have:∀l:List α,(l.flatMap f).length=l.length*sz:=by
   intro l
   induction l with
   |nil=>simp
   |cons x l ih=>simp[ih,hf,Nat.add_mul,Nat.add_comm]
  rw[this,List.length_take]
  congr 1
  omega
 ·obtain ⟨b,off,ha,hb,hcc⟩:=hc (by omega)
  refine⟨b,off,ha,hb,fun j u hu=>hcc j u ?_⟩
  have hp:(l.take m).flatMap f <+:l.flatMap f:=by
   rw[←List.take_append_drop m l,List.flatMap_append,List.take_append_drop]
   exact List.prefix_append _ _
  obtain⟨r,hr⟩:=hp
  rw[←hr]
  exact List.getElem?_append_left (List.getElem?_eq_some_iff.1 hu).1▸hu
theorem sizeE (w:World):(sizeOf (Tryz.prog.elem 23)).run Tryz.prog w=.ok 8 w:=by kernel_rfl
theorem h_Prefix (ov:Value) (ae:Option Addr) (ce:Nat) (os:List Ob) (es:List Ev) (n:Nat) (w:World) (ho:Sl w w.heap.size 2 ov os.length (os.flatMap Ob.cells)) (he:Sl w w.heap.size 8 (.slice ae es.length ce) es.length (es.flatMap Ev.cells)) (hcap:es.length≤ce) (hol:os.length≤100000) (hel:es.length≤100000):
  Calls Tryz.prog 10 #[.agg #[ov,.slice ae es.length ce],.int .i64 n] w (HistRet os (es.take n) w):=by
 obtain⟨ao,co,rfl,mo⟩:=ho.ex
 obtain⟨m,hm⟩:∃m,m=min n es.length:=⟨_,rfl⟩
 have hmin:∀(ts:Array TypeId) (ty:TypeId) (X:World),(Builtin.min_ ts ty #[.int .i64 (n:Int),.int .i64 (es.length:Int)]).run Tryz.prog X=.ok (.int .i64 (m:Int)) X:=fun ts ty X=>by
  rw[run_min_int2,hm];congr 2;split <;> omega
 have hmax:∀(ts:Array TypeId) (ty:TypeId) (X:World),(Builtin.max_ ts ty #[.int .i64 (0:Int),.int .i64 (m:Int)]).run Tryz.prog X=.ok (.int .i64 (m:Int)) X:=fun ts ty X=>by
  rw[run_max_int2];congr 2;split <;> omega
 have hsl:∀X:World,(Instr.slice 23 (.slice ae es.length ce) none (some (.int .i64 (m:Int))) none).run Tryz.prog X=.ok (.slice ae m ce) X:=fun X=>by
  rw[run_slice_h X _ _ _ _ Tryz.underlying23 _ _ (by omega) (by omega),sizeE]
  simp only[Result.andThen,sliced,Int.toNat_natCast,Nat.sub_zero]
  congr 2
  split
  ·rfl
  ·cases ae <;> simp[Addr.add]
 have hst:es.take n=es.take m:=by
  rw[hm]
  rcases Nat.le_total n es.length with h|h
  ·rw [Nat.min_eq_left h]
  ·rw [Nat.min_eq_right h,List.take_of_length_le h,List.take_length]
 rw[hst]
 have hml:m≤es.length:=by omega
 have hlt:(es.take m).length=m:=by rw[List.length_take];omega
 have b0:Below w.heap.size w ((w.alloc (.cells #[.slice ao os.length co,.slice ae m ce] 25)).alloc (.cells #[.slice none 0 0,.slice none 0 0] 25)):=((Below.refl _ w).alloc (Nat.le_refl _) _).alloc (by simp) _
 have r0:=row_old (o:=.cells #[.slice none 0 0,.slice none 0 0] 25) (row_new w (.cells #[.slice ao os.length co,.slice ae m ce] 25))
 have r1:=row_new' (w:=w.alloc (.cells #[.slice ao os.length co,.slice ae m ce] 25)) (o:=.cells #[.slice none 0 0,.slice none 0 0] 25) (g:=w.heap.size+1) (by simp)
 have z0:((w.alloc (.cells #[.slice ao os.length co,.slice ae m ce] 25)).alloc (.cells #[.slice none 0 0,.slice none 0 0] 25)).heap.size=w.heap.size+2:=by simp
 have hcl:=hid (h_Clone _ _ os (es.take m) _ ((ho.below b0).more (by omega)) (show Sl _ _ 8 (.slice ae m ce) (es.take m).length _ from by rw[hlt];exact((he.take Ev.len rfl hml).below b0).more (by omega)) hol (by rw[hlt];omega))
 have HLT:=hid hlt
 clear ho he hst hm hlt
 generalize es.take m=t at *
 go_enter Tryz.func10,Tryz.ntmps10
 go_wp2_with fail
 have B0:=hid b0
 have R1:=hid r1
 clear b0 r1 r0
 generalize (w.alloc (.cells #[.slice ao os.length co,.slice ae m ce] 25)).alloc (.cells #[.slice none 0 0,.slice none 0 0] 25)=W at *
 refine(hcl.out).mono ?_
 rintro e V ⟨vo,ve,rfl,oo,oe,bV⟩
 obtain⟨a2,c2,rfl,-⟩:=oo.form2
 obtain⟨a4,c4,rfl,-⟩:=oe.form2
 have OA:=hid oo
 have OB:=hid oe
 have BF:=hid bV
 have zF:=bV.size
 have RF:=hid (row_below R1.out bV (by omega))
 have y0:=row_cell RF.out 0
 have y1:=row_cell RF.out 1
 have yf:∀j,V.frozen? ⟨w.heap.size+1,j,none⟩=false:=fun j=>row_free RF.out j
 have ly:=row_lt RF.out
 clear oo oe bV hcl
 go_wp2
 have r4:=row2 (u1:=.slice a2 os.length c2) (u2:=.slice a4 t.length c4) RF.out
 have c0:=row_cell r4 0
 have c1:=row_cell r4 1
 simp only[List.getElem?_toArray,List.getElem?_cons_zero,List.getElem?_cons_succ] at c0 c1
 refine bodyPost_ret (v:=.agg #[.slice a2 os.length c2,.slice a4 t.length c4]) (by simp[results,Tryz.results10,go_sem,c0,c1]) rfl ⟨_,_,rfl,?_,?_,?_⟩
 ·exact OwnF.base (OwnF.box2 OA.out RF.out (by decide)) (by omega)
 ·exact OwnF.base (OwnF.box2 OB.out RF.out (by decide)) (by omega)
 ·exact ((B0.out.trans (BF.out.mono (by omega))).setCell (p:=⟨w.heap.size+1,0,none⟩) (by show w.heap.size≤w.heap.size+1;omega) _).setCell (p:=⟨w.heap.size+1,1,none⟩) (by show w.heap.size≤w.heap.size+1;omega) _
end
