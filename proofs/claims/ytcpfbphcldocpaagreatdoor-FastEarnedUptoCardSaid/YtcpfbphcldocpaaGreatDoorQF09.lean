/- Parts of the proof, merged by program out of 5 texts (FtD, RawS, FtK, GnA, GnB): the first: slices.IndexFunc, slices.DeleteFunc of deeds. Conditions: those of each theorem, as typed. -/
import Derived.Test.YtcpfbphcldocpaaGreatDoorQF08
import Derived.Test.YtcpfbphcldocpaaGreatDoorQF07
import Derived.DeepKeys4
import Derived.Test.YtcpfbphcldocpaaGreatDoorChecked
set_option linter.unusedVariables false
set_option linter.unusedSimpArgs false
set_option linter.unusedSectionVars false
set_option maxRecDepth 100000
set_option maxHeartbeats 4000000
namespace Go.Proofs.YtcpfbphcldocpaaGreatDoor
open Go.MapKept Go.Maps Go.RowKit
section
attribute [local irreducible] wpL
def PredP {α:Type} (P:Program) (g:Nat) (lb:Array Value) (val:α→Value) (p:α→Bool) (L:α→Prop) (w:World) (q:Option Nat):Prop:=
 ∀(W:World) (x:α),L x→w.grownBy W q→Calls P g (#[val x]++lb) W fun e w'=>e=.returned (.bool (p x))∧Below W.heap.size W w'
theorem grownBy.refl (w:World) (q:Option Nat):w.grownBy w q:=⟨rfl,rfl,rfl,Nat.le_refl _,fun _ _ _=>rfl⟩
theorem grownBy.below {w w1 w2:World} {q:Option Nat} (h:w.grownBy w1 q) (k:Below w1.heap.size w1 w2):w.grownBy w2 q:=
 ⟨k.os.trans h.os,k.tape.trans h.tape,k.output.trans h.output,Nat.le_trans h.size k.size,fun b hb hq=>(k.block b (Nat.lt_of_lt_of_le hb h.size)).trans (h.block b hb hq)⟩
theorem grownBy.set {w w1:World} {g j:Nat} {v:Value} (h:w.grownBy w1 (some g)):w.grownBy (w1.setCell ⟨g,j,none⟩ v) (some g):=
 ⟨h.os,h.tape,h.output,by simpa using h.size,fun b hb hq=>(RowKit.Below.heap_setCell _ _ _ _ (fun e=>hq (congrArg some e))).trans (h.block b hb hq)⟩
def idxI {α:Type} (p:α→Bool) (l:List α):Int:=match l.findIdx? p with
 |some i=>i
 |none=>-1
section
variable {α:Type} {p:α→Bool} {l:List α}
theorem idx_at {k:Nat} {d:α} (hk:l[k]?=some d) (hd:p d=true) (hn:∀x ∈ l.take k,p x=false):idxI p l=k:=by
 have:l.findIdx? p=some k:=by
  rw[List.findIdx?_eq_some_iff_getElem]
  obtain⟨hl,e⟩:=List.getElem?_eq_some_iff.1 hk
  refine⟨hl,by rw[e];exact hd,fun j hj=>?_⟩
  have:=hn l[j] (List.mem_iff_getElem?.2 ⟨j,by rw[List.getElem?_take,if_pos hj,List.getElem?_eq_getElem]⟩)
  simpa using this
 unfold idxI
 rw[this]
theorem idx_no (hn:∀x ∈ l,p x=false):idxI p l=-1:=by
 have:l.findIdx? p=none:=by rw[List.findIdx?_eq_none_iff];exact fun x hx=>by simpa using hn x hx
 unfold idxI
 rw[this]
theorem idx_cases:(idxI p l=-1∧l.filter (fun x=>!p x)=l)∨∃(k:Nat) (d:α),idxI p l=k∧k < l.length∧l[k]?=some d∧p d=true∧(l.take (k+1)).filter (fun x=>!p x)=l.take k:=by
 cases h:l.findIdx? p with
 |none=>
  rw[List.findIdx?_eq_none_iff] at h
  exact .inl ⟨idx_no h,List.filter_eq_self.2 fun x hx=>by rw[h x hx];rfl⟩
 |some k=>
  obtain⟨hl,h1,h2⟩:=List.findIdx?_eq_some_iff_getElem.1 h
  refine .inr ⟨k,l[k],by unfold idxI;rw[h],hl,List.getElem?_eq_getElem hl,h1,?_⟩
  rw[List.take_add_one,List.getElem?_eq_getElem hl,Option.toList_some,List.filter_append,List.filter_cons_of_neg (by simp[h1]),List.filter_nil,List.append_nil,List.filter_eq_self]
  intro x hx
  obtain⟨j,hj⟩:=List.mem_iff_getElem?.1 hx
  rw[List.getElem?_take] at hj
  split at hj
  ·rename_i hjk
   have:=h2 j hjk
   obtain⟨hj1,rfl⟩:=List.getElem?_eq_some_iff.1 hj
   simpa using this
  ·cases hj
theorem filt_yes {j:Nat} {d:α} (hj:l[j]?=some d) (hd:p d=true):(l.take (j+1)).filter (fun x=>!p x)=(l.take j).filter fun x=>!p x:=by
 rw[List.take_add_one,hj,Option.toList_some,List.filter_append,List.filter_cons_of_neg (by simp[hd]),List.filter_nil,List.append_nil]
theorem filt_no {j:Nat} {d:α} (hj:l[j]?=some d) (hd:p d=false):(l.take (j+1)).filter (fun x=>!p x)=(l.take j).filter (fun x=>!p x)++[d]:=by
 rw[List.take_add_one,hj,Option.toList_some,List.filter_append,List.filter_cons_of_pos (by simp[hd]),List.filter_nil]
theorem set_take {i:Nat} {d:α} {dk:List α} (hi:i < dk.length):(dk.set i d).take (i+1)=dk.take i++[d]:=by
 rw[List.take_add_one,List.getElem?_set_self hi,Option.toList_some,List.take_set_of_le (Nat.le_refl _)]
theorem set_drop {i j:Nat} {d:α} {dk:List α} (hi:i < j):(dk.set i d).drop j=dk.drop j:=by
 rw[List.drop_set,if_pos hi]
theorem drop_get {j:Nat} {dk:List α} (h:dk.drop j=l.drop j):dk[j]?=l[j]?:=by
 have:=congrArg (fun x=>x[0]?) h
 simpa using this
end
theorem OwnF.capD {α:Type} {f:α→List Value} {e:TypeId} {sz n c B:Nat} {a:Option Addr} {w:World} {l:List α} (h:OwnF f e sz w B (.slice a n c) l):l.length≤c∧c≤9223372036854775807:=by
 obtain⟨-,h|⟨g,cap,cur,hv,-,-,hc,hm,-⟩⟩:=h
 ·obtain ⟨h1,h2⟩:=h
  simp only[Value.slice.injEq] at h1
  omega
 ·simp only[Value.slice.injEq] at hv
  unfold maxLen at hm
  omega
theorem OwnF.takeF {α:Type} {f:α→List Value} {e:TypeId} {sz B g n c:Nat} {w:World} {l:List α} (h:OwnF f e sz w B (.slice (some ⟨g,0,none⟩) n c) l) (hf:∀x,(f x).length=sz) {i:Nat} (hi:i≤n):OwnF f e sz w B (.slice (some ⟨g,0,none⟩) i c) (l.take i):=by
 have hn:=h.len
 subst hn
 obtain⟨h1,h2⟩:=h
 have hfl:∀(l:List α),(l.flatMap f).length=l.length*sz:=fun l=>by
  induction l with
  |nil=>simp
  |cons x l ih=>simp[ih,hf,Nat.add_mul];omega
 refine⟨hfl _,?_⟩
 have htk:∀(l:List α) (i:Nat),i≤l.length→(l.flatMap f).take (i*sz)=(l.take i).flatMap f:=fun l=>by
  induction l with
  |nil=>intro i hi;simp at hi;subst hi;simp
  |cons x l ih=>
   intro i hi
   cases i with
   |zero=>simp
   |succ i=>
    simp only[List.flatMap_cons,List.take_succ_cons]
    rw[show (i+1)*sz=(f x).length+i*sz by rw[hf,Nat.add_mul];omega,List.take_length_add_append,ih i (by simpa using hi)]
 rcases h2 with⟨h2,-⟩|⟨g',cap',cur,hv,hg,hh,hnc,hcm,hs,ht⟩
 ·cases h2
 ·simp only[Value.slice.injEq,Option.some.injEq,Addr.mk.injEq,and_true,true_and] at hv
  obtain⟨rfl,rfl⟩:=hv
  have hil:(l.take i).length=i:=by rw[List.length_take];omega
  refine .inr ⟨g,c,cur,by rw[hil],hg,hh,by omega,hcm,hs,?_⟩
  rw[hil]
  have:=congrArg (List.take (i*sz)) ht
  rw[List.take_take,Nat.min_eq_left (Nat.mul_le_mul_right _ hi),htk l i hi] at this
  exact this
theorem OwnF.behind {α:Type} {f:α→List Value} {e:TypeId} {sz B g n c:Nat} {l:List α} (hf:∀x,(f x).length=sz):∀(vs:List Value) (o:Nat) {w:World},OwnF f e sz w B (.slice (some ⟨g,0,none⟩) n c) l→n*sz≤o→OwnF f e sz (w.setCells g o vs) B (.slice (some ⟨g,0,none⟩) n c) l
 |[],_,_,h,_=>h
 |v::vs,o,w,h,ho=>by
  have hn:=h.len
  refine OwnF.behind hf vs (o+1) ?_ (by omega)
  subst hn
  have h1:=ownsRow_set h o v
  rw[List.set_eq_of_length_le (by
   have:∀(l:List α),(l.flatMap f).length=l.length*sz:=fun l=>by
    induction l with
    |nil=>simp
    |cons x l ih=>simp[ih,hf,Nat.add_mul];omega
   rw[this];exact ho)] at h1
  exact h1
theorem grownBy.sets {w:World} {g:Nat}:∀(vs:List Value) (o:Nat) {w1:World},w.grownBy w1 (some g)→w.grownBy (w1.setCells g o vs) (some g)
 |[],_,_,h=>h
 |v::vs,o,w1,h=>grownBy.sets vs (o+1) (grownBy.set h)
theorem OwnF.objD {α:Type} {f:α→List Value} {e:TypeId} {sz:Nat} {w:World} {B g n c:Nat} {l:List α} (h:OwnF f e sz w B (.slice (some ⟨g,0,none⟩) n c) l):∃cs,w.heap[g]?=some (.cells cs e (0,0)):=by
 obtain⟨-,h2⟩:=h
 rcases h2 with⟨h2,-⟩|⟨g',cap,cur,hv,-,hh,-⟩
 ·cases h2
 ·simp only[Value.slice.injEq,Option.some.injEq,Addr.mk.injEq,and_true] at hv
  obtain⟨rfl,-⟩:=hv
  exact⟨cur,hh⟩
theorem OwnF.cellsAt {α:Type} {f:α→List Value} {e:TypeId} {sz B g n c:Nat} {w:World} {l:List α} (h:OwnF f e sz w B (.slice (some ⟨g,0,none⟩) n c) l) (hl:l.length=n) (hf:∀x,(f x).length=sz):∀j,j < n*sz→(w.cell? ⟨g,j,none⟩).isSome=true:=fun j hj=>by
 have hfl:∀(l:List α),(l.flatMap f).length=l.length*sz:=fun l=>by
  induction l with
  |nil=>simp
  |cons x l ih=>simp[ih,hf,Nat.add_mul];omega
 subst hl
 have hj':j < (l.flatMap f).length:=by rw[hfl];exact hj
 have:=World.ownsRow.cells h (g:=g) rfl j (l.flatMap f)[j] (List.getElem?_eq_getElem hj')
 have hadd:((⟨g,0,none⟩:Addr).add j)=⟨g,j,none⟩:=by unfold Addr.add;split <;> simp_all
 rw[hadd] at this
 rw[this]
 rfl
theorem run_clear_st {P:Program} (w:World) (t e:TypeId) (z:Value) (sz:Nat) (ht:P.underlying t=some (.slice e)) (hv:∀w,(zeroValue e).run P w=.ok z w) (hz:z.cells.size=sz) (h1:∀u ∈ z.cells.toList,u.oneCell'=true) (b o n c:Nat) (hn:0 < n)
  (hc:∀j,j < n*sz→(w.cell? ⟨b,o+j,none⟩).isSome=true) (hf:∀j,j < n*sz→w.frozen? ⟨b,o+j,none⟩=false):
  ∃vs,∀ty,(Builtin.clear_ #[t] ty #[.slice (some ⟨b,o,none⟩) n c]).run P w=.ok (.tuple #[]) (w.setCells b o vs):=by
 have hsz:=size_zeroCells z.cells n
 have hst:=run_storeCells_cells (P:=P) b o (Builtin.zeroCells z.cells n).toList 0 w (by simpa[hsz,hz] using hc) (by simpa[hsz,hz] using hf) (by
  intro v hv'
  have hm:v ∈ Builtin.zeroCells z.cells n:=by simpa using hv'
  refine h1 v ?_
  unfold Builtin.zeroCells at hm
  obtain⟨i,hi,rfl⟩:=Array.mem_map.1 hm
  have hi:i < n*z.cells.size:=by simpa using hi
  have hpos:0 < z.cells.size:=Nat.pos_of_ne_zero fun e=>by rw[e] at hi;omega
  rw[getElem!_pos z.cells _ (Nat.mod_lt _ hpos)]
  simp)
 simp only[Nat.add_zero] at hst
 obtain⟨m,rfl⟩:∃m,n=m+1:=⟨n - 1,by omega⟩
 exact⟨(Builtin.zeroCells z.cells (m+1)).toList,fun ty=>by simp[Builtin.clear_,run_underlying ht,hv,hst]⟩
theorem dd_Index {v:Value} {l:List Dd} {B:Nat} (w:World) (h:OwnF Dd.cells 112 8 w B v l) (hl:l.length≤400) {g:Nat} {lb:Array Value} {p:Dd→Bool} (eg:∀args w,(callFunc g args).run Tryz.prog w=.ok (.enter g args) w)
  (hp:PredP Tryz.prog g lb (fun d:Dd=>.agg d.cells.toArray) p (· ∈ l) w v.ownBlock):
  Calls Tryz.prog 156 #[v,.func (.func g) #[] lb] w fun e w'=>e=.returned (.int .i64 (idxI p l))∧Below w.heap.size w w':=by
 obtain⟨av,cv,rfl⟩:=OwnF.sli h
 have HH:=hid h
 have HP:=hid hp
 clear h hp
 go_enter Tryz.func156,Tryz.ntmps156
 go_wp2_with fail
 obtain⟨W,rfl⟩:∃W,W=w:=⟨_,rfl⟩
 go_loopw [8] (fun q wr=>∃(k:Nat),k≤l.length∧q=.int .i64 k∧(∀x ∈ l.take k,p x=false)∧Below W.heap.size W wr) (fun q _=>l.length - (intOf q).toNat)
 case atStart=>exact⟨0,by omega,by go_num,by simp,Below.refl _ _⟩
 case round=>
  obtain⟨k,hk,rfl,hn,hb⟩:=hrel
  have HN:=hid hn
  have HB:=hid hb
  have hsz:=hb.size
  clear hn hb
  by_cases hlt:k < l.length
  ·obtain ⟨b,off,d,rfl,hb,hdk,hc⟩:=(OwnF.sl HH.out).atF Dd.len rfl hlt
   have HDK:=hid hdk
   have hcl:=hid (HP.out wr d (List.mem_of_getElem? hdk) (grownBy.below (grownBy.refl _ _) HB.out))
   obtain⟨ob,op,ke,va,re,go,at_,ba⟩:=d
   have c0:wr.cell? ⟨b,off+k*8,none⟩=some (.int .i64 ob):=cell_below HB.out hb (hc 0 (by decide))
   have c1:wr.cell? ⟨b,off+k*8+1,none⟩=some (.int .i64 op):=cell_below HB.out hb (hc 1 (by decide))
   have c2:wr.cell? ⟨b,off+k*8+2,none⟩=some (.int .i64 ke):=cell_below HB.out hb (hc 2 (by decide))
   have c3:wr.cell? ⟨b,off+k*8+3,none⟩=some (.int .i64 va):=cell_below HB.out hb (hc 3 (by decide))
   have c4:wr.cell? ⟨b,off+k*8+4,none⟩=some (.int .i64 re):=cell_below HB.out hb (hc 4 (by decide))
   have c5:wr.cell? ⟨b,off+k*8+5,none⟩=some (.int .i64 go):=cell_below HB.out hb (hc 5 (by decide))
   have c6:wr.cell? ⟨b,off+k*8+6,none⟩=some (.int .i64 at_):=cell_below HB.out hb (hc 6 (by decide))
   have c7:wr.cell? ⟨b,off+k*8+7,none⟩=some (.int .i64 ba):=cell_below HB.out hb (hc 7 (by decide))
   have hbw:b < wr.heap.size:=by omega
   clear hc hdk
   obtain⟨r,hr⟩:∃r,p ⟨ob,op,ke,va,re,go,at_,ba⟩=r:=⟨_,rfl⟩
   rw[hr] at hcl
   have HR:=hid hr
   clear hr
   go_wp2_with fail
   refine(hcl.out).mono ?_
   rintro e w1 ⟨rfl,b1⟩
   have HB1:=hid (HB.out.trans (b1.mono hsz))
   clear b1 hcl
   cases r with
   |true=>
    go_wp2_with fail
    refine bodyPost_ret (v:=.int .i64 k) (by simp[results,Tryz.results156,go_sem]) rfl ?_
    exact⟨by rw[idx_at HDK.out HR.out HN.out],HB1.out⟩
   |false=>
    go_wp2_with fail
    go_roundw
    case rel=>
     refine⟨k+1,by omega,by go_num,fun x hx=>?_,HB1.out⟩
     rw[List.take_add_one,HDK.out,Option.toList_some] at hx
     rcases List.mem_append.1 hx with hx|hx
     ·exact HN.out x hx
     ·rw [List.mem_singleton.1 hx];exact HR.out
    case measure=>simp[intOf];omega
  ·obtain rfl:k=l.length:=by omega
   have hq:decide ((l.length:Int) < (l.length:Int))=false:=by simp
   go_wp2_with fail
   refine bodyPost_ret (v:=.int .i64 (-1)) (by simp[results,Tryz.results156,go_sem]) rfl ?_
   refine⟨by rw[idx_no fun x hx=>HN.out x (by rw[List.take_length];exact hx)],HB.out⟩
theorem dd_size (w:World):(sizeOf (Tryz.prog.elem 47)).run Tryz.prog w=.ok 8 w:=by kernel_rfl
theorem dd_zero:∃z:Value,(∀w,(zeroValue 112).run Tryz.prog w=.ok z w)∧z.cells.size=8∧∀u ∈ z.cells.toList,u.oneCell'=true:=⟨(.agg #[.int .i64 0,.int .i64 0,.int .i64 0,.int .i64 0,.int .i64 0,.int .i64 0,.int .i64 0,.int .i64 0]),fun w=>by kernel_rfl,rfl,by intro u hu;simp[Value.cells] at hu;rcases hu with rfl|rfl|rfl|rfl|rfl|rfl|rfl|rfl <;> rfl⟩
theorem dd_set {w:World} {B g n c i:Nat} {l:List Dd} (h:OwnF Dd.cells 112 8 w B (.slice (some ⟨g,0,none⟩) n c) l) (hi:i < n) (ob:Int) (op:Int) (ke:Int) (va:Int) (re:Int) (go:Int) (at_:Int) (ba:Int):
  OwnF Dd.cells 112 8 ((((((((w.setCell ⟨g,i*8,none⟩ (.int .i64 ob)).setCell ⟨g,i*8+1,none⟩ (.int .i64 op)).setCell ⟨g,i*8+2,none⟩ (.int .i64 ke)).setCell ⟨g,i*8+3,none⟩ (.int .i64 va)).setCell ⟨g,i*8+4,none⟩ (.int .i64 re)).setCell ⟨g,i*8+5,none⟩ (.int .i64 go)).setCell ⟨g,i*8+6,none⟩ (.int .i64 at_)).setCell ⟨g,i*8+7,none⟩ (.int .i64 ba)) B (.slice (some ⟨g,0,none⟩) n c) (l.set i ⟨ob,op,ke,va,re,go,at_,ba⟩):=by
 have hn:=OwnF.len h
 obtain⟨d,hd⟩:∃d,l[i]?=some d:=⟨_,List.getElem?_eq_getElem (by omega)⟩
 obtain⟨b0,b1,b2,b3,b4,b5,b6,b7⟩:=d
 have il:∀u:Dd,(l.set i u)[i]?=some u:=fun u=>List.getElem?_set_self (by omega)
 have h1:=own_setN h Dd.len (u:=(⟨ob,b1,b2,b3,b4,b5,b6,b7⟩:Dd)) (x:=(⟨b0,b1,b2,b3,b4,b5,b6,b7⟩:Dd)) (a:=.int .i64 ob) (j:=0) (by decide) hd rfl
 have h2:=own_setN h1 Dd.len (u:=(⟨ob,op,b2,b3,b4,b5,b6,b7⟩:Dd)) (x:=(⟨ob,b1,b2,b3,b4,b5,b6,b7⟩:Dd)) (a:=.int .i64 op) (j:=1) (by decide) (il _) rfl
 rw[List.set_set] at h2
 have h3:=own_setN h2 Dd.len (u:=(⟨ob,op,ke,b3,b4,b5,b6,b7⟩:Dd)) (x:=(⟨ob,op,b2,b3,b4,b5,b6,b7⟩:Dd)) (a:=.int .i64 ke) (j:=2) (by decide) (il _) rfl
 rw[List.set_set] at h3
 have h4:=own_setN h3 Dd.len (u:=(⟨ob,op,ke,va,b4,b5,b6,b7⟩:Dd)) (x:=(⟨ob,op,ke,b3,b4,b5,b6,b7⟩:Dd)) (a:=.int .i64 va) (j:=3) (by decide) (il _) rfl
 rw[List.set_set] at h4
 have h5:=own_setN h4 Dd.len (u:=(⟨ob,op,ke,va,re,b5,b6,b7⟩:Dd)) (x:=(⟨ob,op,ke,va,b4,b5,b6,b7⟩:Dd)) (a:=.int .i64 re) (j:=4) (by decide) (il _) rfl
 rw[List.set_set] at h5
 have h6:=own_setN h5 Dd.len (u:=(⟨ob,op,ke,va,re,go,b6,b7⟩:Dd)) (x:=(⟨ob,op,ke,va,re,b5,b6,b7⟩:Dd)) (a:=.int .i64 go) (j:=5) (by decide) (il _) rfl
 rw[List.set_set] at h6
 have h7:=own_setN h6 Dd.len (u:=(⟨ob,op,ke,va,re,go,at_,b7⟩:Dd)) (x:=(⟨ob,op,ke,va,re,go,b6,b7⟩:Dd)) (a:=.int .i64 at_) (j:=6) (by decide) (il _) rfl
 rw[List.set_set] at h7
 have h8:=own_setN h7 Dd.len (u:=(⟨ob,op,ke,va,re,go,at_,ba⟩:Dd)) (x:=(⟨ob,op,ke,va,re,go,at_,b7⟩:Dd)) (a:=.int .i64 ba) (j:=7) (by decide) (il _) rfl
 rw[List.set_set] at h8
 exact h8
theorem dd_Delete {v:Value} {l:List Dd} {B:Nat} (w:World) (h:OwnF Dd.cells 112 8 w B v l) (hl:l.length≤400) {g0:Nat} {lb:Array Value} {p:Dd→Bool} (eg:∀args w,(callFunc g0 args).run Tryz.prog w=.ok (.enter g0 args) w)
  (hp:PredP Tryz.prog g0 lb (fun d:Dd=>.agg d.cells.toArray) p (· ∈ l) w v.ownBlock):
  Calls Tryz.prog 107 #[v,.func (.func g0) #[] lb] w fun e w'=>∃v',e=.returned v'∧OwnF Dd.cells 112 8 w' B v' (l.filter fun x=>!p x)∧Grw w w' v v':=by
 obtain⟨av,cv,rfl⟩:=OwnF.sli h
 have hix:=dd_Index w h hl eg hp
 rcases idx_cases (p:=p) (l:=l) with⟨e1,e2⟩|⟨k,d,e1,hkl,hkd,hpd,e2⟩
 ·rw [e1] at hix
  have HX:=hid hix
  have HH:=hid h
  have HE:=hid e2
  clear hix h hp e1 e2
  go_enter Tryz.func107,Tryz.ntmps107
  go_wp2_with fail
  refine(HX.out).mono ?_
  rintro e w1 ⟨rfl,b1⟩
  have O1:=hid (OwnF.below HH.out b1)
  have G1:=hid (show Grw w w1 (.slice av l.length cv) (.slice av l.length cv) from⟨grownBy.below (grownBy.refl w _) b1,fun _ h=>.inl h⟩)
  clear b1 HX
  go_wp2_with fail
  go_ret
  exact⟨_,rfl,by rw[HE.out];exact O1.out,G1.out⟩
 ·obtain ⟨g,hgv⟩:∃g,av=some ⟨g,0,none⟩:=by
   rcases OwnF.form h with⟨-,h2⟩|⟨g,cap,h1,-⟩
   ·rw [h2] at hkl;simp at hkl
   ·exact ⟨g,by simp only[Value.slice.injEq] at h1;exact h1.1⟩
  subst hgv
  rw[e1] at hix
  have hgB:=OwnF.lt h g rfl
  have hcap:=OwnF.capD h
  have HX:=hid hix
  have HH:=hid h
  have HE:=hid e2
  have HP:=hid hp
  clear hix h hp e1 e2
  have qk:((k:Int)==-1)=false:=beq_eq_false_iff_ne.2 (by omega)
  go_enter Tryz.func107,Tryz.ntmps107
  go_wp2_with fail
  refine(HX.out).mono ?_
  rintro e w1 ⟨rfl,b1⟩
  have O1:=hid (OwnF.below HH.out b1)
  have G1:=hid (grownBy.below (grownBy.refl w (some g)) b1)
  clear b1 HX
  go_wp2_with fail
  go_loopw [5,6] (fun q r wr=>∃(i j:Nat) (dk:List Dd),i < j∧j≤l.length∧q=.int .i64 i∧r=.int .i64 j∧dk.length=l.length∧dk.take i=(l.take j).filter (fun x=>!p x)∧dk.drop j=l.drop j∧OwnF Dd.cells 112 8 wr B (.slice (some ⟨g,0,none⟩) l.length cv) dk∧w.grownBy wr (some g)) (fun _ r _=>l.length - (intOf r).toNat)
  case atStart=>exact⟨k,k+1,l,by omega,by omega,rfl,by first|rfl|go_num,rfl,HE.out.symm,rfl,O1.out,G1.out⟩
  case round=>
   obtain⟨i,j,dk,hij,hj,rfl,rfl,hdl,htk,hdr,ho,hg⟩:=hrel
   have hsz:=hg.size
   have HTK:=hid htk
   have HDR:=hid hdr
   have HO:=hid ho
   have HG:=hid hg
   have HDL:=hid hdl
   clear htk hdr ho hg hdl O1 G1
   by_cases hlt:j < l.length
   ·have hdl2:OwnF Dd.cells 112 8 wr B (.slice (some ⟨g,0,none⟩) dk.length cv) dk:=by rw[HDL.out];exact HO.out
    obtain⟨b,off,d,hqe,hb,hdk,hc⟩:=(OwnF.sl hdl2).atF Dd.len rfl (show j < dk.length by rw[HDL.out];exact hlt)
    simp only[Option.some.injEq,Addr.mk.injEq,and_true] at hqe
    obtain⟨rfl,rfl⟩:=hqe
    have hlj:l[j]?=some d:=by rw[←drop_get HDR.out];exact hdk
    have HLJ:=hid hlj
    have HMm:=hid (List.mem_of_getElem? hlj)
    obtain⟨ob,op,ke,va,re,go,at_,ba⟩:=d
    have c0:wr.cell? ⟨g,j*8,none⟩=some (.int .i64 ob):=by have:=hc 0 (by decide);simpa[Dd.cells] using this
    have c1:wr.cell? ⟨g,j*8+1,none⟩=some (.int .i64 op):=by have:=hc 1 (by decide);simpa[Dd.cells] using this
    have c2:wr.cell? ⟨g,j*8+2,none⟩=some (.int .i64 ke):=by have:=hc 2 (by decide);simpa[Dd.cells] using this
    have c3:wr.cell? ⟨g,j*8+3,none⟩=some (.int .i64 va):=by have:=hc 3 (by decide);simpa[Dd.cells] using this
    have c4:wr.cell? ⟨g,j*8+4,none⟩=some (.int .i64 re):=by have:=hc 4 (by decide);simpa[Dd.cells] using this
    have c5:wr.cell? ⟨g,j*8+5,none⟩=some (.int .i64 go):=by have:=hc 5 (by decide);simpa[Dd.cells] using this
    have c6:wr.cell? ⟨g,j*8+6,none⟩=some (.int .i64 at_):=by have:=hc 6 (by decide);simpa[Dd.cells] using this
    have c7:wr.cell? ⟨g,j*8+7,none⟩=some (.int .i64 ba):=by have:=hc 7 (by decide);simpa[Dd.cells] using this
    obtain⟨r,hr⟩:∃r,p ⟨ob,op,ke,va,re,go,at_,ba⟩=r:=⟨_,rfl⟩
    have HR:=hid hr
    have b3:Below wr.heap.size wr (wr.alloc (.cells #[.int .i64 ob,.int .i64 op,.int .i64 ke,.int .i64 va,.int .i64 re,.int .i64 go,.int .i64 at_,.int .i64 ba] 112)):=(Below.refl _ wr).alloc (Nat.le_refl _) _
    have r3:=row_new wr (.cells #[.int .i64 ob,.int .i64 op,.int .i64 ke,.int .i64 va,.int .i64 re,.int .i64 go,.int .i64 at_,.int .i64 ba] 112)
    have hcl:=HP.out (wr.alloc (.cells #[.int .i64 ob,.int .i64 op,.int .i64 ke,.int .i64 va,.int .i64 re,.int .i64 go,.int .i64 at_,.int .i64 ba] 112)) ⟨ob,op,ke,va,re,go,at_,ba⟩ HMm.out (grownBy.below HG.out b3)
    rw[hr] at hcl
    have HCL:=hid hcl
    have O3:=hid (OwnF.below HO.out b3)
    have G3:=hid (grownBy.below HG.out b3)
    have hsz3:=b3.size
    have R3:=hid r3
    have r3c:=row_cell r3
    have y0:=r3c 0
    have y1:=r3c 1
    have y2:=r3c 2
    have y3:=r3c 3
    have y4:=r3c 4
    have y5:=r3c 5
    have y6:=r3c 6
    have y7:=r3c 7
    simp at y0 y1 y2 y3 y4 y5 y6 y7
    have yl:=row_lt r3
    clear r3c r3
    clear hcl hr hlj hdk hc hdl2 b3
    go_wp2_with fail
    refine(HCL.out).mono ?_
    rintro e W4 ⟨rfl,b4⟩
    have O4:=hid (OwnF.below O3.out b4)
    have G4:=hid (grownBy.below G3.out b4)
    have hsz4:=b4.size
    have r4:=row_below R3.out b4 yl
    clear y0 y1 y2 y3 y4 y5 y6 y7 yl
    have r3c:=row_cell r4
    have y0:=r3c 0
    have y1:=r3c 1
    have y2:=r3c 2
    have y3:=r3c 3
    have y4:=r3c 4
    have y5:=r3c 5
    have y6:=r3c 6
    have y7:=r3c 7
    simp at y0 y1 y2 y3 y4 y5 y6 y7
    have yl:=row_lt r4
    clear r3c r4
    clear b4 HCL
    cases r with
    |true=>
     go_wp2_with fail
     go_roundw
     case rel=>
      refine⟨i,j+1,dk,by omega,by omega,rfl,by go_num,HDL.out,by rw[filt_yes HLJ.out HR.out];exact HTK.out,?_,O4.out,G4.out⟩
      have:=congrArg (List.drop 1) HDR.out
      simpa[List.drop_drop] using this
     case measure=>simp[intOf];omega
    |false=>
     have hdl4:OwnF Dd.cells 112 8 W4 B (.slice (some ⟨g,0,none⟩) dk.length cv) dk:=by rw[HDL.out];exact O4.out
     obtain⟨b',off',d',hqe,hb',hdk',hx⟩:=(OwnF.sl hdl4).atF Dd.len rfl (show i < dk.length by rw[HDL.out];omega)
     simp only[Option.some.injEq,Addr.mk.injEq,and_true] at hqe
     obtain⟨rfl,rfl⟩:=hqe
     have x0:=hx 0 (by decide)
     have x1:=hx 1 (by decide)
     have x2:=hx 2 (by decide)
     have x3:=hx 3 (by decide)
     have x4:=hx 4 (by decide)
     have x5:=hx 5 (by decide)
     have x6:=hx 6 (by decide)
     have x7:=hx 7 (by decide)
     simp[Dd.cells] at x0 x1 x2 x3 x4 x5 x6 x7
     obtain⟨csG,hcsG⟩:=OwnF.objD O4.out
     have hgl:=row_lt hcsG
     have zf:=fun o=>row_free hcsG o
     have OS:=hid (dd_set O4.out (show i < l.length by omega) ob op ke va re go at_ ba)
     clear hx hdk' hdl4 hcsG
     go_wp2_with fail
     go_roundw
     case rel=>
      refine⟨i+1,j+1,dk.set i ⟨ob,op,ke,va,re,go,at_,ba⟩,by omega,by omega,by go_num,by go_num,by rw[List.length_set];exact HDL.out,?_,?_,OS.out,grownBy.set (grownBy.set (grownBy.set (grownBy.set (grownBy.set (grownBy.set (grownBy.set (grownBy.set (G4.out))))))))⟩
      ·rw [set_take (by rw[HDL.out];omega),filt_no HLJ.out HR.out,HTK.out]
      ·rw [set_drop (by omega)]
       have:=congrArg (List.drop 1) HDR.out
       simpa[List.drop_drop] using this
     case measure=>simp[intOf];omega
   ·obtain rfl:j=l.length:=by omega
    have hq:decide ((l.length:Int) < (l.length:Int))=false:=by simp
    have HT:=hid (show dk.take i=l.filter fun x=>!p x by rw[HTK.out,List.take_length])
    have OT:=hid (OwnF.takeF HO.out Dd.len (show i≤l.length by omega))
    obtain⟨csG,hcsG⟩:=OwnF.objD HO.out
    have hgl:=row_lt hcsG
    obtain⟨z,hz1,hz2,hz3⟩:=dd_zero
    have HF:=hid (fun o=>row_free hcsG o)
    have HC:=hid (OwnF.cellsAt HO.out HDL.out Dd.len)
    obtain⟨vs,hclr⟩:=run_clear_st wr 47 112 z 8 Tryz.underlying47 hz1 hz2 hz3 g (i*8) (l.length - i) (cv - i) (by omega) (fun t ht=>HC.out (i*8+t) (by have:(l.length - i)*8=l.length*8 - i*8:=Nat.sub_mul .. ;omega)) (fun t ht=>HF.out _)
    have hslA:∀X:World,(Instr.slice 47 (.slice (some ⟨g,0,none⟩) l.length cv) (some (.int .i64 (i:Int))) none none).run Tryz.prog X=.ok (.slice (some ⟨g,i*8,none⟩) (l.length - i) (cv - i)) X:=fun X=>by
     rw[run_slice_l X _ _ _ _ Tryz.underlying47 _ _ (by omega) (by omega),dd_size]
     simp only[Result.andThen,sliced,Int.toNat_natCast]
     congr 2
     rw[if_neg (by omega)]
     first|(simp[Addr.add];done)|(simp[Addr.add];intro h;omega)
    have hslB:∀X:World,(Instr.slice 47 (.slice (some ⟨g,0,none⟩) l.length cv) none (some (.int .i64 (i:Int))) none).run Tryz.prog X=.ok (.slice (some ⟨g,0,none⟩) i cv) X:=fun X=>by
     rw[run_slice_h X _ _ _ _ Tryz.underlying47 _ _ (by omega) (by omega),dd_size]
     simp only[Result.andThen,sliced,Int.toNat_natCast,Nat.sub_zero]
     congr 2
     split
     ·rfl
     ·simp [Addr.add]
    have OB:=hid (OwnF.behind Dd.len vs (i*8) OT.out (Nat.le_refl _))
    have GB:=hid (grownBy.sets vs (i*8) HG.out)
    clear hcsG hz1 hz3
    go_wp2_with fail
    go_ret
    refine⟨_,rfl,by rw[←HT.out];have:=OB.out;exact this,⟨GB.out,fun k hk=>.inl hk⟩⟩
end
structure KeyV {β:Type} (P:Program) (K:TypeId) (κ:β→Value):Prop where
 inj:∀{x y:β},κ x=κ y→x=y
 keyed:Keyed P K
 ok:∀x,∃l,keyOf P K (κ x)=some l
section
variable {β:Type} {κ:β→Value} {P:Program} {K t e:TypeId} {w w':World} {b:Nat} {M:β→Option Value}
def TellsV (κ:β→Value) (es:Array MapEntry) (M:β→Option Value):Prop:=∀k v,M k=some v↔∃x ∈ es.toList,x.key=κ k∧x.val=v
def RawV (κ:β→Value) (w:World) (b:Nat) (M:β→Option Value):Prop:=
 ∃(es:Array MapEntry) (c:Nat),w.heap[b]?=some (.map es c)∧(∀x ∈ es.toList,∃k:β,x.key=κ k)∧Stamped es c∧TellsV κ es M
open Classical in
noncomputable def rupV (M:β→Option Value) (a:β) (v:Option Value):β→Option Value:=fun k=>if k=a then v else M k
theorem rupV_same {a:β} {v:Option Value}:rupV M a v a=v:=by simp[rupV]
theorem rupV_ne {a k:β} {v:Option Value} (h:k≠a):rupV M a v k=M k:=by simp[rupV,h]
theorem RawV.lt (h:RawV κ w b M):b < w.heap.size:=by
 obtain⟨es,c,hb,-⟩:=h
 exact(Array.getElem?_eq_some_iff.1 hb).1
theorem RawV.isMap (h:RawV κ w b M):∃es c,w.heap[b]?=some (.map es c):=let ⟨es,c,hb,_⟩:=h;⟨es,c,hb⟩
theorem RawV.obj (h:RawV κ w b M) (hw:w'.heap[b]?=w.heap[b]?):RawV κ w' b M:=by
 obtain⟨es,c,hb,h⟩:=h
 exact⟨es,c,hw.trans hb,h⟩
theorem RawV.drew (h:RawV κ w b M):RawV κ w.drew b M:=h
theorem RawV.made (h:w.heap[b]?=some (.map #[] 0)):RawV κ w b (fun _=>none):=⟨#[],0,h,by simp,stamped_empty 0,by intro k v;simp⟩
theorem RawV.fun {N:β→Option Value} (h:RawV κ w b M) (hN:∀k,N k=M k):RawV κ w b N:=by
 obtain⟨es,c,h1,h2,h3,h4⟩:=h
 exact⟨es,c,h1,h2,h3,fun k v=>by rw[hN];exact h4 k v⟩
theorem RawV.find (T:KeyV P K κ) {es:Array MapEntry} (h2:∀x ∈ es.toList,∃k:β,x.key=κ k) (h4:TellsV κ es M) (w:World) (a:β):
  ((Instr.findKey K (κ a) es.toList).run P w=.ok none w∧(∀x ∈ es.toList,x.key≠κ a)∧M a=none)∨∃j x,(Instr.findKey K (κ a) es.toList).run P w=.ok (some (j,x.val)) w∧es.toList[j]?=some x∧x.key=κ a∧M a=some x.val:=by
 obtain⟨la,ha⟩:=T.ok a
 rcases T.keyed.find w ha es.toList (fun x hx=>by
  obtain⟨k,hk⟩:=h2 x hx
  rw[hk]
  exact T.ok k) with⟨h1,hn⟩|⟨j,x,h1,hj,hx⟩
 ·refine .inl ⟨h1,hn,?_⟩
  cases hM:M a with
  |none=>rfl
  |some v=>
   obtain⟨x,hx,hk,-⟩:=(h4 a v).1 hM
   exact absurd hk (hn x hx)
 ·exact .inr ⟨j,x,h1,hj,hx,(h4 a x.val).2 ⟨x,List.mem_of_getElem? hj,hx,rfl⟩⟩
theorem RawV.look (T:KeyV P K κ) (h:RawV κ w b M) (ht:P.underlying t=some (.map K e)) {zv:Value} (hz:(zeroValue e).run P w=.ok zv w) (a:β) {r:Option Value} (hr:M a=r):
  (Instr.lookup t (.map (some b)) (κ a) false).run P w=.ok (r.getD zv) w∧(Instr.lookup t (.map (some b)) (κ a) true).run P w=.ok (.tuple #[r.getD zv,.bool r.isSome]) w:=by
 obtain⟨es,c,hb,h2,h3,h4⟩:=h
 obtain⟨la,ha⟩:=T.ok a
 rcases RawV.find T h2 h4 w a with⟨h1,-,hM⟩|⟨j,x,h1,-,-,hM⟩ <;>
 ·rw [hM] at hr
  subst hr
  constructor <;> simp[Instr.lookup,run_underlying ht,MapKept.run_getObj_map hb,T.keyed.check w _ ha,h1,hz,Result.andThen]
theorem keysV_push {es:Array MapEntry} {a:β} {v:Value} {c:Nat} (h2:∀x ∈ es.toList,∃k:β,x.key=κ k):∀x ∈ (es.push ⟨κ a,v,c⟩).toList,∃k:β,x.key=κ k:=by
 intro y hy
 simp only[Array.toList_push,List.mem_append,List.mem_singleton] at hy
 rcases hy with hy|rfl
 ·exact h2 y hy
 ·exact ⟨a,rfl⟩
theorem TellsV.push (T:KeyV P K κ) {es:Array MapEntry} (h4:TellsV κ es M) {a:β} {v:Value} {c:Nat} (hn:∀x ∈ es.toList,x.key≠κ a):TellsV κ (es.push ⟨κ a,v,c⟩) (rupV M a (some v)):=by
 intro k u
 simp only[Array.toList_push,List.mem_append,List.mem_singleton]
 by_cases hk:k=a
 ·subst hk
  rw[rupV_same]
  constructor
  ·intro hu
   cases hu
   exact⟨_,.inr rfl,rfl,rfl⟩
  ·rintro ⟨y,hy|rfl,h5,h6⟩
   ·exact absurd h5 (hn y hy)
   ·simpa using h6
 ·rw [rupV_ne hk,h4]
  constructor
  ·rintro ⟨y,hy,h5⟩
   exact⟨y,.inl hy,h5⟩
  ·rintro ⟨y,hy|rfl,h5,h6⟩
   ·exact ⟨y,hy,h5,h6⟩
   ·exact absurd (T.inj h5).symm hk
theorem keysV_modify {es:Array MapEntry} {c:Nat} (hs:Stamped es c) (h2:∀x ∈ es.toList,∃k:β,x.key=κ k) {j:Nat} {x:MapEntry} (hj:es[j]?=some x) {f:MapEntry→MapEntry} {a:β} (hf:(f x).key=κ a):∀y ∈ (es.modify j f).toList,∃k:β,y.key=κ k:=by
 intro y hy
 rcases(mem_modify hs hj f y).1 hy with rfl|⟨hy,-⟩
 ·exact ⟨a,hf⟩
 ·exact h2 y hy
theorem TellsV.modify (T:KeyV P K κ) {es:Array MapEntry} {c:Nat} (hs:Stamped es c) (h4:TellsV κ es M) {j:Nat} {x:MapEntry} (hj:es[j]?=some x) {f:MapEntry→MapEntry} {a:β} (hx:x.key=κ a) (hf:(f x).key=κ a):TellsV κ (es.modify j f) (rupV M a (some (f x).val)):=by
 intro k u
 by_cases hk:k=a
 ·subst hk
  rw[rupV_same]
  constructor
  ·intro hu
   cases hu
   exact⟨_,(mem_modify hs hj f _).2 (.inl rfl),hf,rfl⟩
  ·rintro ⟨y,hy,h5,h6⟩
   rcases(mem_modify hs hj f y).1 hy with rfl|⟨-,hne⟩
   ·rw [h6]
   ·exact absurd (h5.trans hx.symm) hne
 ·rw [rupV_ne hk,h4]
  constructor
  ·rintro ⟨y,hy,h5,h6⟩
   exact⟨y,(mem_modify hs hj f y).2 (.inr ⟨hy,by rw[h5,hx];exact fun e=>hk (T.inj e)⟩),h5,h6⟩
  ·rintro ⟨y,hy,h5,h6⟩
   rcases(mem_modify hs hj f y).1 hy with rfl|⟨hy,-⟩
   ·rw [hf] at h5
    exact absurd (T.inj h5).symm hk
   ·exact ⟨y,hy,h5,h6⟩
theorem RawV.store (T:KeyV P K κ) (h:RawV κ w b M) (ht:P.underlying t=some (.map K e)) (a:β) (v:Value):
  ∃w',(Instr.mapUpdate t (.map (some b)) (κ a) v).run P w=.ok () w'∧RawV κ w' b (rupV M a (some v))∧w.mapTurned w' b:=by
 obtain⟨es,c,hb,h2,h3,h4⟩:=h
 obtain⟨la,ha⟩:=T.ok a
 rcases RawV.find T h2 h4 w a with⟨h1,hn,hM⟩|⟨j,x,h1,hj,hx,hM⟩
 ·refine ⟨ChangeMaps.setBlock w b (.map (es.push ⟨κ a,v,c⟩) (c+1)),?_,⟨_,_,ChangeMaps.heap_setBlock_same hb _,keysV_push h2,stamped_push h3 hn,h4.push T hn⟩,⟨_,_,_,_,hb,rfl⟩⟩
  simp[Instr.mapUpdate,run_underlying ht,MapKept.run_getObj_map hb,T.keyed.check w _ ha,h1,MapKept.run_setObj_map _ hb,Result.andThen,ChangeMaps.setBlock]
 ·have hj':es[j]?=some x:=by simpa using hj
  refine⟨ChangeMaps.setBlock w b (.map (es.modify j fun y=>{y with key:=κ a,val:=v}) c),?_,⟨_,_,ChangeMaps.heap_setBlock_same hb _,keysV_modify h3 h2 hj' (a:=a) rfl,stamped_mod h3 hj' (fun _=>rfl) hx.symm,TellsV.modify (f:=fun y=>{y with key:=κ a,val:=v}) T h3 h4 hj' hx rfl⟩,⟨_,_,_,_,hb,rfl⟩⟩
  simp[Instr.mapUpdate,run_underlying ht,MapKept.run_getObj_map hb,T.keyed.check w _ ha,h1,hj',hx,T.keyed.stays w ha,MapKept.run_setObj_map _ hb,Result.andThen,ChangeMaps.setBlock]
theorem RawV.wp_store (T:KeyV P K κ) (h:RawV κ w b M) (ht:P.underlying t=some (.map K e)) {a:β} {v:Value}
  {o:Oper} {act:Act} {Q:Exit→Act→World→Prop} {K':Act→World→Prop} {m x y:Operand} (hop:o.op=Op.mapUpdate t m x y) (hm:act.eval m=.map (some b)) (hx:act.eval x=κ a) (hy:act.eval y=v)
  (hQ:∀w',RawV κ w' b (rupV M a (some v))→w.mapTurned w' b→K' (act.put o.dst undef) w'):o.wp P act w K' Q:=by
 obtain⟨w',hrun,h1,h2⟩:=h.store T ht a v
 unfold Oper.wp
 simp only[execOp,hop,hm,hx,hy,Sem.run_bind,hrun,Result.andThen_ok,Sem.run_pure]
 exact hQ w' h1 h2
theorem RawV.wpList_store (T:KeyV P K κ) (h:RawV κ w b M) (ht:P.underlying t=some (.map K e)) {a:β} {v:Value}
  {ops:Array Oper} {rest:List Oper} {o:Oper} {act:Act} {Q:Exit→Act→World→Prop} {m x y:Operand} (hg:o.guard=none) (hop:o.op=Op.mapUpdate t m x y) (hm:act.eval m=.map (some b)) (hx:act.eval x=κ a) (hy:act.eval y=v)
  (hQ:∀w',RawV κ w' b (rupV M a (some v))→w.mapTurned w' b→wpList P ops Q rest (act.put o.dst undef) w'):wpList P ops Q (o::rest) act w:=
 wpList_plain hg fun _ hK'=>h.wp_store T ht hop hm hx hy fun w' h1 h2=>hK' _ _ (hQ w' h1 h2)
end
def Ck:Type:={c:Int×Int // dI c.1∧dI c.2}
def ckOf (o v:Int) (h:dI o∧dI v):Ck:=⟨(o,v),h⟩
theorem ckOf_1 (o v:Int) (h:dI o∧dI v):(ckOf o v h).1=(o,v):=rfl
def ckV (c:Ck):Value:=.agg #[.int .i64 c.1.1,.int .i64 c.1.2]
theorem laid_outC:laidOutB Tryz.prog=true:=by kernel_rfl
theorem cell_keyed:Keyed Tryz.prog 157:=Keyed.of_law (deep_law_laid laid_outC (m:=3) (by omega) (by decide+kernel) (by kernel_rfl) (by kernel_rfl))
theorem types_sizeC:∃m,Tryz.prog.types.size=m+1+1:=⟨Tryz.prog.types.size - 2,by kernel_rfl⟩
theorem ck_ok (c:Ck):∃l,keyOf Tryz.prog 157 (ckV c)=some l:=by
 obtain⟨⟨o,v⟩,ho,hv⟩:=c
 have ho:(Lit.int .i64 o).wf=true:=ho
 have hv:(Lit.int .i64 v).wf=true:=hv
 obtain⟨k,hk⟩:=types_sizeC
 have h1:Tryz.prog.keyType 157=true:=by kernel_rfl
 have h2:(ckV ⟨(o,v),ho,hv⟩:Value).formed Tryz.prog 157=true:=by kernel_rfl
 have h3:Tryz.prog.cellsOf 157=2:=by kernel_rfl
 have h4:Tryz.prog.cellsOf 3=1:=by kernel_rfl
 unfold keyOf
 rw[Tryz.underlying157]
 simp only
 rw[if_pos (by rw[h1,h2];rfl),hk]
 simp[Program.keyLits,Tryz.underlying157,Tryz.underlying3,h3,h4,ckV,Value.cells,ho,hv]
theorem ck_inj {x y:Ck} (h:ckV x=ckV y):x=y:=by
 obtain⟨⟨o,v⟩,hx⟩:=x
 obtain⟨⟨p,u⟩,hy⟩:=y
 simp only[ckV,Value.agg.injEq,Array.mk.injEq,List.cons.injEq,Value.int.injEq,true_and,and_true] at h
 obtain⟨rfl,rfl⟩:=h
 rfl
theorem ck:KeyV Tryz.prog 157 ckV:=⟨ck_inj,cell_keyed,ck_ok⟩
theorem zeroBl (w:World):(zeroValue 4).run Tryz.prog w=.ok (.bool false) w:=by kernel_rfl
def CkSet (w:World) (b:Nat) (l:List (Int×Int)):Prop:=∃M,RawV ckV w b M∧∀c:Ck,(M c).getD (.bool false)=.bool (decide (c.1 ∈ l))
def IntSet (w:World) (b:Nat) (l:List Int):Prop:=∃M,RawM w b M∧∀k:Int,(M k).getD (.bool false)=.bool (decide (k ∈ l))
section
variable {w w':World} {b:Nat} {l:List (Int×Int)} {rd:List Int}
theorem CkSet.obj (h:CkSet w b l) (hw:w'.heap[b]?=w.heap[b]?):CkSet w' b l:=let ⟨M,h1,h2⟩:=h;⟨M,h1.obj hw,h2⟩
theorem CkSet.lt (h:CkSet w b l):b < w.heap.size:=let ⟨M,h1,h2⟩:=h;h1.lt
theorem CkSet.made (h:w.heap[b]?=some (.map #[] 0)):CkSet w b []:=⟨_,RawV.made h,fun c=>by simp⟩
theorem CkSet.look (h:CkSet w b l) (c:Ck):(Instr.lookup 180 (.map (some b)) (ckV c) false).run Tryz.prog w=.ok (.bool (decide (c.1 ∈ l))) w:=by
 obtain⟨M,h1,h2⟩:=h
 have:=(h1.look ck Tryz.underlying180 (zeroBl w) c rfl).1
 rw[h2] at this
 exact this
theorem CkSet.put {M:Ck→Option Value} {c:Ck} (h:RawV ckV w' b (rupV M c (some (.bool true)))) (h2:∀c:Ck,(M c).getD (.bool false)=.bool (decide (c.1 ∈ l))):CkSet w' b (c.1::l):=by
 refine⟨_,h,fun k=>?_⟩
 by_cases e:k=c
 ·subst e;rw[rupV_same];simp
 ·rw [rupV_ne e,h2]
  have:k.1≠c.1:=fun h=>e (Subtype.ext h)
  simp[this]
theorem IntSet.obj (h:IntSet w b rd) (hw:w'.heap[b]?=w.heap[b]?):IntSet w' b rd:=let ⟨M,h1,h2⟩:=h;⟨M,h1.obj hw,h2⟩
theorem IntSet.lt (h:IntSet w b rd):b < w.heap.size:=let ⟨M,h1,h2⟩:=h;h1.lt
theorem IntSet.made (h:w.heap[b]?=some (.map #[] 0)):IntSet w b []:=⟨_,RawM.made h,fun c=>by simp⟩
theorem IntSet.look (h:IntSet w b rd) (a:Int):(Instr.lookup 102 (.map (some b)) (.int .i64 a) false).run Tryz.prog w=.ok (.bool (decide (a ∈ rd))) w:=by
 obtain⟨M,h1,h2⟩:=h
 have:=(h1.look Tryz.underlying3 Tryz.underlying102 (zeroBl w) a rfl).1
 rw[h2] at this
 exact this
theorem IntSet.put {M:Int→Option Value} {a:Int} {x:Bool} {rd':List Int} (h:RawM w' b (rup M a (some (.bool x)))) (h2:∀k:Int,(M k).getD (.bool false)=.bool (decide (k ∈ rd))) (hx:x=decide (a ∈ rd')) (hr:∀k,k≠a→(k ∈ rd'↔k ∈ rd)):IntSet w' b rd':=by
 refine⟨_,h,fun k=>?_⟩
 by_cases e:k=a
 ·subst e;rw[rup_same,hx];rfl
 ·rw [rup_ne e,h2]
  simp[hr k e]
end
section
attribute [local irreducible] wpL
def ofOp (k:Int):Int:=if k=1∨k=2 then 1 else if k=3∨k=4 then 2 else if k=5∨k=6 then 3 else if k=7∨k=8∨k=9 then 4 else 0
def keyedB (k:Int):Bool:=k==7||k==8||k==9
def valuedB (k:Int):Bool:=k==2||k==3||k==5||k==7
def fitsB (op ret:Int):Bool:=if valuedB op then ret==1 else if op=1∨op=4 then ret==3 else if op=6∨op=8∨op=9 then ret==2||ret==3 else false
theorem g_Of (k:Int) (w:World):Calls Tryz.prog 82 #[.int .i64 k] w fun e w'=>e=.returned (.int .i64 (ofOp k))∧w'=w:=by
 go_enter Tryz.func82,Tryz.ntmps82
 go_wp2
 all_goals
  refine bodyPost_ret (v:=.int .i64 (ofOp k)) ?_ rfl ⟨rfl,rfl⟩
  simp_all [results,Tryz.results82,go_sem,ofOp]
theorem g_Keyed (k:Int) (w:World):Calls Tryz.prog 88 #[.int .i64 k] w fun e w'=>e=.returned (.bool (keyedB k))∧w'=w:=by
 unfold keyedB
 go_enter Tryz.func88,Tryz.ntmps88
 cases h1:(k==7) <;> cases h2:(k==8) <;> cases h3:(k==9) <;>
 ·go_wp2
  go_ret
  exact⟨by simp,rfl⟩
theorem g_Valued (k:Int) (w:World):Calls Tryz.prog 89 #[.int .i64 k] w fun e w'=>e=.returned (.bool (valuedB k))∧w'=w:=by
 unfold valuedB
 go_enter Tryz.func89,Tryz.ntmps89
 cases h1:(k==2) <;> cases h2:(k==3) <;> cases h3:(k==5) <;> cases h4:(k==7) <;>
 ·go_wp2
  go_ret
  exact⟨by simp,rfl⟩
theorem g_Fits (k r:Int) (w:World):Calls Tryz.prog 174 #[.int .i64 k,.int .i64 r] w fun e w'=>e=.returned (.bool (fitsB k r))∧w'=w:=by
 unfold fitsB
 have hV:=hid (g_Valued k w)
 go_enter Tryz.func174,Tryz.ntmps174
 go_wp2_with fail
 refine hV.out.mono ?_
 rintro e w1 ⟨rfl,rfl⟩
 cases hv:valuedB k with
 |true=>
  go_wp2
  go_ret
  exact⟨by simp,rfl⟩
 |false=>
  by_cases h1:k=1
  ·subst h1
   go_wp2
   go_ret
   exact⟨by simp,rfl⟩
  by_cases h4:k=4
  ·subst h4
   go_wp2
   go_ret
   exact⟨by simp,rfl⟩
  have q1:(k==1)=false:=by simpa using h1
  have q4:(k==4)=false:=by simpa using h4
  by_cases h6:k=6∨k=8∨k=9
  ·rcases h6 with rfl|rfl|rfl <;>
   ·by_cases h2:r=2
    ·subst h2
     go_wp2
     go_ret
     exact⟨by simp,rfl⟩
    ·have q2:(r==2)=false:=by simpa using h2
     go_wp2
     go_ret
     exact⟨by simp[h2],rfl⟩
  ·have q6:(k==6)=false:=by simpa using fun h=>h6 (.inl h)
   have q8:(k==8)=false:=by simpa using fun h=>h6 (.inr (.inl h))
   have q9:(k==9)=false:=by simpa using fun h=>h6 (.inr (.inr h))
   go_wp2
   all_goals
    go_ret
    exact⟨by simp[h1,h4,h6],rfl⟩
end
section
attribute [local irreducible] wpL
structure WordsG (w:World):Prop where
 big:21 < w.heap.size
 answer0:w.cell? ⟨21,0,none⟩=some (.string ⟨#[111,107]⟩)
 answer1:w.cell? ⟨21,1,none⟩=some (.string ⟨#[110,111,110,101]⟩)
 answer2:w.cell? ⟨21,2,none⟩=some (.string ⟨#[118,97,108]⟩)
 object0:w.cell? ⟨18,0,none⟩=some (.string ⟨#[114,101,103,105,115,116,101,114]⟩)
 object1:w.cell? ⟨18,1,none⟩=some (.string ⟨#[99,111,117,110,116,101,114]⟩)
 object2:w.cell? ⟨18,2,none⟩=some (.string ⟨#[113,117,101,117,101]⟩)
 object3:w.cell? ⟨18,3,none⟩=some (.string ⟨#[109,97,112]⟩)
theorem WordsG.below {w w':World} (h:WordsG w) (hb:Below w.heap.size w w'):WordsG w':=
 have h1:=h.big
 ⟨by have:=hb.size;omega,cell_below hb (by omega) h.answer0,cell_below hb (by omega) h.answer1,cell_below hb (by omega) h.answer2,cell_below hb (by omega) h.object0,cell_below hb (by omega) h.object1,cell_below hb (by omega) h.object2,cell_below hb (by omega) h.object3⟩
theorem one_out {w:World} {i m:Int} (h:i < 0∨m≤i) {f b:Nat}:Calls Tryz.prog 207 #[.int .i64 i,.int .i64 m,.func (.func f) #[] #[.pointer (some ⟨b,0,none⟩)]] w fun e w'=>e=.returned (.tuple #[.string ⟨#[]⟩,.int .i64 m])∧w'=w:=by
 by_cases h0:i < 0
 ·have q1:decide (i < 0)=true:=by simpa using h0
  go_enter Tryz.func207,Tryz.ntmps207
  go_wp2
  go_ret2
  exact⟨rfl,rfl⟩
 ·have hm:m≤i:=by omega
  have q1:decide (i < 0)=false:=by simpa using h0
  have q2:decide (i≥m)=true:=by simpa using hm
  have q3:decide (m≤i)=true:=by simpa using hm
  go_enter Tryz.func207,Tryz.ntmps207
  go_wp2
  go_ret2
  exact⟨rfl,rfl⟩
def answerS (r:Int):ByteArray:=if r=1 then⟨#[111,107]⟩ else if r=2 then⟨#[110,111,110,101]⟩ else if r=3 then⟨#[118,97,108]⟩ else⟨#[]⟩
theorem answerS_empty (r:Int):(answerS r).toList.isEmpty=!(decide (1≤r∧r≤3)):=by
 unfold answerS
 by_cases h0:r=1
 ·subst h0;simp[ba_toList]
 rw[if_neg h0]
 by_cases h1:r=2
 ·subst h1;simp[ba_toList]
 rw[if_neg h1]
 by_cases h2:r=3
 ·subst h2;simp[ba_toList]
 rw[if_neg h2]
 rw[ba_toList]
 simp
 omega
theorem g_answer_out {w:World} {i:Int} (h:i < 0∨3≤i):Calls Tryz.prog 178 #[.int .i64 4,.int .i64 i] w fun e w'=>e=.returned (.tuple #[.string ⟨#[]⟩,.int .i64 3])∧Below w.heap.size w w':=by
 have b0:Below w.heap.size w (w.alloc (.cells #[.int .i64 i] 3)):=(Below.refl _ w).alloc (Nat.le_refl _) _
 have HC:=hid (fun b=>one_out (w:=w.alloc (.cells #[.int .i64 i] 3)) (m:=3) h (f:=211) (b:=b))
 have B0:=hid b0
 clear b0
 go_enter Tryz.func178,Tryz.ntmps178
 go_wp2_with fail
 refine(HC.out _).mono ?_
 rintro e w1 ⟨rfl,rfl⟩
 go_wp2
 go_ret2
 exact⟨rfl,B0.out⟩
theorem g_answer {w:World} (hW:WordsG w) (r:Int) (hr:dI r):Calls Tryz.prog 130 #[.int .i64 4,.int .i64 r] w fun e w'=>e=.returned (.string (answerS r))∧Below w.heap.size w w':=by
 have hr2:-9223372036854775808≤r∧r≤9223372036854775807:=by simpa[dI,Lit.wf,IntKind.min,IntKind.max,IntKind.signed,IntKind.bits] using hr
 by_cases hin:1≤r∧r≤3
 ·have hc:r=1∨r=2∨r=3:=by omega
  rcases hc with rfl|rfl|rfl
  ·exact e_answer (i:=0) (by omega) hW.answer0 (by have:=hW.big;omega)
  ·exact e_answer (i:=1) (by omega) hW.answer1 (by have:=hW.big;omega)
  ·exact e_answer (i:=2) (by omega) hW.answer2 (by have:=hW.big;omega)
 ·have hS:answerS r=⟨#[]⟩:=by
   unfold answerS
   rw[if_neg (by omega),if_neg (by omega),if_neg (by omega)]
  rw[hS]
  obtain⟨j,hj⟩:∃j,j=max r 0 - 1:=⟨_,rfl⟩
  have q2:wrap64 (max r 0 - 1)=j:=by rw[IntWalk.wrap64_in _ (by omega),hj]
  have hmx:∀(ts:Array TypeId) (ty:TypeId) (X:World),(Builtin.max_ ts ty #[.int .i64 r,.int .i64 (0:Int)]).run Tryz.prog X=.ok (.int .i64 (max r 0)) X:=fun ts ty X=>by
   rw[run_max_int2];congr 2;split <;> omega
  have HC:=hid (g_answer_out (w:=w) (i:=j) (by omega))
  clear hj hin
  generalize hmr:max r 0=mr at *
  clear hmr
  go_enter Tryz.func130,Tryz.ntmps130
  go_wp2_with fail
  refine(HC.out).mono ?_
  rintro e w1 ⟨rfl,hb⟩
  have HB:=hid hb
  clear hb
  go_wp2
  go_ret
  exact⟨rfl,HB.out⟩
def objectS (r:Int):ByteArray:=if r=1 then⟨#[114,101,103,105,115,116,101,114]⟩ else if r=2 then⟨#[99,111,117,110,116,101,114]⟩ else if r=3 then⟨#[113,117,101,117,101]⟩ else if r=4 then⟨#[109,97,112]⟩ else⟨#[]⟩
theorem objectS_empty (r:Int):(objectS r).toList.isEmpty=!(decide (1≤r∧r≤4)):=by
 unfold objectS
 by_cases h0:r=1
 ·subst h0;simp[ba_toList]
 rw[if_neg h0]
 by_cases h1:r=2
 ·subst h1;simp[ba_toList]
 rw[if_neg h1]
 by_cases h2:r=3
 ·subst h2;simp[ba_toList]
 rw[if_neg h2]
 by_cases h3:r=4
 ·subst h3;simp[ba_toList]
 rw[if_neg h3]
 rw[ba_toList]
 simp
 omega
theorem g_object_out {w:World} {i:Int} (h:i < 0∨4≤i):Calls Tryz.prog 178 #[.int .i64 1,.int .i64 i] w fun e w'=>e=.returned (.tuple #[.string ⟨#[]⟩,.int .i64 4])∧Below w.heap.size w w':=by
 have b0:Below w.heap.size w (w.alloc (.cells #[.int .i64 i] 3)):=(Below.refl _ w).alloc (Nat.le_refl _) _
 have HC:=hid (fun b=>one_out (w:=w.alloc (.cells #[.int .i64 i] 3)) (m:=4) h (f:=208) (b:=b))
 have B0:=hid b0
 clear b0
 go_enter Tryz.func178,Tryz.ntmps178
 go_wp2_with fail
 refine(HC.out _).mono ?_
 rintro e w1 ⟨rfl,rfl⟩
 go_wp2
 go_ret2
 exact⟨rfl,B0.out⟩
theorem g_object {w:World} (hW:WordsG w) (r:Int) (hr:dI r):Calls Tryz.prog 130 #[.int .i64 1,.int .i64 r] w fun e w'=>e=.returned (.string (objectS r))∧Below w.heap.size w w':=by
 have hr2:-9223372036854775808≤r∧r≤9223372036854775807:=by simpa[dI,Lit.wf,IntKind.min,IntKind.max,IntKind.signed,IntKind.bits] using hr
 by_cases hin:1≤r∧r≤4
 ·have hc:r=1∨r=2∨r=3∨r=4:=by omega
  rcases hc with rfl|rfl|rfl|rfl
  ·exact e_object (i:=0) (by omega) hW.object0 (by have:=hW.big;omega)
  ·exact e_object (i:=1) (by omega) hW.object1 (by have:=hW.big;omega)
  ·exact e_object (i:=2) (by omega) hW.object2 (by have:=hW.big;omega)
  ·exact e_object (i:=3) (by omega) hW.object3 (by have:=hW.big;omega)
 ·have hS:objectS r=⟨#[]⟩:=by
   unfold objectS
   rw[if_neg (by omega),if_neg (by omega),if_neg (by omega),if_neg (by omega)]
  rw[hS]
  obtain⟨j,hj⟩:∃j,j=max r 0 - 1:=⟨_,rfl⟩
  have q2:wrap64 (max r 0 - 1)=j:=by rw[IntWalk.wrap64_in _ (by omega),hj]
  have hmx:∀(ts:Array TypeId) (ty:TypeId) (X:World),(Builtin.max_ ts ty #[.int .i64 r,.int .i64 (0:Int)]).run Tryz.prog X=.ok (.int .i64 (max r 0)) X:=fun ts ty X=>by
   rw[run_max_int2];congr 2;split <;> omega
  have HC:=hid (g_object_out (w:=w) (i:=j) (by omega))
  clear hj hin
  generalize hmr:max r 0=mr at *
  clear hmr
  go_enter Tryz.func130,Tryz.ntmps130
  go_wp2_with fail
  refine(HC.out).mono ?_
  rintro e w1 ⟨rfl,hb⟩
  have HB:=hid hb
  clear hb
  go_wp2
  go_ret
  exact⟨rfl,HB.out⟩
end
