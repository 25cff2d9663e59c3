/- Parts of the proof; the first: slices.IndexFunc, slices.DeleteFunc of deeds. Conditions: those of each theorem, as typed. -/
import Derived.Test.YtcpfbphcldocpaaGreatDoorQW09
import Derived.Shelf.Abstract
set_option linter.unusedVariables false
set_option linter.unusedSimpArgs false
set_option linter.unusedSectionVars false
set_option maxRecDepth 100000
set_option maxHeartbeats 4000000
namespace Go.Proofs.YtcpfbphcldocpaaGreatDoor
open Go.Maps Go.RowKit
section
attribute [local irreducible] xE
def Zs {α:Type} (P:Program) (g:Nat) (lb:Array Value) (val:α->Value) (p:α->Bool) (L:α->Prop) (w:World) (q:Option Nat):Prop:=
 ∀(W:World) (x:α),L x->w.grownBy W q->Calls P g (#[val x]++lb) W fun e w'=>e=.returned (.bool (p x))/\Below W.heap.size W w'
theorem grownBy.refl (w:World) (q:Option Nat):w.grownBy w q:=⟨rfl,rfl,rfl,Nat.le_refl _,fun _ _ _=>rfl⟩
theorem grownBy.below {w w1 w2:World} {q:Option Nat} (h:w.grownBy w1 q) (k:Below w1.heap.size w1 w2):w.grownBy w2 q:=
 ⟨k.os.trans h.os,k.tape.trans h.tape,k.output.trans h.output,Nat.le_trans h.size k.size,fun b hb hq=>(k.block b (Nat.lt_of_lt_of_le hb h.size)).trans (h.block b hb hq)⟩
theorem grownBy.set {w w1:World} {g j:Nat} {v:Value} (h:w.grownBy w1 (some g)):w.grownBy (w1.setCell ⟨g,j,none⟩ v) (some g):=
 ⟨h.os,h.tape,h.output,by simpa using h.size,fun b hb hq=>(RowKit.Below.heap_setCell _ _ _ _ (fun e=>hq (congrArg some e))).trans (h.block b hb hq)⟩
def Wh {α:Type} (p:α->Bool) (l:List α):Int:=match l.findIdx? p with
 |some i=>i
 |none=>-1
section
variable {α:Type} {p:α->Bool} {l:List α}
theorem qcl {k:Nat} {d:α} (hk:l[k]?=some d) (hd:p d=true) (hn:∀x ∈ l.take k,p x=false):Wh p l=k:=by
 have:l.findIdx? p=some k:=by
  rw[List.findIdx?_eq_some_iff_getElem];obtain⟨hl,e⟩:=List.getElem?_eq_some_iff.1 hk;refine⟨hl,by rw[e];exact hd,fun j hj=>?_⟩;have:=hn l[j] (List.mem_iff_getElem?.2 ⟨j,by rw[List.getElem?_take,if_pos hj,List.getElem?_eq_getElem]⟩);simpa using this
 unfold Wh;rw[this]
theorem Nm (hn:∀x ∈ l,p x=false):Wh p l=-1:=by
 have:l.findIdx? p=none:=by rw[List.findIdx?_eq_none_iff];exact fun x hx=>by simpa using hn x hx
 unfold Wh;rw[this]
theorem Vi:(Wh p l=-1/\l.filter (fun x=>!p x)=l)\/∃(k:Nat) (d:α),Wh p l=k/\k < l.length/\l[k]?=some d/\p d=true/\(l.take (k+1)).filter (fun x=>!p x)=l.take k:=by
 cases h:l.findIdx? p with
 |none=>
  rw[List.findIdx?_eq_none_iff] at h;exact .inl ⟨Nm h,List.filter_eq_self.2 fun x hx=>by rw[h x hx];rfl⟩
 |some k=>
  obtain⟨hl,h1,h2⟩:=List.findIdx?_eq_some_iff_getElem.1 h;refine .inr ⟨k,l[k],by unfold Wh;rw[h],hl,List.getElem?_eq_getElem hl,h1,?_⟩;rw[List.take_add_one,List.getElem?_eq_getElem hl,Option.toList_some,List.filter_append,List.filter_cons_of_neg (by simp[h1]),List.filter_nil,List.append_nil,List.filter_eq_self];intro x hx;obtain⟨j,hj⟩:=List.mem_iff_getElem?.1 hx;rw[List.getElem?_take] at hj
  split at hj
  ·rename_i hjk
   have:=h2 j hjk;obtain⟨hj1,rfl⟩:=List.getElem?_eq_some_iff.1 hj;simpa using this
  ·cases hj
theorem KE {j:Nat} {d:α} (hj:l[j]?=some d) (hd:p d=true):(l.take (j+1)).filter (fun x=>!p x)=(l.take j).filter fun x=>!p x:=by
 rw[List.take_add_one,hj,Option.toList_some,List.filter_append,List.filter_cons_of_neg (by simp[hd]),List.filter_nil,List.append_nil]
theorem Mp {j:Nat} {d:α} (hj:l[j]?=some d) (hd:p d=false):(l.take (j+1)).filter (fun x=>!p x)=(l.take j).filter (fun x=>!p x)++[d]:=by
 rw[List.take_add_one,hj,Option.toList_some,List.filter_append,List.filter_cons_of_pos (by simp[hd]),List.filter_nil]
theorem WT {i:Nat} {d:α} {dk:List α} (hi:i < dk.length):(dk.set i d).take (i+1)=dk.take i++[d]:=by
 rw[List.take_add_one,List.getElem?_set_self hi,Option.toList_some,List.take_set_of_le (Nat.le_refl _)]
theorem WU {i j:Nat} {d:α} {dk:List α} (hi:i < j):(dk.set i d).drop j=dk.drop j:=by
 rw[List.drop_set,if_pos hi]
theorem KN {j:Nat} {dk:List α} (h:dk.drop j=l.drop j):dk[j]?=l[j]?:=by
 have:=congrArg (fun x=>x[0]?) h;simpa using this
end
theorem qj.capD {α:Type} {f:α->List Value} {e:TypeId} {sz n c B:Nat} {a:Option Addr} {w:World} {l:List α} (h:qj f e sz w B (.slice a n c) l):l.length<=c/\c<=9223372036854775807:=by
 obtain⟨-,h|⟨g,cap,cur,hv,-,-,hc,hm,-⟩⟩:=h
 ·obtain ⟨h1,h2⟩:=h
  simp only[Value.slice.injEq] at h1;omega
 ·simp only[Value.slice.injEq] at hv
  unfold maxLen at hm;omega
theorem qj.takeF {α:Type} {f:α->List Value} {e:TypeId} {sz B g n c:Nat} {w:World} {l:List α} (h:qj f e sz w B (.slice (some ⟨g,0,none⟩) n c) l) (hf:∀x,(f x).length=sz) {i:Nat} (hi:i<=n):qj f e sz w B (.slice (some ⟨g,0,none⟩) i c) (l.take i):=by
 have hn:=h.len;subst hn;obtain⟨h1,h2⟩:=h;have hfl:∀(l:List α),(l.flatMap f).length=l.length*sz:=fun l=>by
  induction l with
  |nil=>simp
  |cons x l ih=>simp[ih,hf,Nat.add_mul];omega
 refine⟨hfl _,?_⟩;have htk:∀(l:List α) (i:Nat),i<=l.length->(l.flatMap f).take (i*sz)=(l.take i).flatMap f:=fun l=>by
  induction l with
  |nil=>intro i hi;simp at hi;subst hi;simp
  |cons x l ih=>
   intro i hi;cases i with
   |zero=>simp
   |succ i=>
    simp only[List.flatMap_cons,List.take_succ_cons];rw[show (i+1)*sz=(f x).length+i*sz by rw[hf,Nat.add_mul];omega,List.take_length_add_append,ih i (by simpa using hi)]
 rcases h2 with⟨h2,-⟩|⟨g',cap',cur,hv,hg,hh,hnc,hcm,hs,ht⟩
 ·cases h2
 ·simp only[Value.slice.injEq,Option.some.injEq,Addr.mk.injEq,and_true,true_and] at hv
  obtain⟨rfl,rfl⟩:=hv;have hil:(l.take i).length=i:=by rw[List.length_take];omega
  refine .inr ⟨g,c,cur,by rw[hil],hg,hh,by omega,hcm,hs,?_⟩;rw[hil];have:=congrArg (List.take (i*sz)) ht;rw[List.take_take,Nat.min_eq_left (Nat.mul_le_mul_right _ hi),htk l i hi] at this;exact this
theorem qj.behind {α:Type} {f:α->List Value} {e:TypeId} {sz B g n c:Nat} {l:List α} (hf:∀x,(f x).length=sz):∀(vs:List Value) (o:Nat) {w:World},qj f e sz w B (.slice (some ⟨g,0,none⟩) n c) l->n*sz<=o->qj f e sz (w.setCells g o vs) B (.slice (some ⟨g,0,none⟩) n c) l
 |[],_,_,h,_=>h
 |v::vs,o,w,h,ho=>by
  have hn:=h.len;refine qj.behind hf vs (o+1) ?_ (by omega);subst hn;have h1:=yC h o v;rw[List.set_eq_of_length_le (by
   have:∀(l:List α),(l.flatMap f).length=l.length*sz:=fun l=>by
    induction l with
    |nil=>simp
    |cons x l ih=>simp[ih,hf,Nat.add_mul];omega
   rw[this];exact ho)] at h1
  exact h1
theorem grownBy.sets {w:World} {g:Nat}:∀(vs:List Value) (o:Nat) {w1:World},w.grownBy w1 (some g)->w.grownBy (w1.setCells g o vs) (some g)
 |[],_,_,h=>h
 |v::vs,o,w1,h=>grownBy.sets vs (o+1) (grownBy.set h)
theorem qj.objD {α:Type} {f:α->List Value} {e:TypeId} {sz:Nat} {w:World} {B g n c:Nat} {l:List α} (h:qj f e sz w B (.slice (some ⟨g,0,none⟩) n c) l):∃cs,w.heap[g]?=some (.cells cs e (0,0)):=by
 obtain⟨-,h2⟩:=h;rcases h2 with⟨h2,-⟩|⟨g',cap,cur,hv,-,hh,-⟩
 ·cases h2
 ·simp only[Value.slice.injEq,Option.some.injEq,Addr.mk.injEq,and_true] at hv
  obtain⟨rfl,-⟩:=hv;exact⟨cur,hh⟩
theorem qj.cellsAt {α:Type} {f:α->List Value} {e:TypeId} {sz B g n c:Nat} {w:World} {l:List α} (h:qj f e sz w B (.slice (some ⟨g,0,none⟩) n c) l) (hl:l.length=n) (hf:∀x,(f x).length=sz):∀j,j < n*sz->(w.cell? ⟨g,j,none⟩).isSome=true:=fun j hj=>by
 have hfl:∀(l:List α),(l.flatMap f).length=l.length*sz:=fun l=>by
  induction l with
  |nil=>simp
  |cons x l ih=>simp[ih,hf,Nat.add_mul];omega
 subst hl;have hj':j < (l.flatMap f).length:=by rw[hfl];exact hj
 have:=World.ownsRow.cells h (g:=g) rfl j (l.flatMap f)[j] (List.getElem?_eq_getElem hj');have hadd:((⟨g,0,none⟩:Addr).add j)=⟨g,j,none⟩:=by unfold Addr.add;split <;> simp_all
 rw[hadd] at this;rw[this];rfl
theorem XT {P:Program} (w:World) (t e:TypeId) (z:Value) (sz:Nat) (ht:P.underlying t=some (.slice e)) (hv:∀w,(zeroValue e).run P w=.ok z w) (hz:z.cells.size=sz) (h1:∀u ∈ z.cells.toList,u.oneCell'=true) (b o n c:Nat) (hn:0 < n)
  (hc:∀j,j < n*sz->(w.cell? ⟨b,o+j,none⟩).isSome=true) (hf:∀j,j < n*sz->w.frozen? ⟨b,o+j,none⟩=false):
  ∃vs,∀ty,(Builtin.clear_ #[t] ty #[.slice (some ⟨b,o,none⟩) n c]).run P w=.ok (.tuple #[]) (w.setCells b o vs):=by
 have hsz:=size_zeroCells z.cells n;have hst:=run_storeCells_cells (P:=P) b o (Builtin.zeroCells z.cells n).toList 0 w (by simpa[hsz,hz] using hc) (by simpa[hsz,hz] using hf) (by
  intro v hv';have hm:v ∈ Builtin.zeroCells z.cells n:=by simpa using hv'
  refine h1 v ?_;unfold Builtin.zeroCells at hm;obtain⟨i,hi,rfl⟩:=Array.mem_map.1 hm;have hi:i < n*z.cells.size:=by simpa using hi
  have hpos:0 < z.cells.size:=Nat.pos_of_ne_zero fun e=>by rw[e] at hi;omega
  rw[getElem!_pos z.cells _ (Nat.mod_lt _ hpos)];simp)
 simp only[Nat.add_zero] at hst;obtain⟨m,rfl⟩:∃m,n=m+1:=⟨n - 1,by omega⟩
 exact⟨(Builtin.zeroCells z.cells (m+1)).toList,fun ty=>by simp[Builtin.clear_,run_underlying ht,hv,hst]⟩
theorem qcV {v:Value} {l:List Dd} {B:Nat} (w:World) (h:qj Dd.cells 112 8 w B v l) (hl:l.length<=400) {g:Nat} {lb:Array Value} {p:Dd->Bool} (eg:∀args w,(callFunc g args).run Tryz.prog w=.ok (.enter g args) w)
  (hp:Zs Tryz.prog g lb (fun d:Dd=>.agg d.cells.toArray) p (· ∈ l) w v.ownBlock):
  Calls Tryz.prog 156 #[v,.func (.func g) #[] lb] w fun e w'=>e=.returned (.int .i64 (Wh p l))/\Below w.heap.size w w':=by
 obtain⟨av,cv,rfl⟩:=qj.sli h;have HH:=qh h;have HP:=qh hp;clear h hp;go_enter Tryz.func156,Tryz.ntmps156;go_wp2_with fail;obtain⟨W,rfl⟩:∃W,W=w:=⟨_,rfl⟩
 go_loopw [8] (fun q wr=>∃(k:Nat),k<=l.length/\q=.int .i64 k/\(∀x ∈ l.take k,p x=false)/\Below W.heap.size W wr) (fun q _=>l.length - (intOf q).toNat)
 case atStart=>exact⟨0,by omega,by go_num,by simp,Below.refl _ _⟩
 case round=>
  obtain⟨k,hk,rfl,hn,hb⟩:=hrel;have HN:=qh hn;have HB:=qh hb;have hsz:=hb.size;clear hn hb;by_cases hlt:k < l.length
  ·obtain ⟨b,off,d,rfl,hb,hdk,hc⟩:=(qj.sl HH.o).atF Dd.len rfl hlt
   have HDK:=qh hdk;have hcl:=qh (HP.o wr d (List.mem_of_getElem? hdk) (grownBy.below (grownBy.refl _ _) HB.o));obtain⟨ob,op,ke,va,re,go,at_,ba⟩:=d;have c0:wr.cell? ⟨b,off+k*8,none⟩=some (.int .i64 ob):=qx HB.o hb (hc 0 (by decide));have c1:wr.cell? ⟨b,off+k*8+1,none⟩=some (.int .i64 op):=qx HB.o hb (hc 1 (by decide));have c2:wr.cell? ⟨b,off+k*8+2,none⟩=some (.int .i64 ke):=qx HB.o hb (hc 2 (by decide));have c3:wr.cell? ⟨b,off+k*8+3,none⟩=some (.int .i64 va):=qx HB.o hb (hc 3 (by decide));have c4:wr.cell? ⟨b,off+k*8+4,none⟩=some (.int .i64 re):=qx HB.o hb (hc 4 (by decide));have c5:wr.cell? ⟨b,off+k*8+5,none⟩=some (.int .i64 go):=qx HB.o hb (hc 5 (by decide));have c6:wr.cell? ⟨b,off+k*8+6,none⟩=some (.int .i64 at_):=qx HB.o hb (hc 6 (by decide));have c7:wr.cell? ⟨b,off+k*8+7,none⟩=some (.int .i64 ba):=qx HB.o hb (hc 7 (by decide));have hbw:b < wr.heap.size:=by omega
   clear hc hdk;obtain⟨r,hr⟩:∃r,p ⟨ob,op,ke,va,re,go,at_,ba⟩=r:=⟨_,rfl⟩
   rw[hr] at hcl;have HR:=qh hr;clear hr;go_wp2_with fail;refine(hcl.o).mono ?_;rintro e w1 ⟨rfl,b1⟩;have HB1:=qh (HB.o.trans (b1.mono hsz));clear b1 hcl;cases r with
   |true=>
    go_wp2_with fail;refine bodyPost_ret (v:=.int .i64 k) (by simp[results,Tryz.results156,go_sem]) rfl ?_;exact⟨by rw[qcl HDK.o HR.o HN.o],HB1.o⟩
   |false=>
    go_wp2_with fail;go_roundw
    case rel=>
     refine⟨k+1,by omega,by go_num,fun x hx=>?_,HB1.o⟩;rw[List.take_add_one,HDK.o,Option.toList_some] at hx;rcases List.mem_append.1 hx with hx|hx
     ·exact HN.o x hx
     ·rw [List.mem_singleton.1 hx];exact HR.o
    case measure=>simp[intOf];omega
  ·obtain rfl:k=l.length:=by omega
   have hq:decide ((l.length:Int) < (l.length:Int))=false:=by simp
   go_wp2_with fail;refine bodyPost_ret (v:=.int .i64 (-1)) (by simp[results,Tryz.results156,go_sem]) rfl ?_;refine⟨by rw[Nm fun x hx=>HN.o x (by rw[List.take_length];exact hx)],HB.o⟩
theorem Mz (w:World):(sizeOf (Tryz.prog.elem 47)).run Tryz.prog w=.ok 8 w:=by kernel_rfl
theorem qeH:∃z:Value,(∀w,(zeroValue 112).run Tryz.prog w=.ok z w)/\z.cells.size=8/\∀u ∈ z.cells.toList,u.oneCell'=true:=⟨(.agg #[.int .i64 0,.int .i64 0,.int .i64 0,.int .i64 0,.int .i64 0,.int .i64 0,.int .i64 0,.int .i64 0]),fun w=>by kernel_rfl,rfl,by intro u hu;simp[Value.cells] at hu;rcases hu with rfl|rfl|rfl|rfl|rfl|rfl|rfl|rfl <;> rfl⟩
theorem qgm {w:World} {B g n c i:Nat} {l:List Dd} (h:qj Dd.cells 112 8 w B (.slice (some ⟨g,0,none⟩) n c) l) (hi:i < n) (ob:Int) (op:Int) (ke:Int) (va:Int) (re:Int) (go:Int) (at_:Int) (ba:Int):
  qj Dd.cells 112 8 ((((((((w.setCell ⟨g,i*8,none⟩ (.int .i64 ob)).setCell ⟨g,i*8+1,none⟩ (.int .i64 op)).setCell ⟨g,i*8+2,none⟩ (.int .i64 ke)).setCell ⟨g,i*8+3,none⟩ (.int .i64 va)).setCell ⟨g,i*8+4,none⟩ (.int .i64 re)).setCell ⟨g,i*8+5,none⟩ (.int .i64 go)).setCell ⟨g,i*8+6,none⟩ (.int .i64 at_)).setCell ⟨g,i*8+7,none⟩ (.int .i64 ba)) B (.slice (some ⟨g,0,none⟩) n c) (l.set i ⟨ob,op,ke,va,re,go,at_,ba⟩):=by
 have hn:=qj.len h;obtain⟨d,hd⟩:∃d,l[i]?=some d:=⟨_,List.getElem?_eq_getElem (by omega)⟩
 obtain⟨b0,b1,b2,b3,b4,b5,b6,b7⟩:=d;have il:∀u:Dd,(l.set i u)[i]?=some u:=fun u=>List.getElem?_set_self (by omega);have h1:=jg h Dd.len (u:=(⟨ob,b1,b2,b3,b4,b5,b6,b7⟩:Dd)) (x:=(⟨b0,b1,b2,b3,b4,b5,b6,b7⟩:Dd)) (a:=.int .i64 ob) (j:=0) (by decide) hd rfl;have h2:=jg h1 Dd.len (u:=(⟨ob,op,b2,b3,b4,b5,b6,b7⟩:Dd)) (x:=(⟨ob,b1,b2,b3,b4,b5,b6,b7⟩:Dd)) (a:=.int .i64 op) (j:=1) (by decide) (il _) rfl;rw[List.set_set] at h2;have h3:=jg h2 Dd.len (u:=(⟨ob,op,ke,b3,b4,b5,b6,b7⟩:Dd)) (x:=(⟨ob,op,b2,b3,b4,b5,b6,b7⟩:Dd)) (a:=.int .i64 ke) (j:=2) (by decide) (il _) rfl;rw[List.set_set] at h3;have h4:=jg h3 Dd.len (u:=(⟨ob,op,ke,va,b4,b5,b6,b7⟩:Dd)) (x:=(⟨ob,op,ke,b3,b4,b5,b6,b7⟩:Dd)) (a:=.int .i64 va) (j:=3) (by decide) (il _) rfl;rw[List.set_set] at h4;have h5:=jg h4 Dd.len (u:=(⟨ob,op,ke,va,re,b5,b6,b7⟩:Dd)) (x:=(⟨ob,op,ke,va,b4,b5,b6,b7⟩:Dd)) (a:=.int .i64 re) (j:=4) (by decide) (il _) rfl;rw[List.set_set] at h5;have h6:=jg h5 Dd.len (u:=(⟨ob,op,ke,va,re,go,b6,b7⟩:Dd)) (x:=(⟨ob,op,ke,va,re,b5,b6,b7⟩:Dd)) (a:=.int .i64 go) (j:=5) (by decide) (il _) rfl;rw[List.set_set] at h6;have h7:=jg h6 Dd.len (u:=(⟨ob,op,ke,va,re,go,at_,b7⟩:Dd)) (x:=(⟨ob,op,ke,va,re,go,b6,b7⟩:Dd)) (a:=.int .i64 at_) (j:=6) (by decide) (il _) rfl;rw[List.set_set] at h7;have h8:=jg h7 Dd.len (u:=(⟨ob,op,ke,va,re,go,at_,ba⟩:Dd)) (x:=(⟨ob,op,ke,va,re,go,at_,b7⟩:Dd)) (a:=.int .i64 ba) (j:=7) (by decide) (il _) rfl;rw[List.set_set] at h8;exact h8
theorem qaL {v:Value} {l:List Dd} {B:Nat} (w:World) (h:qj Dd.cells 112 8 w B v l) (hl:l.length<=400) {g0:Nat} {lb:Array Value} {p:Dd->Bool} (eg:∀args w,(callFunc g0 args).run Tryz.prog w=.ok (.enter g0 args) w)
  (hp:Zs Tryz.prog g0 lb (fun d:Dd=>.agg d.cells.toArray) p (· ∈ l) w v.ownBlock):
  Calls Tryz.prog 107 #[v,.func (.func g0) #[] lb] w fun e w'=>∃v',e=.returned v'/\qj Dd.cells 112 8 w' B v' (l.filter fun x=>!p x)/\Yt w w' v v':=by
 obtain⟨av,cv,rfl⟩:=qj.sli h;have hix:=qcV w h hl eg hp;rcases Vi (p:=p) (l:=l) with⟨e1,e2⟩|⟨k,d,e1,hkl,hkd,hpd,e2⟩
 ·rw [e1] at hix
  have HX:=qh hix;have HH:=qh h;have HE:=qh e2;clear hix h hp e1 e2;go_enter Tryz.func107,Tryz.ntmps107;go_wp2_with fail;refine(HX.o).mono ?_;rintro e w1 ⟨rfl,b1⟩;have O1:=qh (qj.below HH.o b1);have G1:=qh (show Yt w w1 (.slice av l.length cv) (.slice av l.length cv) from⟨grownBy.below (grownBy.refl w _) b1,fun _ h=>.inl h⟩);clear b1 HX;go_wp2_with fail;go_ret;exact⟨_,rfl,by rw[HE.o];exact O1.o,G1.o⟩
 ·obtain ⟨g,hgv⟩:∃g,av=some ⟨g,0,none⟩:=by
   rcases qj.form h with⟨-,h2⟩|⟨g,cap,h1,-⟩
   ·rw [h2] at hkl;simp at hkl
   ·exact ⟨g,by simp only[Value.slice.injEq] at h1;exact h1.1⟩
  subst hgv;rw[e1] at hix;have hgB:=qj.lt h g rfl;have hcap:=qj.capD h;have HX:=qh hix;have HH:=qh h;have HE:=qh e2;have HP:=qh hp;clear hix h hp e1 e2;have qk:((k:Int)==-1)=false:=beq_eq_false_iff_ne.2 (by omega);go_enter Tryz.func107,Tryz.ntmps107;go_wp2_with fail;refine(HX.o).mono ?_;rintro e w1 ⟨rfl,b1⟩;have O1:=qh (qj.below HH.o b1);have G1:=qh (grownBy.below (grownBy.refl w (some g)) b1);clear b1 HX;go_wp2_with fail
  go_loopw [5,6] (fun q r wr=>∃(i j:Nat) (dk:List Dd),i < j/\j<=l.length/\q=.int .i64 i/\r=.int .i64 j/\dk.length=l.length/\dk.take i=(l.take j).filter (fun x=>!p x)/\dk.drop j=l.drop j/\qj Dd.cells 112 8 wr B (.slice (some ⟨g,0,none⟩) l.length cv) dk/\w.grownBy wr (some g)) (fun _ r _=>l.length - (intOf r).toNat)
  case atStart=>exact⟨k,k+1,l,by omega,by omega,rfl,by first|rfl|go_num,rfl,HE.o.symm,rfl,O1.o,G1.o⟩
  case round=>
   obtain⟨i,j,dk,hij,hj,rfl,rfl,hdl,htk,hdr,ho,hg⟩:=hrel;have hsz:=hg.size;have HTK:=qh htk;have HDR:=qh hdr;have HO:=qh ho;have HG:=qh hg;have HDL:=qh hdl;clear htk hdr ho hg hdl O1 G1;by_cases hlt:j < l.length
   ·have hdl2:qj Dd.cells 112 8 wr B (.slice (some ⟨g,0,none⟩) dk.length cv) dk:=by rw[HDL.o];exact HO.o
    obtain⟨b,off,d,hqe,hb,hdk,hc⟩:=(qj.sl hdl2).atF Dd.len rfl (show j < dk.length by rw[HDL.o];exact hlt);simp only[Option.some.injEq,Addr.mk.injEq,and_true] at hqe;obtain⟨rfl,rfl⟩:=hqe;have hlj:l[j]?=some d:=by rw[←KN HDR.o];exact hdk
    have HLJ:=qh hlj;have HMm:=qh (List.mem_of_getElem? hlj);obtain⟨ob,op,ke,va,re,go,at_,ba⟩:=d;have c0:wr.cell? ⟨g,j*8,none⟩=some (.int .i64 ob):=by have:=hc 0 (by decide);simpa[Dd.cells] using this
    have c1:wr.cell? ⟨g,j*8+1,none⟩=some (.int .i64 op):=by have:=hc 1 (by decide);simpa[Dd.cells] using this
    have c2:wr.cell? ⟨g,j*8+2,none⟩=some (.int .i64 ke):=by have:=hc 2 (by decide);simpa[Dd.cells] using this
    have c3:wr.cell? ⟨g,j*8+3,none⟩=some (.int .i64 va):=by have:=hc 3 (by decide);simpa[Dd.cells] using this
    have c4:wr.cell? ⟨g,j*8+4,none⟩=some (.int .i64 re):=by have:=hc 4 (by decide);simpa[Dd.cells] using this
    have c5:wr.cell? ⟨g,j*8+5,none⟩=some (.int .i64 go):=by have:=hc 5 (by decide);simpa[Dd.cells] using this
    have c6:wr.cell? ⟨g,j*8+6,none⟩=some (.int .i64 at_):=by have:=hc 6 (by decide);simpa[Dd.cells] using this
    have c7:wr.cell? ⟨g,j*8+7,none⟩=some (.int .i64 ba):=by have:=hc 7 (by decide);simpa[Dd.cells] using this
    obtain⟨r,hr⟩:∃r,p ⟨ob,op,ke,va,re,go,at_,ba⟩=r:=⟨_,rfl⟩
    have HR:=qh hr;have b3:Below wr.heap.size wr (wr.alloc (.cells #[.int .i64 ob,.int .i64 op,.int .i64 ke,.int .i64 va,.int .i64 re,.int .i64 go,.int .i64 at_,.int .i64 ba] 112)):=(Below.refl _ wr).alloc (Nat.le_refl _) _;have r3:=qy wr (.cells #[.int .i64 ob,.int .i64 op,.int .i64 ke,.int .i64 va,.int .i64 re,.int .i64 go,.int .i64 at_,.int .i64 ba] 112);have hcl:=HP.o (wr.alloc (.cells #[.int .i64 ob,.int .i64 op,.int .i64 ke,.int .i64 va,.int .i64 re,.int .i64 go,.int .i64 at_,.int .i64 ba] 112)) ⟨ob,op,ke,va,re,go,at_,ba⟩ HMm.o (grownBy.below HG.o b3);rw[hr] at hcl;have HCL:=qh hcl;have O3:=qh (qj.below HO.o b3);have G3:=qh (grownBy.below HG.o b3);have hsz3:=b3.size;have R3:=qh r3;have r3c:=qa r3;have y0:=r3c 0;have y1:=r3c 1;have y2:=r3c 2;have y3:=r3c 3;have y4:=r3c 4;have y5:=r3c 5;have y6:=r3c 6;have y7:=r3c 7;simp at y0 y1 y2 y3 y4 y5 y6 y7;have yl:=qd r3;clear r3c r3;clear hcl hr hlj hdk hc hdl2 b3;go_wp2_with fail;refine(HCL.o).mono ?_;rintro e W4 ⟨rfl,b4⟩;have O4:=qh (qj.below O3.o b4);have G4:=qh (grownBy.below G3.o b4);have hsz4:=b4.size;have r4:=qp R3.o b4 yl;clear y0 y1 y2 y3 y4 y5 y6 y7 yl;have r3c:=qa r4;have y0:=r3c 0;have y1:=r3c 1;have y2:=r3c 2;have y3:=r3c 3;have y4:=r3c 4;have y5:=r3c 5;have y6:=r3c 6;have y7:=r3c 7;simp at y0 y1 y2 y3 y4 y5 y6 y7;have yl:=qd r4;clear r3c r4;clear b4 HCL;cases r with
    |true=>
     go_wp2_with fail;go_roundw
     case rel=>
      refine⟨i,j+1,dk,by omega,by omega,rfl,by go_num,HDL.o,by rw[KE HLJ.o HR.o];exact HTK.o,?_,O4.o,G4.o⟩;have:=congrArg (List.drop 1) HDR.o;simpa[List.drop_drop] using this
     case measure=>simp[intOf];omega
    |false=>
     have hdl4:qj Dd.cells 112 8 W4 B (.slice (some ⟨g,0,none⟩) dk.length cv) dk:=by rw[HDL.o];exact O4.o
     obtain⟨b',off',d',hqe,hb',hdk',hx⟩:=(qj.sl hdl4).atF Dd.len rfl (show i < dk.length by rw[HDL.o];omega);simp only[Option.some.injEq,Addr.mk.injEq,and_true] at hqe;obtain⟨rfl,rfl⟩:=hqe;have x0:=hx 0 (by decide);have x1:=hx 1 (by decide);have x2:=hx 2 (by decide);have x3:=hx 3 (by decide);have x4:=hx 4 (by decide);have x5:=hx 5 (by decide);have x6:=hx 6 (by decide);have x7:=hx 7 (by decide);simp[Dd.cells] at x0 x1 x2 x3 x4 x5 x6 x7;obtain⟨csG,hcsG⟩:=qj.objD O4.o;have hgl:=qd hcsG;have zf:=fun o=>qB hcsG o;have OS:=qh (qgm O4.o (show i < l.length by omega) ob op ke va re go at_ ba);clear hx hdk' hdl4 hcsG;go_wp2_with fail;go_roundw
     case rel=>
      refine⟨i+1,j+1,dk.set i ⟨ob,op,ke,va,re,go,at_,ba⟩,by omega,by omega,by go_num,by go_num,by rw[List.length_set];exact HDL.o,?_,?_,OS.o,grownBy.set (grownBy.set (grownBy.set (grownBy.set (grownBy.set (grownBy.set (grownBy.set (grownBy.set (G4.o))))))))⟩
      ·rw [WT (by rw[HDL.o];omega),Mp HLJ.o HR.o,HTK.o]
      ·rw [WU (by omega)]
       have:=congrArg (List.drop 1) HDR.o;simpa[List.drop_drop] using this
     case measure=>simp[intOf];omega
   ·obtain rfl:j=l.length:=by omega
    have hq:decide ((l.length:Int) < (l.length:Int))=false:=by simp
    have HT:=qh (show dk.take i=l.filter fun x=>!p x by rw[HTK.o,List.take_length]);have OT:=qh (qj.takeF HO.o Dd.len (show i<=l.length by omega));obtain⟨csG,hcsG⟩:=qj.objD HO.o;have hgl:=qd hcsG;obtain⟨z,hz1,hz2,hz3⟩:=qeH;have HF:=qh (fun o=>qB hcsG o);have HC:=qh (qj.cellsAt HO.o HDL.o Dd.len);obtain⟨vs,hclr⟩:=XT wr 47 112 z 8 Tryz.underlying47 hz1 hz2 hz3 g (i*8) (l.length - i) (cv - i) (by omega) (fun t ht=>HC.o (i*8+t) (by have:(l.length - i)*8=l.length*8 - i*8:=Nat.sub_mul .. ;omega)) (fun t ht=>HF.o _);have hslA:∀X:World,(Instr.slice 47 (.slice (some ⟨g,0,none⟩) l.length cv) (some (.int .i64 (i:Int))) none none).run Tryz.prog X=.ok (.slice (some ⟨g,i*8,none⟩) (l.length - i) (cv - i)) X:=fun X=>by
     rw[run_slice_l X _ _ _ _ Tryz.underlying47 _ _ (by omega) (by omega),Mz];simp only[Result.andThen,sliced,Int.toNat_natCast];congr 2;rw[if_neg (by omega)]
     first|(simp[Addr.add];done)|(simp[Addr.add];intro h;omega)
    have hslB:∀X:World,(Instr.slice 47 (.slice (some ⟨g,0,none⟩) l.length cv) none (some (.int .i64 (i:Int))) none).run Tryz.prog X=.ok (.slice (some ⟨g,0,none⟩) i cv) X:=fun X=>by
     rw[run_slice_h X _ _ _ _ Tryz.underlying47 _ _ (by omega) (by omega),Mz];simp only[Result.andThen,sliced,Int.toNat_natCast,Nat.sub_zero];congr 2
     split
     ·rfl
     ·simp [Addr.add]
    have OB:=qh (qj.behind Dd.len vs (i*8) OT.o (Nat.le_refl _));have GB:=qh (grownBy.sets vs (i*8) HG.o);clear hcsG hz1 hz3;go_wp2_with fail;go_ret;refine⟨_,rfl,by rw[←HT.o];have:=OB.o;exact this,⟨GB.o,fun k hk=>.inl hk⟩⟩
end
section
attribute [local irreducible] xE
theorem qfG (ob:Int) {w:World} {q:Option Nat} {nb:Nat} {cs:Array Value} (hr:w.heap[nb]?=some (.cells cs 112 (0,0))) (hc:w.cell? ⟨nb,0,none⟩=some (.int .i64 ob)) (hq:q≠some nb) {L:Dd->Prop}:
  Zs Tryz.prog 108 #[.pointer (some ⟨nb,0,none⟩)] (fun d:Dd=>.agg d.cells.toArray) (fun d=>d.obj==ob) L w q:=by
 intro W x _ hg;have hl:=qd hr;have e:=hg.block nb hl fun h=>hq h.symm;have hc':W.cell? ⟨nb,0,none⟩=some (.int .i64 ob):=by
  rw[←hc];simp only[World.cell?,e]
 have hlW:nb < W.heap.size:=Nat.lt_of_lt_of_le hl hg.size;obtain⟨o,op,ke,va,re,go,at_,ba⟩:=x;have b0:Below W.heap.size W (W.alloc (.cells #[.int .i64 o,.int .i64 op,.int .i64 ke,.int .i64 va,.int .i64 re,.int .i64 go,.int .i64 at_,.int .i64 ba] 112)):=(Below.refl _ W).alloc (Nat.le_refl _) _;have B0:=qh b0;obtain⟨r,hrr⟩:∃r:Bool,(o==ob)=r:=⟨_,rfl⟩
 have ea:∀a b:Value,(#[a]++#[b]:Array Value)=#[a,b]:=fun a b=>by simp
 rw[ea];simp only[Dd.cells];clear ea;show Calls _ _ _ W fun e w'=>e=.returned (.bool (o==ob))/\Below W.heap.size W w';rw[hrr];clear e hg hc hr b0 hl
 trace_state
 go_enter Tryz.func108,Tryz.ntmps108;go_wp2;go_ret;exact⟨rfl,B0.o⟩
theorem YZ (l:List Dd):(xO l).length<=l.length:=by
 induction l using XQ with
 |h0=>exact Nat.le_refl _
 |h1 l d ih=>
  rw[uh,List.length_append,List.length_singleton]
  split
  ·rw [List.length_append,List.length_singleton]
   have:=List.length_filter_le (fun o:Dd=>o.obj !=d.obj) (xO l);omega
  ·omega
theorem qbE (i th st be fi tr:Int) (dv:Value) (l:List Dd) (w:World) (hd:Sl w w.heap.size 8 dv l.length (l.flatMap Dd.cells)) (hl:l.length<=400):
  Calls Tryz.prog 65 #[.agg #[.int .i64 i,.int .i64 th,.int .i64 st,.int .i64 be,.int .i64 fi,.int .i64 tr,dv]] w fun e w'=>∃v,e=.returned v/\XG w' w.heap.size v (xO l)/\Below w.heap.size w w':=by
 obtain⟨ad,cd,rfl,md⟩:=hd.ex;have HD:=qh hd;clear hd md;go_enter Tryz.func65,Tryz.ntmps65;go_wp2_with fail;have B0:=qh (show Below w.heap.size w (w.alloc (.cells #[.int .i64 i,.int .i64 th,.int .i64 st,.int .i64 be,.int .i64 fi,.int .i64 tr,.slice ad l.length cd] 49)) from(Below.refl _ w).alloc (Nat.le_refl _) _);generalize w.alloc (.cells #[.int .i64 i,.int .i64 th,.int .i64 st,.int .i64 be,.int .i64 fi,.int .i64 tr,.slice ad l.length cd] 49)=W at *
 go_loopw [3,9] (fun q p wr=>∃(k:Nat),k<=l.length/\p=.int .i64 k/\XG wr w.heap.size q (xO (l.take k))/\Below w.heap.size w wr) (fun _ p _=>l.length - (intOf p).toNat)
 case atStart=>exact⟨0,by omega,by go_num,qj.nil _ _,B0.o⟩
 case round=>
  obtain⟨k,hk,rfl,qo,qb⟩:=hrel;clear B0 W;have hsz:=qb.size;obtain⟨X,hX⟩:∃X,xO (l.take k)=X:=⟨_,rfl⟩
  rw[hX] at qo;obtain⟨aq,cq,rfl⟩:=qj.sli qo;have HXX:=qh hX;have QO:=qh qo;have QB:=qh qb;clear qo qb hX;by_cases hlt:k < l.length
  ·obtain ⟨b,off,d,rfl,hb,hdk,hc⟩:=HD.o.atF Dd.len rfl hlt
   have HR:=qh (show xO (l.take (k+1))=if d.op=2/\d.ret=1 then X.filter (fun o=>o.obj !=d.obj)++[d] else X by
    rw[List.take_add_one,hdk,Option.toList_some,uh,HXX.o])
   have hXl:X.length<=400:=by
    rw[←HXX.o];exact Nat.le_trans (YZ _) (by rw[List.length_take];omega)
   obtain⟨ob,op,ke,va,re,go,at_,ba⟩:=d;have c0:wr.cell? ⟨b,off+k*8,none⟩=some (.int .i64 ob):=qx QB.o hb (hc 0 (by decide));have c1:wr.cell? ⟨b,off+k*8+1,none⟩=some (.int .i64 op):=qx QB.o hb (hc 1 (by decide));have c2:wr.cell? ⟨b,off+k*8+2,none⟩=some (.int .i64 ke):=qx QB.o hb (hc 2 (by decide));have c3:wr.cell? ⟨b,off+k*8+3,none⟩=some (.int .i64 va):=qx QB.o hb (hc 3 (by decide));have c4:wr.cell? ⟨b,off+k*8+4,none⟩=some (.int .i64 re):=qx QB.o hb (hc 4 (by decide));have c5:wr.cell? ⟨b,off+k*8+5,none⟩=some (.int .i64 go):=qx QB.o hb (hc 5 (by decide));have c6:wr.cell? ⟨b,off+k*8+6,none⟩=some (.int .i64 at_):=qx QB.o hb (hc 6 (by decide));have c7:wr.cell? ⟨b,off+k*8+7,none⟩=some (.int .i64 ba):=qx QB.o hb (hc 7 (by decide));have hbw:b < wr.heap.size:=by omega
   have b3:Below wr.heap.size wr (wr.alloc (.cells #[.int .i64 ob,.int .i64 op,.int .i64 ke,.int .i64 va,.int .i64 re,.int .i64 go,.int .i64 at_,.int .i64 ba] 112)):=(Below.refl _ wr).alloc (Nat.le_refl _) _;have r3:=qy wr (.cells #[.int .i64 ob,.int .i64 op,.int .i64 ke,.int .i64 va,.int .i64 re,.int .i64 go,.int .i64 at_,.int .i64 ba] 112);have QO3:=qh (qj.below QO.o b3);have B3:=qh (QB.o.trans (b3.mono hsz));have hz3:(wr.alloc (.cells #[.int .i64 ob,.int .i64 op,.int .i64 ke,.int .i64 va,.int .i64 re,.int .i64 go,.int .i64 at_,.int .i64 ba] 112)).heap.size=wr.heap.size+1:=by simp
   have HZ3:=qh (show w.heap.size<=(wr.alloc (.cells #[.int .i64 ob,.int .i64 op,.int .i64 ke,.int .i64 va,.int .i64 re,.int .i64 go,.int .i64 at_,.int .i64 ba] 112)).heap.size by omega);have hne3:(Value.slice aq X.length cq).ownBlock≠some wr.heap.size:=fun e=>absurd (qj.lt QO.o _ e).2 (Nat.lt_irrefl _);have z0:(wr.alloc (.cells #[.int .i64 ob,.int .i64 op,.int .i64 ke,.int .i64 va,.int .i64 re,.int .i64 go,.int .i64 at_,.int .i64 ba] 112)).cell? ⟨wr.heap.size,0,none⟩=some (.int .i64 ob):=qa r3 0;have y:=qa r3;have y0:=y 0;have y1:=y 1;have y4:=y 4;simp at y0 y1 y4;have yl:=qd r3;have R3:=qh r3;have DP:=qh (qaL _ QO3.o hXl (enters_of Tryz.func108 (by kernel_rfl) rfl) (qfG ob r3 z0 hne3 (L:=(· ∈ X))));clear hc hdk y r3 b3 z0;by_cases e1:op=2
   ·subst e1
    by_cases e4:re=1
    ·subst e4
     go_wp2_with fail;generalize wr.alloc (.cells #[.int .i64 ob,.int .i64 2,.int .i64 ke,.int .i64 va,.int .i64 1,.int .i64 go,.int .i64 at_,.int .i64 ba] 112)=W3 at *;refine(DP.o).mono ?_;rintro e W4 ⟨v4,rfl,o4,G4⟩;obtain⟨a4,c4,rfl⟩:=qj.sli o4;obtain⟨Y,hY⟩:∃Y,(X.filter fun x=>!(x.obj==ob))=Y:=⟨_,rfl⟩
     rw[hY] at o4 G4;have hYl:Y.length<=400:=by rw[←hY];exact Nat.le_trans (List.length_filter_le _ _) hXl
     have HY:=qh hY;have r4:W4.heap[wr.heap.size]?=some _:=qL R3.o G4 hne3;have z4:=G4.size;have O4:=qh o4;have HZ4:=qh (show w.heap.size<=W4.heap.size by have:=HZ3.o;omega);have B4:=qh (B3.o.trans (G4.below (B:=w.heap.size) HZ3.o fun j hj=>(qj.lt QO3.o j hj).1));clear y0 y1 y4 yl DP hY;have y:=qa r4;have y0:=y 0;have y1:=y 1;have y2:=y 2;have y3:=y 3;have y4:=y 4;have y5:=y 5;have y6:=y 6;have y7:=y 7;simp at y0 y1 y2 y3 y4 y5 y6 y7;have yl:=qd r4;rw[show (X.filter fun x=>!(x.obj==ob)).length=Y.length by rw[HY.o]];clear y r4 o4 G4;go_wp2_with (at_builtin;refine qN rfl _ _ _ rfl _ 64 Tryz.underlying47 JF rfl O4.o (⟨ob,2,ke,va,1,go,at_,ba⟩:Dd) HZ4.o (by rfl) (by rfl) (by first|rfl|simp) rfl (Wt _) (by first|omega|(simp only[List.length_append,List.length_cons,List.length_nil,List.length_replicate];omega)) (by first|omega|(simp only[List.length_append,List.length_cons,List.length_nil,List.length_replicate];omega)) ?_;refine qK.halt ?_)
     refine qK.go ?_;intro g5 c5 w5 o5 G5;have O5:=qh o5;have B5:=qh (B4.o.trans (G5.below (B:=w.heap.size) HZ4.o fun j hj=>(qj.lt O4.o j hj).1));clear o5 G5;go_wp2_with fail;go_roundw
     case rel=>
      refine⟨k+1,by omega,by go_num,?_,B5.o⟩;have e:=HR.o;rw[if_pos ⟨trivial,trivial⟩,show(X.filter fun o=>o.obj !=ob)=Y from HY.o] at e;rw[e];exact O5.o
     case measure=>simp[intOf];omega
    ·have q4:(re !=1)=true:=by simpa using e4
     have HE:=qh e4;clear e4;go_wp2_with fail;generalize wr.alloc (.cells #[.int .i64 ob,.int .i64 2,.int .i64 ke,.int .i64 va,.int .i64 re,.int .i64 go,.int .i64 at_,.int .i64 ba] 112)=W3 at *;go_roundw
     case rel=>
      refine⟨k+1,by omega,by go_num,?_,B3.o⟩;have e:=HR.o;rw[if_neg (fun h=>HE.o h.2)] at e;rw[e];exact QO3.o
     case measure=>simp[intOf];omega
   ·have q1:(op !=2)=true:=by simpa using e1
    have HE:=qh e1;clear e1;go_wp2_with fail;generalize wr.alloc (.cells #[.int .i64 ob,.int .i64 op,.int .i64 ke,.int .i64 va,.int .i64 re,.int .i64 go,.int .i64 at_,.int .i64 ba] 112)=W3 at *;go_roundw
    case rel=>
     refine⟨k+1,by omega,by go_num,?_,B3.o⟩;have e:=HR.o;rw[if_neg (fun h=>HE.o h.1)] at e;rw[e];exact QO3.o
    case measure=>simp[intOf];omega
  ·obtain rfl:k=l.length:=by omega
   have e:=HXX.o;rw[List.take_length] at e;have hq:decide ((l.length:Int) < (l.length:Int))=false:=by simp
   have HE:=qh e;clear e;go_wp2;go_ret;exact⟨_,rfl,by rw[HE.o];exact QO.o,QB.o⟩
end
section
attribute [local irreducible] xE
structure xz where
 p:Nat
 r:Nat
 wm:Nat
 dv:Value
def xz.cells (m:xz):List Value:=[xD m.p]
theorem xz.len (m:xz):m.cells.length=1:=rfl
theorem Wg:(Tryz.prog.info? 133).map (fun i=>(i.zero,i.size,i.bytes))=some (some (.pointer none),1,8):=by kernel_rfl
theorem VT (m:xz):∀u ∈ m.cells,u.oneCell'=true:=by intro u hu;simp[xz.cells] at hu;subst hu;rfl
abbrev Mg (s:St) (m:xz) (lk tk:Bool):Obj:=.cells #[.int .i64 s.id,.int .i64 s.thread,.int .i64 s.status,.int .i64 s.beg,.int .i64 s.fin,.int .i64 s.tri,m.dv,.map (some m.r),.map (some m.wm),.bool lk,.bool tk] 140 (0,0)
structure UD (w:World) (lo hi:Nat) (m:xz) (s:St) (lk tk:Bool):Prop where
 row:w.heap[m.p]?=some (Mg s m lk tk)
 dds:XG w lo m.dv s.deeds
 dvb:∀k,m.dv.ownBlock=some k->k < hi
 rd:Qj w m.r (zg s).length (zg s)
 wr:Qj w m.wm (ja s).length (ja s)
 b:(lo<=m.p/\m.p < hi)/\(lo<=m.r/\m.r < hi)/\lo<=m.wm/\m.wm < hi
def Uz (A:Au) (ms:List xz) (c:Ck):Option Value:=(Re A c.1.1 c.1.2).bind fun j=>ms[j]?.map fun m=>xD m.p
structure xT (w:World) (lo hi pW bB:Nat) (lev:Int) (ov vv:Value) (ms:List xz) (lv:Value) (A:Au) (T:List Bool):Prop where
 row:w.heap[pW]?=some (.cells #[ov,vv,.int .i64 lev,lv,.map (some bB)] 137 (0,0))
 pB:(lo<=pW/\pW < hi)/\lo<=bB/\bB < hi
 lst:qj xz.cells 133 1 w lo lv ms
 lstb:∀k,lv.ownBlock=some k->k < hi
 len:ms.length=A.length
 tl:T.length=A.length
 mv:∀(k:Nat) (m:xz) (s:St),ms[k]?=some m->A[k]?=some s->UD w lo hi m s (xH lev T k) (T.getD k false)
 inj:∀(j k:Nat) (m m':xz),ms[j]?=some m->ms[k]?=some m'->m.p=m'.p->j=k
 nb:∀m ∈ ms,m.r≠bB/\m.wm≠bB
 by_:xI ZA w bB (Uz A ms)
section
variable {w w':World} {lo hi pW bB:Nat} {lev:Int} {ov vv lv:Value} {ms:List xz} {A:Au} {T:List Bool}
theorem qj.sameB {α:Type} {f:α->List Value} {e:TypeId} {sz B:Nat} {v:Value} {l:List α} (h:qj f e sz w B v l) (hk:∀k,v.ownBlock=some k->w'.heap[k]?=w.heap[k]?):qj f e sz w' B v l:=by
 obtain⟨h1,h2⟩:=h;refine⟨h1,?_⟩;rcases h2 with h2|⟨g,cap,cur,rfl,hg,hh,r⟩
 ·exact .inl h2
 ·exact .inr ⟨g,cap,cur,rfl,hg,(hk g rfl).trans hh,r⟩
theorem UD.keep {m:xz} {s:St} {lk tk:Bool} {hi':Nat} (h:UD w lo hi m s lk tk) (hh:hi<=hi') (h1:w'.heap[m.p]?=w.heap[m.p]?) (h2:∀k,m.dv.ownBlock=some k->w'.heap[k]?=w.heap[k]?) (h3:w'.heap[m.r]?=w.heap[m.r]?) (h4:w'.heap[m.wm]?=w.heap[m.wm]?):UD w' lo hi' m s lk tk:=
 ⟨h1.trans h.row,h.dds.sameB h2,fun k hk=>Nat.lt_of_lt_of_le (h.dvb k hk) hh,h.rd.obj h3,h.wr.obj h4,by have:=h.b;omega⟩
theorem xT.keep {hi':Nat} (h:xT w lo hi pW bB lev ov vv ms lv A T) (hh:hi<=hi') (hk:∀k,lo<=k->k < hi->w'.heap[k]?=w.heap[k]?):xT w' lo hi' pW bB lev ov vv ms lv A T where
 row:=(hk pW h.pB.1.1 h.pB.1.2).trans h.row
 pB:=by have:=h.pB;omega
 lst:=h.lst.sameB fun k e=>hk k (qj.lt h.lst k e).1 (h.lstb k e)
 lstb k e:=Nat.lt_of_lt_of_le (h.lstb k e) hh
 len:=h.len
 tl:=h.tl
 mv k m s hm hs:=by
  have q:=h.mv k m s hm hs;have b:=q.b;exact q.keep hh (hk _ b.1.1 b.1.2) (fun k e=>hk k (qj.lt q.dds k e).1 (q.dvb k e)) (hk _ b.2.1.1 b.2.1.2) (hk _ b.2.2.1 b.2.2.2)
 inj:=h.inj
 nb:=h.nb
 by_:=h.by_.obj (hk bB h.pB.2.1 h.pB.2.2)
theorem xT.below {K hi':Nat} (h:xT w lo hi pW bB lev ov vv ms lv A T) (hb:Below K w w') (hK:hi<=K) (hh:hi<=hi'):xT w' lo hi' pW bB lev ov vv ms lv A T:=h.keep hh fun k _ hk=>hb.block k (by omega)
theorem xT.get (h:xT w lo hi pW bB lev ov vv ms lv A T) {k:Nat} (hk:k < A.length):∃m s,ms[k]?=some m/\A[k]?=some s/\UD w lo hi m s (xH lev T k) (T.getD k false):=by
 have hk':k < ms.length:=by have:=h.len;omega
 have h1:ms[k]?=some ms[k]:=List.getElem?_eq_getElem hk';have h2:A[k]?=some A[k]:=List.getElem?_eq_getElem hk;exact⟨_,_,h1,h2,h.mv k _ _ h1 h2⟩
theorem KT {q1 q2:Nat} {c1 c2:Array Value} {t1 t2:TypeId} {f1 f2:Nat×Nat} (h1:w.heap[q1]?=some (.cells c1 t1 f1)) (h2:w.heap[q2]?=some (.cells c2 t2 f2)) (ht:t1≠t2):q1≠q2:=by
 rintro rfl;rw[h1] at h2;simp only[Option.some.injEq,Obj.cells.injEq] at h2;exact ht h2.2.1
theorem zk {q1 q2:Nat} {c1:Array Value} {t1:TypeId} {f1:Nat×Nat} (h1:w.heap[q1]?=some (.cells c1 t1 f1)) (h2:∃es c,w.heap[q2]?=some (.map es c)):q1≠q2:=by
 rintro rfl;obtain⟨es,c,h2⟩:=h2;rw[h1] at h2;cases h2
theorem Qj.isMap {b n:Nat} {M:MI} (h:Qj w b n M):∃es c,w.heap[b]?=some (.map es c):=by
 obtain⟨es,c,hb,-⟩:=h;exact⟨es,c,hb⟩
theorem qap {T:List Bool} {x:Bool} {k:Nat} (hk:k < T.length):xH lev (T++[x]) k=xH lev T k/\(T++[x]).getD k false=T.getD k false:=by
 have e:(T++[x]).getD k false=T.getD k false:=by rw[List.getD_eq_getElem?_getD,List.getD_eq_getElem?_getD,List.getElem?_append_left hk]
 unfold xH;rw[e];exact⟨rfl,rfl⟩
theorem Nb {T:List Bool} {x:Bool}:xH lev (T++[x]) T.length=(x||decide (lev=3))/\(T++[x]).getD T.length false=x:=by
 have e:(T++[x]).getD T.length false=x:=by rw[List.getD_eq_getElem?_getD];simp
 unfold xH;rw[e];exact⟨rfl,rfl⟩
theorem xT.snoc {hi':Nat} {lv':Value} {m:xz} {s:St} {x:Bool} (h:xT w lo hi pW bB lev ov vv ms lv A T) (hh:hi<=hi')
  (hk:∀k,lo<=k->k < hi->k≠pW->k≠bB->lv.ownBlock≠some k->w'.heap[k]?=w.heap[k]?)
  (hr:w'.heap[pW]?=some (.cells #[ov,vv,.int .i64 lev,lv',.map (some bB)] 137 (0,0))) (hl:qj xz.cells 133 1 w' lo lv' (ms++[m])) (hlb:∀k,lv'.ownBlock=some k->k < hi')
  (hm:UD w' lo hi' m s (x||decide (lev=3)) x) (hf:hi<=m.p/\hi<=m.r/\hi<=m.wm) (hb:xI ZA w' bB (Uz (A++[s]) (ms++[m]))):
  xT w' lo hi' pW bB lev ov vv (ms++[m]) lv' (A++[s]) (T++[x]):=by
 have hlen:=h.len;have htl:=h.tl;have hpB:=h.pB;refine⟨hr,by omega,hl,hlb,by simp[hlen],by simp[htl],fun k m' s' hm' hs'=>?_,fun j k m1 m2 h1 h2 e=>?_,fun m' hm'=>?_,hb⟩
 ·rcases Nat.lt_trichotomy k A.length with hlt|rfl|hgt
  ·rw [List.getElem?_append_left (by omega)] at hm' hs'
   have q:=h.mv k m' s' hm' hs';have b:=q.b;obtain⟨e1,e2⟩:=qap (lev:=lev) (x:=x) (show k < T.length by omega);rw[e1,e2];refine q.keep hh (hk _ b.1.1 b.1.2 (KT q.row h.row (by decide)) (zk q.row h.by_.isMap) fun e=>?_) (fun k e=>hk k (qj.lt q.dds k e).1 (q.dvb k e) ?_ ?_ fun e2=>?_) (hk _ b.2.1.1 b.2.1.2 ?_ (h.nb m' (List.mem_of_getElem? hm')).1 ?_) (hk _ b.2.2.1 b.2.2.2 ?_ (h.nb m' (List.mem_of_getElem? hm')).2 ?_)
   ·exact qj.neT h.lst q.row (by decide) e
   ·rintro rfl
    exact qj.neT q.dds h.row (by decide) e
   ·rintro rfl
    exact qj.neM q.dds h.by_.isMap e
   ·obtain ⟨c1,hc1⟩:=q.dds.keepObj k e
    exact qj.neT h.lst hc1 (by decide) e2
   ·exact fun e=>zk h.row q.rd.isMap e.symm
   ·exact qj.neM h.lst q.rd.isMap
   ·exact fun e=>zk h.row q.wr.isMap e.symm
   ·exact qj.neM h.lst q.wr.isMap
  ·rw [List.getElem?_append_right (by omega)] at hm' hs'
   simp[hlen] at hm' hs';subst hm' hs';obtain⟨e1,e2⟩:=Nb (lev:=lev) (T:=T) (x:=x);rw[htl] at e1 e2;rw[e1,e2];exact hm
  ·rw [List.getElem?_eq_none (by simp;omega)] at hs'
   cases hs'
 ·have hlt:∀(j:Nat) (m1:xz),(ms++[m])[j]?=some m1->j < ms.length/\ms[j]?=some m1/\m1.p < hi\/j=ms.length/\m1=m:=by
   intro j m1 h1;rcases Nat.lt_or_ge j ms.length with hj|hj
   ·rw [List.getElem?_append_left hj] at h1
    obtain⟨m2,s2,g1,g2,g3⟩:=h.get (k:=j) (by omega);rw[h1] at g1;obtain rfl:=Option.some.inj g1;exact .inl ⟨hj,h1,g3.b.1.2⟩
   ·have:=(List.getElem?_eq_some_iff.1 h1).1
    simp at this;obtain rfl:j=ms.length:=by omega
    simp at h1;exact .inr ⟨rfl,h1.symm⟩
  rcases hlt j m1 h1 with⟨q1,q2,q3⟩|⟨q1,q2⟩ <;> rcases hlt k m2 h2 with⟨r1,r2,r3⟩|⟨r1,r2⟩
  ·exact h.inj j k m1 m2 q2 r2 e
  ·subst r2;omega
  ·subst q2;omega
  ·omega
 ·rcases List.mem_append.1 hm' with hm'|hm'
  ·exact h.nb m' hm'
  ·rw [List.mem_singleton.1 hm'];omega
theorem xT.flag {j:Nat} {m:xz} (h:xT w lo hi pW bB lev ov vv ms lv A T) (hj:ms[j]?=some m):
  xT ((w.setCell ⟨m.p,10,none⟩ (.bool true)).setCell ⟨m.p,9,none⟩ (.bool true)) lo hi pW bB lev ov vv ms lv A (T.set j true):=by
 have hjl:=(List.getElem?_eq_some_iff.1 hj).1;have hlen:=h.len;have htl:=h.tl;obtain⟨m0,s0,g1,g2,g3⟩:=h.get (k:=j) (by omega);rw[hj] at g1;obtain rfl:=Option.some.inj g1;have old:∀k,k≠m.p->((w.setCell ⟨m.p,10,none⟩ (.bool true)).setCell ⟨m.p,9,none⟩ (.bool true)).heap[k]?=w.heap[k]?:=fun k hk=>by
  rw[RowKit.Below.heap_setCell _ _ _ _ hk,RowKit.Below.heap_setCell _ _ _ _ hk]
 refine⟨(old pW (KT h.row g3.row (by decide))).trans h.row,h.pB,h.lst.sameB fun k e=>old k (by rintro rfl;exact qj.neT h.lst g3.row (by decide) e),h.lstb,hlen,by rw[List.length_set];exact htl,fun k m' s' hm' hs'=>?_,h.inj,h.nb,h.by_.obj (old bB fun e=>zk g3.row h.by_.isMap e.symm)⟩;have q:=h.mv k m' s' hm' hs';by_cases e:k=j
 ·subst e
  rw[hj] at hm';obtain rfl:=Option.some.inj hm';have eT:(T.set k true).getD k false=true:=by rw[Yk (by omega)];simp
  have eL:xH lev (T.set k true) k=true:=by unfold xH;rw[eT];rfl
  rw[eL,eT];refine⟨?_,q.dds.sameB fun k' e=>old k' (by rintro rfl;exact qj.neT q.dds g3.row (by decide) e),q.dvb,q.rd.obj (old _ fun e=>zk g3.row q.rd.isMap e.symm),q.wr.obj (old _ fun e=>zk g3.row q.wr.isMap e.symm),q.b⟩;have:=qq (qq q.row 10 (.bool true)) 9 (.bool true);simpa using this
 ·have eT:(T.set j true).getD k false=T.getD k false:=by rw[Yk (by omega)];simp[e]
  have eL:xH lev (T.set j true) k=xH lev T k:=by unfold xH;rw[eT]
  rw[eL,eT];have hne:m'.p≠m.p:=fun e2=>e (h.inj k j m' m hm' hj e2);exact q.keep (Nat.le_refl _) (old _ hne) (fun k' e=>old k' (by rintro rfl;exact qj.neT q.dds g3.row (by decide) e)) (old _ fun e=>zk g3.row q.rd.isMap e.symm) (old _ fun e=>zk g3.row q.wr.isMap e.symm)
end
theorem qdj (A:Au) (s:St) (o v:Int):Re (A++[s]) o v=if Jr s=true/\fnd o (ja s)=some v then some A.length else Re A o v:=by
 unfold Re;rw[List.length_append,List.length_singleton,List.range_succ,List.foldl_append];have e:(List.range A.length).foldl (by1 (A++[s]) o v) none=(List.range A.length).foldl (by1 A o v) none:=by
  have:∀(l:List Nat) (r:Option Nat),(∀i ∈ l,i < A.length)->l.foldl (by1 (A++[s]) o v) r=l.foldl (by1 A o v) r:=fun l=>by
   induction l with
   |nil=>intro r _;rfl
   |cons i l ih=>
    intro r hl;rw[List.foldl_cons,List.foldl_cons,ih _ fun x hx=>hl x (List.mem_cons_of_mem _ hx)];congr 1;unfold by1;rw[List.getElem?_append_left (hl i (List.mem_cons_self ..))]
  exact this _ _ fun i hi=>List.mem_range.1 hi
 rw[e];simp only[List.foldl_cons,List.foldl_nil,by1];rw[List.getElem?_append_right (Nat.le_refl _)];simp
theorem QD (A:Au) (s:St):yY (A++[s])=yY A++[decide (s.status=3)]:=by unfold yY;rw[List.map_append];rfl
theorem Ub (A:Au) (ms:List xz) (s:St) (m:xz) (hl:ms.length=A.length) (c:Ck):Uz (A++[s]) (ms++[m]) c=if Jr s=true/\fnd c.1.1 (ja s)=some c.1.2 then some (xD m.p) else Uz A ms c:=by
 unfold Uz;rw[qdj]
 split
 ·rw [Option.bind_some,←hl,List.getElem?_append_right (Nat.le_refl _)]
  simp
 ·cases h:Re A c.1.1 c.1.2 with
  |none=>rfl
  |some j=>
   rw[Option.bind_some,Option.bind_some,List.getElem?_append_left (by rw[hl];exact Ww h)]
end
