/- Parts of the proof; the first: What the texts on arguments stand on (round r6: no engine, no automaton of registers).. Conditions: those of each theorem, as typed. -/
import Derived.Test.YtcpfbphcldocpaaGreatDoorQC02
import Derived.ProofKit
import Derived.ChangeSame
import Derived.ChangeSlices
import Derived.WideKeyArgs
import Derived.Deep.Slices
import Derived.Deep.SlicePairs
import Derived.Deep.Fields
import Derived.Test.YtcpfbphcldocpaaGreatDoorQC01
import Derived.Test.YtcpfbphcldocpaaGreatDoorQC03
set_option linter.unusedVariables false
set_option linter.unusedSimpArgs false
set_option linter.unusedSectionVars false
set_option maxRecDepth 100000
set_option maxHeartbeats 4000000
namespace Go.Proofs.YtcpfbphcldocpaaGreatDoor
open Go.ChangeAt Go.ChangeShapes Go.Deep Go.RowKit Go.WideShapes

section
variable {H:Type} {enc:TypeId×Value->H} {P:Program} {W:World}
theorem UB {a:Addr} {u:Value} (h:W.cell? a=some u):a.block < W.heap.size/\a.spot=none:=by
 unfold World.cell? at h
 split at h
 ·rename_i hb
  refine⟨(Array.getElem?_eq_some_iff.1 hb).1,?_⟩
  split at h
  ·cases h
  ·rename_i hs;cases hh:a.spot <;> simp_all
 ·cases h
theorem Mk {a:Addr} (h:a.spot=none) (j:Nat):a.add j=⟨a.block,a.off+j,none⟩:=by
 obtain⟨b,o,s⟩:=a;simp only at h;subst h;unfold Addr.add
 split <;> simp_all
theorem Sl.of_each {α:Type} {f:α->List Value} {sz n cap:Nat} (hf:∀x,(f x).length=sz) (h0:0 < sz) {a:Addr} {l:List α} (hl:l.length=n) (hn:n<=9223372036854775807)
  (h:∀i x,l[i]?=some x->∀j,j < sz->W.cell? (a.add (i*sz+j))=(f x)[j]?):Sl W W.heap.size sz (.slice (some a) n cap) n (l.flatMap f):=by
 refine⟨_,_,rfl,hn,by rw[jG f sz hf,hl],fun hp=>?_⟩;have hcell:∀i x,l[i]?=some x->∀j,(hj:j < sz)->W.cell? (a.add (i*sz+j))=some ((f x)[j]'(by rw[hf];exact hj)):=fun i x hi j hj=>by
  rw[h i x hi j hj];exact List.getElem?_eq_getElem _
 obtain⟨hb,hs⟩:=UB (hcell 0 (l[0]'(by omega)) (List.getElem?_eq_getElem _) 0 h0);have hs':a.spot=none:=by
  rw[Nat.zero_mul,Nat.zero_add] at hs;simpa[Addr.add] using hs
 have hb':a.block < W.heap.size:=by
  rw[Nat.zero_mul,Nat.zero_add] at hb;simpa[Addr.add] using hb
 refine⟨a.block,a.off,?_,hb',fun j u hu=>?_⟩
 ·rw [show (⟨a.block,a.off,none⟩:Addr)=a by obtain⟨b,o,s⟩:=a;simp only at hs';rw[hs']]
 ·have hj:j < (l.flatMap f).length:=(List.getElem?_eq_some_iff.1 hu).1
  rw[jG f sz hf] at hj;have e:j=j / sz*sz+j % sz:=by rw[Nat.mul_comm];exact(Nat.div_add_mod j sz).symm
  have hq:j / sz < l.length:=Nat.div_lt_of_lt_mul (by rw[Nat.mul_comm];exact hj);have hr:j % sz < sz:=Nat.mod_lt _ h0;rw[e,ZH f sz hf l (j / sz) (j % sz) _ (List.getElem?_eq_getElem hq) hr] at hu;rw[←Mk hs',e,h (j / sz) _ (List.getElem?_eq_getElem hq) (j % sz) hr];exact hu
theorem QZ (hl:laidOutB P=true) {W W':World} {sp:Nat->Bool}:∀{ts:List TypeId} {vs:List Value} {ds:List (DataW H)} {ps:List MemPlace},(ts.all fun t=>P.readableRec t&&decide (t < P.types.size))=true->
  DataW.TrodAll enc P W 0 (fun _=>true) true ts vs ds ps->(∀p ∈ ps,W.sameAt W' p)->(∀p ∈ ps,sp p.block=true)->DataW.TrodAll enc P W' 0 sp true ts vs ds ps
 |[],[],[],_,_,h,_,_=>h
 |t::_,_::_,_::_,_,hT,⟨p,q,h1,h2,e⟩,hs,hsp=>by
  simp only[List.all_cons,Bool.and_eq_true,decide_eq_true_eq] at hT;exact⟨p,q,WideElems.Trod_stays hl hT.1.1 hT.1.2 h1 (fun x hx=>hs x (by rw[e];exact List.mem_append_left _ hx)) (fun x hx=>hsp x (by rw[e];exact List.mem_append_left _ hx)),
   QZ hl hT.2 h2 (fun x hx=>hs x (by rw[e];exact List.mem_append_right _ hx)) (fun x hx=>hsp x (by rw[e];exact List.mem_append_right _ hx)),e⟩
theorem Nw {f:Func} {s:ChangeSpec} {apart fresh handsOn again:Bool} {W W':World} {args:Array Value} {v:Value} {ds gs:List (DataW H)} {before:List MemPlace}
  (hW:DataW.Whole enc P f.params.toList s.vars apart W args.toList ds gs before)
  (hA:DataW.TrodAll enc P W 0 (fun _=>true) true f.params.toList args.toList ds before)
  (hl:laidOutB P=true) (hT:(f.params.toList.all fun t=>P.readableRec t&&decide (t < P.types.size))=true) (hv:s.vars=[])
  (hres:∀(b:Nat) (sp:Nat->Bool) (hd:Bool),DataW.TrodAll enc P W' b sp hd f.resultTypes.toList (v.resultList f.resultTypes.size) (s.fn H (ds++gs)).results [])
  (hargs:(s.fn H (ds++gs)).args=ds) (hvars:(s.fn H (ds++gs)).vars=[])
  (hb:Below W.heap.size W W')
  (hok:∀(j:Nat) (t:TypeId) (r:Value),f.resultTypes[j]?=some t->(v.resultList f.resultTypes.size)[j]?=some r->Value.okWide P W' .any 0 t r):
  s.post enc P f apart fresh handsOn again W args v W':=by
 have hlt:∀p ∈ before,p.block < W.heap.size:=fun p hp=>hW.lt p hp;have key:∀sp:Nat->Bool,(∀p ∈ before,sp p.block=true)->DataW.TrodAll enc P W' 0 sp true f.params.toList args.toList (s.fn H (ds++gs)).args before:=fun sp hsp=>by
  rw[hargs];exact QZ hl hT hA (fun p hp=>hb.same (hlt p hp)) hsp
 have hvs:∀sp:Nat->Bool,DataW.TrodVars enc P W' sp s.vars (s.fn H (ds++gs)).vars []:=fun sp=>by rw[hv,hvars];rfl
 have hold:∀p ∈ before,(fun b=>decide (b < W.heap.size)) p.block=true:=fun p hp=>by simpa using hlt p hp
 refine⟨ds,gs,before,[],before,[],hW,hres _ _ _,key _ hold,hvs _,World.keptBut_mono (fun p hp=>⟨hp,.inr (.inl hp)⟩) (hb.frame (· ∈ before)),fun _=>?_⟩;obtain⟨_,_,_,_,_,hz,hn⟩:=hW;refine⟨hok,_,_,([]++before)++[],⟨[]++before,[],trodAll_append (key _ (fun _ _=>rfl)) (hres _ _ _),hvs _,rfl,?_,?_⟩,?_⟩
 ·intro b off hp
  have hin:MemPlace.cell b off ∈ before:=by simpa using hp
  rw[hb.frozen (hlt _ hin)];exact hz b off hin
 ·intro ha
  simpa using hn ha
 ·intro p hp _
  simpa using hp
end
section
variable {H:Type} {enc:TypeId×Value->H} {W:World}
theorem MX {fuel:Nat} {u:Value} {y:DataW H×List MemPlace} (h:DataW.trod enc Tryz.prog W 0 (fun _=>true) true fuel 22 [u]=some y):∃(l:List Ob) (a:Option Addr) (c:Nat),u=.slice a l.length c/\l.length<=c/\Sl W W.heap.size 2 u l.length (l.flatMap Ob.cells)/\∀x ∈ l,dI x.kind/\dI x.init:=by
 rcases open_slice Tryz.underlying22 h with⟨hc,-⟩|⟨a,len,cap,m,k,D,Pl,hc,-,hl,hm,hmm,-,hall⟩
 ·simp only[List.cons.injEq,and_true] at hc
  subst hc;exact⟨[],none,0,rfl,Nat.le_refl _,⟨none,0,rfl,by simp,by simp,fun h=>by simp at h⟩,fun x hx=>by cases hx⟩
 ·simp only[List.cons.injEq,and_true] at hc
  subst hc;have hlm:len<=m:=by rw[hmm];split <;> omega
  have ce:Tryz.prog.cellsOf 62=2:=by kernel_rfl
  have ci:Tryz.prog.cellsOf 3=1:=by kernel_rfl
  have each:∀i,i < len->∃x:Ob,(∀j,j < 2->W.cell? (a.add (i*2+j))=(Ob.cells x)[j]?)/\dI x.kind/\dI x.init:=fun i hi=>by
   obtain⟨cs',h1,h2⟩:=hall i (by omega);rw[ce] at h1;obtain⟨_,hlen,hcell⟩:=World.cells?_some h1;obtain⟨xs,k',hk,hxy,_,hxl,hf⟩:=DataW.trod_struct Tryz.underlying62 h2
   match xs,hxl,cs',hlen with
   |[y0,y1],_,[v0,v1],_=>
    have g0:=hf 0 _ rfl;have g1:=hf 1 _ rfl;simp[ci] at g0 g1;have e0:=hcell 0 (by omega);have e1:=hcell 1 (by omega);rw[add_add] at e0 e1;obtain⟨x0,q0,-,w0⟩:=DataW.trod_int Tryz.underlying3 g0;obtain⟨x1,q1,-,w1⟩:=DataW.trod_int Tryz.underlying3 g1;simp only[List.cons.injEq,and_true] at q0 q1;subst q0 q1;refine⟨⟨x0,x1⟩,fun j hj=>?_,w0,w1⟩
    match j,hj with
    |0,_=>simpa[Ob.cells] using e0
    |1,_=>simpa[Ob.cells] using e1
  have hin:Inhabited Ob:=⟨⟨0,0⟩⟩
  obtain⟨q,hq⟩:=choose_lt each;have hll:((List.range len).map q).length=len:=by simp
  refine⟨(List.range len).map q,some a,cap,by rw[hll],by rw[hll];exact hl,?_,?_⟩
  ·rw [hll]
   refine Sl.of_each Ob.len (by omega) (by simp) (by unfold maxLen at hm;omega) fun i x hi j hj=>?_;have hi':i < len:=by have:=(List.getElem?_eq_some_iff.1 hi).1;simpa using this
   rw[List.getElem?_map,List.getElem?_range hi'] at hi;simp only[Option.map_some,Option.some.injEq] at hi;subst hi;exact(hq i hi').1 j hj
  ·intro x hx
   obtain⟨i,hi,rfl⟩:=List.mem_map.1 hx;exact(hq i (List.mem_range.1 hi)).2
theorem evs_open {fuel:Nat} {u:Value} {y:DataW H×List MemPlace} (h:DataW.trod enc Tryz.prog W 0 (fun _=>true) true fuel 23 [u]=some y):∃(l:List Ev) (a:Option Addr) (c:Nat),u=.slice a l.length c/\l.length<=c/\Sl W W.heap.size 8 u l.length (l.flatMap Ev.cells)/\∀x ∈ l,dI x.kind/\dI x.tx/\dI x.thread/\dI x.obj/\dI x.op/\dI x.key/\dI x.val/\dI x.ret:=by
 rcases open_slice Tryz.underlying23 h with⟨hc,-⟩|⟨a,len,cap,m,k,D,Pl,hc,-,hl,hm,hmm,-,hall⟩
 ·simp only[List.cons.injEq,and_true] at hc
  subst hc;exact⟨[],none,0,rfl,Nat.le_refl _,⟨none,0,rfl,by simp,by simp,fun h=>by simp at h⟩,fun x hx=>by cases hx⟩
 ·simp only[List.cons.injEq,and_true] at hc
  subst hc;have hlm:len<=m:=by rw[hmm];split <;> omega
  have ce:Tryz.prog.cellsOf 69=8:=by kernel_rfl
  have ci:Tryz.prog.cellsOf 3=1:=by kernel_rfl
  have each:∀i,i < len->∃x:Ev,(∀j,j < 8->W.cell? (a.add (i*8+j))=(Ev.cells x)[j]?)/\dI x.kind/\dI x.tx/\dI x.thread/\dI x.obj/\dI x.op/\dI x.key/\dI x.val/\dI x.ret:=fun i hi=>by
   obtain⟨cs',h1,h2⟩:=hall i (by omega);rw[ce] at h1;obtain⟨_,hlen,hcell⟩:=World.cells?_some h1;obtain⟨xs,k',hk,hxy,_,hxl,hf⟩:=DataW.trod_struct Tryz.underlying69 h2
   match xs,hxl,cs',hlen with
   |[y0,y1,y2,y3,y4,y5,y6,y7],_,[v0,v1,v2,v3,v4,v5,v6,v7],_=>
    have g0:=hf 0 _ rfl;have g1:=hf 1 _ rfl;have g2:=hf 2 _ rfl;have g3:=hf 3 _ rfl;have g4:=hf 4 _ rfl;have g5:=hf 5 _ rfl;have g6:=hf 6 _ rfl;have g7:=hf 7 _ rfl;simp[ci] at g0 g1 g2 g3 g4 g5 g6 g7;have e0:=hcell 0 (by omega);have e1:=hcell 1 (by omega);have e2:=hcell 2 (by omega);have e3:=hcell 3 (by omega);have e4:=hcell 4 (by omega);have e5:=hcell 5 (by omega);have e6:=hcell 6 (by omega);have e7:=hcell 7 (by omega);rw[add_add] at e0 e1 e2 e3 e4 e5 e6 e7;obtain⟨x0,q0,-,w0⟩:=DataW.trod_int Tryz.underlying3 g0;obtain⟨x1,q1,-,w1⟩:=DataW.trod_int Tryz.underlying3 g1;obtain⟨x2,q2,-,w2⟩:=DataW.trod_int Tryz.underlying3 g2;obtain⟨x3,q3,-,w3⟩:=DataW.trod_int Tryz.underlying3 g3;obtain⟨x4,q4,-,w4⟩:=DataW.trod_int Tryz.underlying3 g4;obtain⟨x5,q5,-,w5⟩:=DataW.trod_int Tryz.underlying3 g5;obtain⟨x6,q6,-,w6⟩:=DataW.trod_int Tryz.underlying3 g6;obtain⟨x7,q7,-,w7⟩:=DataW.trod_int Tryz.underlying3 g7;simp only[List.cons.injEq,and_true] at q0 q1 q2 q3 q4 q5 q6 q7;subst q0 q1 q2 q3 q4 q5 q6 q7;refine⟨⟨x0,x1,x2,x3,x4,x5,x6,x7⟩,fun j hj=>?_,w0,w1,w2,w3,w4,w5,w6,w7⟩
    match j,hj with
    |0,_=>simpa[Ev.cells] using e0
    |1,_=>simpa[Ev.cells] using e1
    |2,_=>simpa[Ev.cells] using e2
    |3,_=>simpa[Ev.cells] using e3
    |4,_=>simpa[Ev.cells] using e4
    |5,_=>simpa[Ev.cells] using e5
    |6,_=>simpa[Ev.cells] using e6
    |7,_=>simpa[Ev.cells] using e7
  have hin:Inhabited Ev:=⟨⟨0,0,0,0,0,0,0,0⟩⟩
  obtain⟨q,hq⟩:=choose_lt each;have hll:((List.range len).map q).length=len:=by simp
  refine⟨(List.range len).map q,some a,cap,by rw[hll],by rw[hll];exact hl,?_,?_⟩
  ·rw [hll]
   refine Sl.of_each Ev.len (by omega) (by simp) (by unfold maxLen at hm;omega) fun i x hi j hj=>?_;have hi':i < len:=by have:=(List.getElem?_eq_some_iff.1 hi).1;simpa using this
   rw[List.getElem?_map,List.getElem?_range hi'] at hi;simp only[Option.map_some,Option.some.injEq] at hi;subst hi;exact(hq i hi').1 j hj
  ·intro x hx
   obtain⟨i,hi,rfl⟩:=List.mem_map.1 hx;exact(hq i (List.mem_range.1 hi)).2
theorem NN {r:Reach} {b0:Nat} {v:Value} {d:DataW H} {p:List MemPlace} (hv:Value.okWide Tryz.prog W r b0 25 v) (h:DataW.Trod enc Tryz.prog W 0 (fun _=>true) true 25 v d p):
  ∃(ov:Value) (ae:Option Addr) (ce:Nat) (os:List Ob) (es:List Ev),v=.agg #[ov,.slice ae es.length ce]/\es.length<=ce/\Sl W W.heap.size 2 ov os.length (os.flatMap Ob.cells)/\Sl W W.heap.size 8 (.slice ae es.length ce) es.length (es.flatMap Ev.cells)/\(∀o ∈ os,dI o.kind)/\∀e ∈ es,dI e.ret:=by
 obtain⟨cs,rfl,hs⟩:=okWide_struct Tryz.underlying25 hv;obtain⟨fuel,hf⟩:=h;have c2:Tryz.prog.cellsOf 25=2:=by kernel_rfl
 have ci:Tryz.prog.cellsOf 22=1:=by kernel_rfl
 have ct:Tryz.prog.cellsOf 23=1:=by kernel_rfl
 rw[c2] at hs;obtain⟨xs,k',hk,hxy,_,hxl,hfs⟩:=DataW.trod_struct Tryz.underlying25 hf
 match cs,hs,xs,hxl with
 |⟨[u0,u1]⟩,_,[y0,y1],_=>
  have g0:=hfs 0 _ rfl;have g1:=hfs 1 _ rfl;simp[Value.cells,ci,ct] at g0 g1;obtain⟨os,ao,co,rfl,-,h1,h2⟩:=MX g0;obtain⟨es,ae,ce,rfl,h3,h4,h5⟩:=evs_open g1;exact⟨_,ae,ce,os,es,rfl,h3,h1,h4,fun o ho=>(h2 o ho).1,fun e he=>(h5 e he).2.2.2.2.2.2.2⟩
end
