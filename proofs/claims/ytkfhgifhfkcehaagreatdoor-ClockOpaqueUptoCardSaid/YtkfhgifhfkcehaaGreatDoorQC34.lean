/- Parts of the proof; the first: Programs and lists of numbers that came in: how they lie in memory; a law's promise out of its walk. Conditions: those of each theorem, as typed. -/
import Derived.Test.YtkfhgifhfkcehaaGreatDoorQC33
import Derived.ProofKit
import Derived.ChangeSame
import Derived.ChangeSlices
import Derived.WideKeyArgs
import Derived.Deep.Slices
import Derived.Deep.SlicePairs
import Derived.Deep.Fields
import Derived.Test.YtkfhgifhfkcehaaGreatDoorRows
import Derived.Lib.LaidTab
import Derived.Stop.LaidErr
import Derived.Deep.DeepHandedRow
import Derived.Deep.DeepWitnessRowRef
set_option linter.unusedVariables false
set_option linter.unusedSimpArgs false
set_option linter.unusedSectionVars false
set_option maxRecDepth 100000
set_option maxHeartbeats 4000000
namespace Go.Proofs.YtkfhgifhfkcehaaGreatDoor
open Go.ChangeAt Go.ChangeShapes Go.Deep Go.RowKit Go.WideShapes
section
variable {H:Type} {enc:TypeId×Value->H} {P:Program} {W:World}
theorem cell_live {a:Addr} {u:Value} (h:W.cell? a=some u):a.block < W.heap.size/\a.spot=none:=by
 unfold World.cell? at h
 split at h
 ·rename_i hb
  refine⟨(Array.getElem?_eq_some_iff.1 hb).1,?_⟩
  split at h
  ·cases h
  ·rename_i hs;cases hh:a.spot <;> simp_all
 ·cases h
theorem addr_flat {a:Addr} (h:a.spot=none) (j:Nat):a.add j=⟨a.block,a.off+j,none⟩:=by
 obtain⟨b,o,s⟩:=a;simp only at h;subst h;unfold Addr.add
 split <;> simp_all
theorem Sl.of_each {α:Type} {f:α->List Value} {sz n cap:Nat} (hf:∀x,(f x).length=sz) (h0:0 < sz) {a:Addr} {l:List α} (hl:l.length=n) (hn:n<=9223372036854775807)
  (h:∀i x,l[i]?=some x->∀j,j < sz->W.cell? (a.add (i*sz+j))=(f x)[j]?):Sl W W.heap.size sz (.slice (some a) n cap) n (l.flatMap f):=by
 refine⟨_,_,rfl,hn,by rw[flat_length f sz hf,hl],fun hp=>?_⟩;have hcell:∀i x,l[i]?=some x->∀j,(hj:j < sz)->W.cell? (a.add (i*sz+j))=some ((f x)[j]'(by rw[hf];exact hj)):=fun i x hi j hj=>by
  rw[h i x hi j hj];exact List.getElem?_eq_getElem _
 obtain⟨hb,hs⟩:=cell_live (hcell 0 (l[0]'(by omega)) (List.getElem?_eq_getElem _) 0 h0);have hs':a.spot=none:=by
  rw[Nat.zero_mul,Nat.zero_add] at hs;simpa[Addr.add] using hs
 have hb':a.block < W.heap.size:=by
  rw[Nat.zero_mul,Nat.zero_add] at hb;simpa[Addr.add] using hb
 refine⟨a.block,a.off,?_,hb',fun j u hu=>?_⟩
 ·rw [show (⟨a.block,a.off,none⟩:Addr)=a by obtain⟨b,o,s⟩:=a;simp only at hs';rw[hs']]
 ·have hj:j < (l.flatMap f).length:=(List.getElem?_eq_some_iff.1 hu).1
  rw[flat_length f sz hf] at hj;have e:j=j / sz*sz+j % sz:=by rw[Nat.mul_comm];exact(Nat.div_add_mod j sz).symm
  have hq:j / sz < l.length:=Nat.div_lt_of_lt_mul (by rw[Nat.mul_comm];exact hj);have hr:j % sz < sz:=Nat.mod_lt _ h0;rw[e,flat_get f sz hf l (j / sz) (j % sz) _ (List.getElem?_eq_getElem hq) hr] at hu;rw[←addr_flat hs',e,h (j / sz) _ (List.getElem?_eq_getElem hq) (j % sz) hr];exact hu
theorem sl_ints {t e:TypeId} {v:Value} {d:DataW H} {p:List MemPlace} (ht:P.underlying t=some (.slice e)) (he:P.underlying e=some (.int .i64)) (ce:P.cellsOf e=1)
  (h:DataW.Trod enc P W 0 (fun _=>true) true t v d p) (hs:∃a len cap,v=.slice a len cap):
  ∃a n cap,∃l:List Int,v=.slice a n cap/\l.length=n/\Sl W W.heap.size 1 v n (l.flatMap intC):=by
 obtain⟨a',n',c',rfl⟩:=hs;obtain⟨fuel,hf⟩:=h;rcases open_ints ht he ce hf with⟨hc,_⟩|⟨a,len,cap,zs,hc,_,hl,hm,hz,_,hcell,hwf⟩
 ·simp [Value.cells] at hc
  obtain⟨rfl,rfl,rfl⟩:=hc;exact⟨none,0,0,[],rfl,rfl,⟨none,0,rfl,by omega,rfl,by simp⟩⟩
 ·simp [Value.cells] at hc
  obtain⟨rfl,rfl,rfl⟩:=hc;have hz':zs.length=c':=by rw[hz];simp
  have hlm:n'<=zs.length:=by omega
  have hmx:c'<=9223372036854775807:=hm;have hlt:(zs.take n').length=n':=by rw[List.length_take];omega
  refine⟨some a,n',c',zs.take n',rfl,hlt,Sl.of_each (f:=intC) (sz:=1) (fun _=>rfl) (by decide) hlt (by omega) ?_⟩;intro i x hi j hj;have hi':i < n':=by
   have:=(List.getElem?_eq_some_iff.1 hi).1;rw[List.length_take] at this;omega
  rw[List.getElem?_take,if_pos hi'] at hi;have:=hcell i (by omega)
  match j,hj with
  |0,_=>simpa[intC,List.getD,hi] using this
theorem isl_open {α:Type} {R:World->Nat->Value->α->Prop} {t e:TypeId} {fuel:Nat} {u:Value} {y:DataW H×List MemPlace} (ht:P.underlying t=some (.slice e)) (ce:P.cellsOf e=1)
  (hel:∀n v z,DataW.trod enc P W 0 (fun _=>true) true n e [v]=some z->∃x,R W W.heap.size v x) (h:DataW.trod enc P W 0 (fun _=>true) true fuel t [u]=some y):∃l:List α,IsL R W W.heap.size u l:=by
 rcases open_slice1 ht ce h with⟨hc,-⟩|⟨a,len,cap,m,n,V,D,Pl,hc,-,hl,hm,hmm,-,hall⟩
 ·simp only[List.cons.injEq,and_true] at hc
  subst hc;exact⟨[],[],⟨none,0,rfl,by simp,by simp,fun h=>by simp at h⟩,fun k v x hv=>by simp at hv⟩
 ·simp only[List.cons.injEq,and_true] at hc
  subst hc;have hlm:len<=m:=by rw[hmm];split <;> omega
  have each:∀i,i < len->∃x,R W W.heap.size (V i) x:=fun i hi=>hel n (V i) _ (hall i (by omega)).2;have:∃q:Nat->List α,∀i,i < len->∃x,q i=[x]/\R W W.heap.size (V i) x:=by
   obtain⟨q,hq⟩:=choose_lt (α:=List α) (p:=fun i l=>∃x,l=[x]/\R W W.heap.size (V i) x) fun i hi=>let ⟨x,hx⟩:=each i hi;⟨[x],x,rfl,hx⟩;exact⟨q,hq⟩
  obtain⟨q,hq⟩:=this;have hlen:∀n,n<=len->((List.range n).flatMap q).length=n:=fun n=>by
   induction n with
   |zero=>intro _;rfl
   |succ n ih=>
    intro hn;obtain⟨x,hx,-⟩:=hq n (by omega);rw[List.range_succ,List.flatMap_append,List.length_append,ih (by omega)];simp[hx]
  have hget:∀n,n<=len->∀i,i < n->∀x,((List.range n).flatMap q)[i]?=some x->R W W.heap.size (V i) x:=fun n=>by
   induction n with
   |zero=>intro _ i hi;omega
   |succ n ih=>
    intro hn i hi x hx;rw[List.range_succ,List.flatMap_append] at hx;by_cases hin:i < n
    ·rw [List.getElem?_append_left (by rw[hlen n (by omega)];exact hin)] at hx
     exact ih (by omega) i hin x hx
    ·obtain rfl:i=n:=by omega
     obtain⟨x',hx',hR⟩:=hq i (by omega);rw[List.getElem?_append_right (by rw[hlen i (by omega)];omega),hlen i (by omega)] at hx;simp[hx'] at hx;subst hx;exact hR
  refine⟨(List.range len).flatMap q,(List.range len).map V,?_,fun k v x hv hx=>?_⟩
  ·rw [hlen len (Nat.le_refl _)]
   have:=Sl.of_each (W:=W) (f:=yz) (sz:=1) (n:=len) (cap:=cap) (fun _=>rfl) (by decide) (a:=a) (l:=(List.range len).map V) (by simp) (by unfold maxLen at hm;omega) (fun i x hi j hj=>by
    have hi':i < len:=by have:=(List.getElem?_eq_some_iff.1 hi).1;simpa using this
    rw[List.getElem?_map,List.getElem?_range hi'] at hi;simp only[Option.map_some,Option.some.injEq] at hi;subst hi
    match j,hj with
    |0,_=>simpa[yz] using(hall i (by omega)).1)
   rwa [flat_val] at this
  ·have hk:k < len:=by have:=(List.getElem?_eq_some_iff.1 hv).1;simpa using this
   rw[List.getElem?_map,List.getElem?_range hk] at hv;simp only[Option.map_some,Option.some.injEq] at hv;subst hv;exact hget len (Nat.le_refl _) k hk x hx
theorem trodAll_kept (hl:laidOutB P=true) {W W':World} {sp:Nat->Bool}:∀{ts:List TypeId} {vs:List Value} {ds:List (DataW H)} {ps:List MemPlace},(ts.all fun t=>P.readableRec t&&decide (t < P.types.size))=true->
  DataW.TrodAll enc P W 0 (fun _=>true) true ts vs ds ps->(∀p ∈ ps,W.sameAt W' p)->(∀p ∈ ps,sp p.block=true)->DataW.TrodAll enc P W' 0 sp true ts vs ds ps
 |[],[],[],_,_,h,_,_=>h
 |t::_,_::_,_::_,_,hT,⟨p,q,h1,h2,e⟩,hs,hsp=>by
  simp only[List.all_cons,Bool.and_eq_true,decide_eq_true_eq] at hT;exact⟨p,q,WideElems.Trod_stays hl hT.1.1 hT.1.2 h1 (fun x hx=>hs x (by rw[e];exact List.mem_append_left _ hx)) (fun x hx=>hsp x (by rw[e];exact List.mem_append_left _ hx)),
   trodAll_kept hl hT.2 h2 (fun x hx=>hs x (by rw[e];exact List.mem_append_right _ hx)) (fun x hx=>hsp x (by rw[e];exact List.mem_append_right _ hx)),e⟩
theorem post_args {f:Func} {s:ChangeSpec} {apart fresh handsOn again:Bool} {W W':World} {args:Array Value} {v:Value} {ds gs:List (DataW H)} {before:List MemPlace}
  (hW:DataW.Whole enc P f.params.toList s.vars apart W args.toList ds gs before)
  (hA:DataW.TrodAll enc P W 0 (fun _=>true) true f.params.toList args.toList ds before)
  (hl:laidOutB P=true) (hT:(f.params.toList.all fun t=>P.readableRec t&&decide (t < P.types.size))=true) (hv:s.vars=[])
  (hres:∀(b:Nat) (sp:Nat->Bool) (hd:Bool),DataW.TrodAll enc P W' b sp hd f.resultTypes.toList (v.resultList f.resultTypes.size) (s.fn H (ds++gs)).results [])
  (hargs:(s.fn H (ds++gs)).args=ds) (hvars:(s.fn H (ds++gs)).vars=[])
  (hb:Below W.heap.size W W')
  (hok:∀(j:Nat) (t:TypeId) (r:Value),f.resultTypes[j]?=some t->(v.resultList f.resultTypes.size)[j]?=some r->Value.okWide P W' .any 0 t r):
  s.post enc P f apart fresh handsOn again W args v W':=by
 have hlt:∀p ∈ before,p.block < W.heap.size:=fun p hp=>hW.lt p hp;have key:∀sp:Nat->Bool,(∀p ∈ before,sp p.block=true)->DataW.TrodAll enc P W' 0 sp true f.params.toList args.toList (s.fn H (ds++gs)).args before:=fun sp hsp=>by
  rw[hargs];exact trodAll_kept hl hT hA (fun p hp=>hb.same (hlt p hp)) hsp
 have hvs:∀sp:Nat->Bool,DataW.TrodVars enc P W' sp s.vars (s.fn H (ds++gs)).vars []:=fun sp=>by rw[hv,hvars];rfl
 have hold:∀p ∈ before,(fun b=>decide (b < W.heap.size)) p.block=true:=fun p hp=>by simpa using hlt p hp
 refine⟨ds,gs,before,[],before,[],hW,hres _ _ _,key _ hold,hvs _,World.keptBut_mono (fun p hp=>⟨hp,.inr (.inl hp)⟩) (hb.frame (· ∈ before)),fun _=>?_⟩;obtain⟨_,_,_,_,_,hz,hn⟩:=hW;refine⟨hok,_,_,([]++before)++[],⟨[]++before,[],trodAll_append (key _ (fun _ _=>rfl)) (hres _ _ _),hvs _,rfl,?_,?_⟩,?_⟩
 ·intro b off hp
  have hin:MemPlace.cell b off ∈ before:=by simpa using hp
  rw[hb.frozen (hlt _ hin)];exact hz b off hin
 ·intro ha
  simpa using hn ha
 ·intro p hp _
  simpa using hp
end
section
variable {H:Type} {enc:TypeId×Value->H} {W:World}
theorem acts_open {fuel:Nat} {u:Value} {y:DataW H×List MemPlace} (h:DataW.trod enc Tryz.prog W 0 (fun _=>true) true fuel 80 [u]=some y):∃l:List Ac,IsActs W W.heap.size u l:=by
 rcases open_slice Tryz.underlying80 h with⟨hc,-⟩|⟨a,len,cap,m,k,D,Pl,hc,-,hl,hm,hmm,-,hall⟩
 ·simp only[List.cons.injEq,and_true] at hc
  subst hc;exact⟨[],none,0,rfl,by simp,by simp,fun h=>by simp at h⟩
 ·simp only[List.cons.injEq,and_true] at hc
  subst hc;have hlm:len<=m:=by rw[hmm];split <;> omega
  have ce:Tryz.prog.cellsOf 118=3:=by kernel_rfl
  have ci:Tryz.prog.cellsOf 3=1:=by kernel_rfl
  have each:∀i,i < len->∃x:Int×Int×Int,∀j,j < 3->W.cell? (a.add (i*3+j))=(Ac.cells ⟨x.1,x.2.1,x.2.2⟩)[j]?:=fun i hi=>by
   obtain⟨cs',h1,h2⟩:=hall i (by omega);rw[ce] at h1;obtain⟨_,hlen,hcell⟩:=World.cells?_some h1;obtain⟨xs,k',hk,hxy,_,hxl,hf⟩:=DataW.trod_struct Tryz.underlying118 h2
   match xs,hxl,cs',hlen with
   |[y0,y1,y2],_,[v0,v1,v2],_=>
    have g0:=hf 0 _ rfl;have g1:=hf 1 _ rfl;have g2:=hf 2 _ rfl;simp[ci] at g0 g1 g2;have e0:=hcell 0 (by omega);have e1:=hcell 1 (by omega);have e2:=hcell 2 (by omega);rw[add_add] at e0 e1 e2;obtain⟨x,q0,-,w0⟩:=DataW.trod_int Tryz.underlying3 g0;obtain⟨y,q1,-,w1⟩:=DataW.trod_int Tryz.underlying3 g1;obtain⟨z,q2,-,w2⟩:=DataW.trod_int Tryz.underlying3 g2;simp only[List.cons.injEq,and_true] at q0 q1 q2;subst q0 q1 q2;refine⟨(x,y,z),fun j hj=>?_⟩
    match j,hj with
    |0,_=>simpa[Ac.cells] using e0
    |1,_=>simpa[Ac.cells] using e1
    |2,_=>simpa[Ac.cells] using e2
  obtain⟨q,hq⟩:=choose_lt each;refine⟨(List.range len).map fun i=>⟨(q i).1,(q i).2.1,(q i).2.2⟩,?_⟩;have hll:((List.range len).map fun i=>(⟨(q i).1,(q i).2.1,(q i).2.2⟩:Ac)).length=len:=by simp
  unfold IsActs;rw[hll];refine Sl.of_each Ac.len (by omega) (by simp) (by unfold maxLen at hm;omega) fun i x hi j hj=>?_;have hi':i < len:=by have:=(List.getElem?_eq_some_iff.1 hi).1;simpa using this
  rw[List.getElem?_map,List.getElem?_range hi'] at hi;simp only[Option.map_some,Option.some.injEq] at hi;subst hi;exact hq i hi' j hj
theorem thr_open {fuel:Nat} {u:Value} {y:DataW H×List MemPlace} (h:DataW.trod enc Tryz.prog W 0 (fun _=>true) true fuel 23 [u]=some y):∃l,IsThr W W.heap.size u l:=
 isl_open Tryz.underlying23 (by kernel_rfl) (fun n v z hz=>isl_open Tryz.underlying79 (by kernel_rfl) (fun n v z hz=>acts_open hz) hz) h
theorem pg_open {r:Reach} {b0:Nat} {v:Value} {d:DataW H} {p:List MemPlace} (hv:Value.okWide Tryz.prog W r b0 25 v) (h:DataW.Trod enc Tryz.prog W 0 (fun _=>true) true 25 v d p):∃vc vt P,v=.agg #[vc,vt]/\PgIs W W.heap.size vc vt P:=by
 obtain⟨cs,rfl,hs⟩:=okWide_struct Tryz.underlying25 hv;obtain⟨fuel,hf⟩:=h;have c2:Tryz.prog.cellsOf 25=2:=by kernel_rfl
 have ci:Tryz.prog.cellsOf 22=1:=by kernel_rfl
 have ct:Tryz.prog.cellsOf 23=1:=by kernel_rfl
 rw[c2] at hs;obtain⟨xs,k',hk,hxy,_,hxl,hfs⟩:=DataW.trod_struct Tryz.underlying25 hf
 match cs,hs,xs,hxl with
 |⟨[u0,u1]⟩,_,[y0,y1],_=>
  have g0:=hfs 0 _ rfl;have g1:=hfs 1 _ rfl;simp[Value.cells,ci,ct] at g0 g1;obtain⟨P2,h2⟩:=thr_open g1;have hsl:∃a len cap,u0=.slice a len cap:=by
   rcases open_slice Tryz.underlying22 g0 with⟨hc,-⟩|⟨a,len,cap,m,k,D,Pl,hc,-⟩ <;> simp only[List.cons.injEq,and_true] at hc
   ·exact ⟨_,_,_,hc⟩
   ·exact ⟨_,_,_,hc⟩
  obtain⟨a,n,c,l,e,hl,h1⟩:=sl_ints Tryz.underlying22 Tryz.underlying3 (by kernel_rfl) (d:=y0.1) (p:=y0.2) ⟨k',by
   obtain⟨_,_,_,rfl⟩:=hsl;simpa[Value.cells] using g0⟩ hsl
  subst e;refine⟨_,_,⟨l,P2⟩,rfl,⟨?_,h2⟩⟩;show Sl W W.heap.size 1 _ l.length (l.map (.int .i64));rw[hl];have:l.flatMap intC=l.map (.int .i64):=by
   clear h1 hl
   induction l with
   |nil=>rfl
   |cons x l ih=>simp[intC,ih]
  rw[←this];exact h1
theorem sched_open {r:Reach} {b0:Nat} {v:Value} {d:DataW H} {p:List MemPlace} (hv:Value.okWide Tryz.prog W r b0 22 v) (h:DataW.Trod enc Tryz.prog W 0 (fun _=>true) true 22 v d p):∃l:List Int,Sl W W.heap.size 1 v l.length (l.map (.int .i64)):=by
 obtain⟨a,n,c,l,rfl,hl,h1⟩:=sl_ints Tryz.underlying22 Tryz.underlying3 (by kernel_rfl) h (okWide_slice Tryz.underlying22 hv);refine⟨l,?_⟩;rw[hl];have:l.flatMap intC=l.map (.int .i64):=by
  clear h1 hl
  induction l with
  |nil=>rfl
  |cons x l ih=>simp[intC,ih]
 rw[←this];exact h1
end
def strData (zs:List (List UInt8)):DataW Unit:=.agg (zs.map fun z=>.lit (.string z))
theorem cells_of_strs {enc:TypeId×Value->Unit} {P:Program} {w:World} {base:Nat} {sp:Nat->Bool} {held:Bool} {fuel:Nat} {t e:TypeId} {n:Nat} {cs:List Value} {zs:List (List UInt8)} {p:List MemPlace}
  (ht:P.underlying t=some (.array n e)) (he:P.underlying e=some .string) (hce:P.cellsOf e=1) (h:DataW.trod enc P w base sp held fuel t cs=some (strData zs,p)) (i:Nat) (z:List UInt8) (hz:zs[i]?=some z):
  ∃s:ByteArray,cs[i]?=some (.string s)/\s.data.toList=z:=by
 cases fuel with
 |zero=>simp[DataW.trod] at h
 |succ fuel=>
  simp only[DataW.trod,ht,hce,Nat.mul_one] at h
  split at h
  ·rename_i hl
   obtain⟨xs,hm,hx⟩:=Option.map_eq_some_iff.1 h;have hxs:xs.map (·.1)=zs.map fun z=>(DataW.lit (.string z):DataW Unit):=by
    have:=congrArg Prod.fst hx;simpa[strData] using this
   have hxl:xs.length=n:=by simpa using Lib.mapM_length hm
   have hzl:zs.length=n:=by
    have:=congrArg List.length hxs;simp at this;omega
   have hi:i < n:=by have:=(List.getElem?_eq_some_iff.1 hz).1;omega
   obtain⟨b,hb,hf⟩:=Lib.mapM_at hm i i (by simp[hi]);obtain⟨s,hc,rfl,_⟩:=DataW.trod_string he hf;refine⟨s,?_,?_⟩
   ·have:=congrArg (·[0]?) hc
    simpa[List.getElem?_take,List.getElem?_drop] using this
   ·have h2:(xs.map (·.1))[i]?=some (DataW.lit (.string s.data.toList):DataW Unit):=by simp[hb]
    rw[hxs] at h2;simp only[List.getElem?_map,hz,Option.map_some,Option.some.injEq,DataW.lit.injEq,Lit.string.injEq] at h2;exact h2.symm
  ·cases h
theorem strs_at {P:Program} {W:World} {name:String} {zs:List (List UInt8)} {rest:List (String×DataW Unit)} {g:Nat} {t e:TypeId} {n:Nat}
  (hg:P.globalNamed name=some g) (hty:(P.globals[g]?).map (·.type)=some t) (ht:P.underlying t=some (.array n e)) (he:P.underlying e=some .string) (hce:P.cellsOf e=1)
  (h:laidMet P ((name,strData zs)::rest) W) (i:Nat) (z:List UInt8) (hz:zs[i]?=some z):∃s:ByteArray,W.cell? ⟨g,i,none⟩=some (.string s)/\s.data.toList=z:=by
 obtain⟨ps,⟨g',t',cs,fuel,p,q,hg',ht',hvar,hd,_,_⟩,_⟩:=h;obtain rfl:=Option.some.inj (hg.symm.trans hg');obtain rfl:=Option.some.inj (hty.symm.trans ht');obtain⟨s,h1,h2⟩:=cells_of_strs ht he hce hd i z hz;have:=World.var?_cell hg hvar i;exact⟨s,by rw[this];simpa using h1,h2⟩
theorem ba_of {s:ByteArray} {l:List UInt8} (h:s.data.toList=l):s=⟨l.toArray⟩:=by
 obtain⟨⟨d⟩⟩:=s;simp only at h;subst h;rfl
theorem live_of {W:World} {b off:Nat} {u:Value} (h:W.cell? ⟨b,off,none⟩=some u):b < W.heap.size:=(cell_live h).1
theorem errRow (u:TypeId) (h:Tryz.prog.typeName? 3 u=some "*errors.errorString"):u=375:=
 typeName_ptr_named (nm:= "errors.errorString") (by rw[show "*" ++ "errors.errorString" = "*errors.errorString" by decide];kernel_rfl) (by kernel_rfl) (by decide) u (by rw[show "*" ++ "errors.errorString" = "*errors.errorString" by decide];exact h)
theorem glob_of_laid {W:World} (h:laidMet Tryz.prog Rows.clockOpaqueUptoRow.laid W):GlobS W:=by
 obtain⟨aP,sP,hP,-⟩:=laid_sentinel (P:=Tryz.prog) (n:= "umpire/api.ErrProg") (g:=2) (tp:=375) (te:=389) (ts:=9) (h.tail.tail.tail.tail.tail.tail.tail.tail.tail.tail.tail.tail.tail.tail.tail.tail.tail) (by kernel_rfl) (by kernel_rfl) Tryz.underlying30 errRow Tryz.underlying375 Tryz.underlying389 rfl rfl Tryz.underlying9 (by kernel_rfl) (by kernel_rfl);have cP:=World.var?_cell (P:=Tryz.prog) (show Tryz.prog.globalNamed "umpire/api.ErrProg" =some 2 by kernel_rfl) hP 0;obtain⟨aA,sA,hA,-⟩:=laid_sentinel (P:=Tryz.prog) (n:= "umpire/api.ErrAnswer") (g:=15) (tp:=375) (te:=389) (ts:=9) (h.tail.tail.tail.tail.tail.tail.tail.tail) (by kernel_rfl) (by kernel_rfl) Tryz.underlying30 errRow Tryz.underlying375 Tryz.underlying389 rfl rfl Tryz.underlying9 (by kernel_rfl) (by kernel_rfl);have cA:=World.var?_cell (P:=Tryz.prog) (show Tryz.prog.globalNamed "umpire/api.ErrAnswer" =some 15 by kernel_rfl) hA 0;obtain⟨aB,sB,hB,-⟩:=laid_sentinel (P:=Tryz.prog) (n:= "umpire/api.ErrBudget") (g:=0) (tp:=375) (te:=389) (ts:=9) (h.tail.tail.tail.tail.tail.tail.tail.tail.tail.tail.tail.tail.tail.tail.tail) (by kernel_rfl) (by kernel_rfl) Tryz.underlying30 errRow Tryz.underlying375 Tryz.underlying389 rfl rfl Tryz.underlying9 (by kernel_rfl) (by kernel_rfl);have cB:=World.var?_cell (P:=Tryz.prog) (show Tryz.prog.globalNamed "umpire/api.ErrBudget" =some 0 by kernel_rfl) hB 0;obtain⟨sO,cO,eO⟩:=strs_at (P:=Tryz.prog) (zs:=[[114,101,103,105,115,116,101,114],[99,111,117,110,116,101,114],[113,117,101,117,101],[109,97,112]]) (show Tryz.prog.globalNamed "umpire/event.objects" =some 16 by kernel_rfl) (show(Tryz.prog.globals[16]?).map (·.type)=some 337 by kernel_rfl) Tryz.underlying337 Tryz.underlying9 (by kernel_rfl) (h.tail.tail.tail.tail.tail.tail.tail.tail.tail.tail.tail.tail.tail.tail.tail.tail.tail.tail.tail) 0 [114,101,103,105,115,116,101,114] rfl;obtain⟨sK,cK,eK⟩:=strs_at (P:=Tryz.prog) (zs:=[[111,107],[110,111,110,101],[118,97,108]]) (show Tryz.prog.globalNamed "umpire/event.answers" =some 19 by kernel_rfl) (show(Tryz.prog.globals[19]?).map (·.type)=some 340 by kernel_rfl) Tryz.underlying340 Tryz.underlying9 (by kernel_rfl) (h.tail.tail.tail.tail.tail.tail.tail.tail.tail.tail.tail.tail.tail.tail.tail.tail.tail.tail.tail.tail.tail.tail) 0 [111,107] rfl;obtain⟨sV,cV,eV⟩:=strs_at (P:=Tryz.prog) (zs:=[[111,107],[110,111,110,101],[118,97,108]]) (show Tryz.prog.globalNamed "umpire/event.answers" =some 19 by kernel_rfl) (show(Tryz.prog.globals[19]?).map (·.type)=some 340 by kernel_rfl) Tryz.underlying340 Tryz.underlying9 (by kernel_rfl) (h.tail.tail.tail.tail.tail.tail.tail.tail.tail.tail.tail.tail.tail.tail.tail.tail.tail.tail.tail.tail.tail.tail) 2 [118,97,108] rfl;have tp:Lib.TabIs Tryz.prog W "internal/strconv.uint64pow10" .u64 Lib.pow10Tab:=Lib.tabIs_of_head (g:=23) (t:=371) (e:=334) (n:=20) (by kernel_rfl) (by kernel_rfl) Tryz.underlying371 Tryz.underlying334 (by kernel_rfl) (by kernel_rfl) (h.tail.tail);have t6:Lib.TabIs Tryz.prog W "math/bits.deBruijn64tab" .u8 [0,1,56,2,57,49,28,3,61,58,42,50,38,29,17,4,62,47,59,36,45,43,51,22,53,39,33,30,24,18,12,5,63,55,48,27,60,41,37,16,46,35,44,21,52,32,23,11,54,26,40,15,34,20,31,10,25,14,19,9,13,8,7,6]:=Lib.tabIs_of_head (g:=25) (t:=374) (e:=5) (n:=64) (by kernel_rfl) (by kernel_rfl) Tryz.underlying374 Tryz.underlying5 (by kernel_rfl) (by kernel_rfl) (h.tail);have hbig:25 < W.heap.size:=live_of (t6.cell (g:=25) (by kernel_rfl) 0 (by decide));rw[ba_of eO] at cO;rw[ba_of eK] at cK;rw[ba_of eV] at cV;have gt:GlobT W:=⟨⟨by omega,375,.pointer (some aP),by simpa using cP⟩,⟨by omega,cK,cV,cO⟩,⟨by omega,375,.pointer (some aA),by simpa using cA⟩⟩
 exact⟨gt,tp,by omega,⟨aB,by simpa using cB⟩⟩
theorem own:ownKnob Tryz.prog.godebug=none:=by kernel_rfl
noncomputable def low:Nat:=(World.holding Tryz.prog default ⟨#[],#[],[]⟩).heap.size
def yA (h:Array Obj) (g:Nat) (cs:Array Value):Array Obj:=h.modify g fun
 |.cells _ t frozen=>.cells cs t frozen
 |o=>o
noncomputable def laidWorld (os:Os):World:=
 let w0:=World.holding Tryz.prog os ⟨#[.cells #[.string ⟨#[116,111,111,32,109,97,110,121]⟩] 389,
  .cells #[.string ⟨#[110,111,32,115,117,99,104,32,99,111,100,101]⟩] 389,
  .cells #[.string ⟨#[110,111,32,111,98,106,101,99,116]⟩] 389,
  .cells #[.string ⟨#[110,111,32,101,118,101,110,116]⟩] 389,
  .cells #[.string ⟨#[110,111,32,111,112,101,114,97,116,105,111,110,32,111,102,32,116,104,97,116,32,111,98,106,101,99,116]⟩] 389,
  .cells #[.string ⟨#[110,111,32,97,110,115,119,101,114,32,111,102,32,116,104,97,116,32,111,112,101,114,97,116,105,111,110]⟩] 389,
  .cells #[.string ⟨#[110,111,32,115,117,99,104,32,116,114,97,110,115,97,99,116,105,111,110]⟩] 389,
  .cells #[.string ⟨#[105,116,32,104,97,115,32,98,101,103,117,110,32,97,108,114,101,97,100,121]⟩] 389,
  .cells #[.string ⟨#[116,104,101,32,116,104,114,101,97,100,32,105,115,32,98,117,115,121]⟩] 389,
  .cells #[.string ⟨#[105,116,32,100,111,101,115,32,110,111,116,32,99,111,109,101,32,104,101,114,101]⟩] 389,
  .cells #[.string ⟨#[110,111,32,108,101,118,101,108]⟩] 389,
  .cells #[.string ⟨#[116,111,111,32,109,97,110,121,32,116,114,97,110,115,97,99,116,105,111,110,115,32,116,111,32,98,101,32,106,117,100,103,101,100]⟩] 389,
  .cells #[.string ⟨#[116,104,101,32,115,101,97,114,99,104,32,104,97,115,32,115,101,101,110,32,116,111,111,32,109,117,99,104]⟩] 389,
  .cells #[.string ⟨#[116,104,101,114,101,32,105,115,32,110,111,110,101]⟩] 389,
  .cells #[.string ⟨#[110,111,32,112,114,111,103,114,97,109]⟩] 389,
  .cells #[.string ⟨#[105,116,32,119,97,115,32,115,116,111,112,112,101,100]⟩] 389],#[],[]⟩
 let h0:=yA w0.heap 3 #[.iface 375 (.pointer (some ⟨low+0,0,none⟩))]
 let h1:=yA h0 14 #[.iface 375 (.pointer (some ⟨low+1,0,none⟩))]
 let h2:=yA h1 1 #[.iface 375 (.pointer (some ⟨low+2,0,none⟩))]
 let h3:=yA h2 5 #[.iface 375 (.pointer (some ⟨low+3,0,none⟩))]
 let h4:=yA h3 4 #[.iface 375 (.pointer (some ⟨low+4,0,none⟩))]
 let h5:=yA h4 15 #[.iface 375 (.pointer (some ⟨low+5,0,none⟩))]
 let h6:=yA h5 12 #[.iface 375 (.pointer (some ⟨low+6,0,none⟩))]
 let h7:=yA h6 10 #[.iface 375 (.pointer (some ⟨low+7,0,none⟩))]
 let h8:=yA h7 11 #[.iface 375 (.pointer (some ⟨low+8,0,none⟩))]
 let h9:=yA h8 13 #[.iface 375 (.pointer (some ⟨low+9,0,none⟩))]
 let h10:=yA h9 6 #[.iface 375 (.pointer (some ⟨low+10,0,none⟩))]
 let h11:=yA h10 9 #[.iface 375 (.pointer (some ⟨low+11,0,none⟩))]
 let h12:=yA h11 0 #[.iface 375 (.pointer (some ⟨low+12,0,none⟩))]
 let h13:=yA h12 7 #[.iface 375 (.pointer (some ⟨low+13,0,none⟩))]
 let h14:=yA h13 2 #[.iface 375 (.pointer (some ⟨low+14,0,none⟩))]
 let h15:=yA h14 8 #[.iface 375 (.pointer (some ⟨low+15,0,none⟩))]
 let h16:=yA h15 24 #[.int .u8 0,.int .u8 1,.int .u8 28,.int .u8 2,.int .u8 29,.int .u8 14,.int .u8 24,.int .u8 3,.int .u8 30,.int .u8 22,.int .u8 20,.int .u8 15,.int .u8 25,.int .u8 17,.int .u8 4,.int .u8 8,.int .u8 31,.int .u8 27,.int .u8 13,.int .u8 23,.int .u8 21,.int .u8 19,.int .u8 16,.int .u8 7,.int .u8 26,.int .u8 12,.int .u8 18,.int .u8 6,.int .u8 11,.int .u8 5,.int .u8 10,.int .u8 9]
 let h17:=yA h16 25 #[.int .u8 0,.int .u8 1,.int .u8 56,.int .u8 2,.int .u8 57,.int .u8 49,.int .u8 28,.int .u8 3,.int .u8 61,.int .u8 58,.int .u8 42,.int .u8 50,.int .u8 38,.int .u8 29,.int .u8 17,.int .u8 4,.int .u8 62,.int .u8 47,.int .u8 59,.int .u8 36,.int .u8 45,.int .u8 43,.int .u8 51,.int .u8 22,.int .u8 53,.int .u8 39,.int .u8 33,.int .u8 30,.int .u8 24,.int .u8 18,.int .u8 12,.int .u8 5,.int .u8 63,.int .u8 55,.int .u8 48,.int .u8 27,.int .u8 60,.int .u8 41,.int .u8 37,.int .u8 16,.int .u8 46,.int .u8 35,.int .u8 44,.int .u8 21,.int .u8 52,.int .u8 32,.int .u8 23,.int .u8 11,.int .u8 54,.int .u8 26,.int .u8 40,.int .u8 15,.int .u8 34,.int .u8 20,.int .u8 31,.int .u8 10,.int .u8 25,.int .u8 14,.int .u8 19,.int .u8 9,.int .u8 13,.int .u8 8,.int .u8 7,.int .u8 6]
 let h18:=yA h17 23 #[.int .u64 1,.int .u64 10,.int .u64 100,.int .u64 1000,.int .u64 10000,.int .u64 100000,.int .u64 1000000,.int .u64 10000000,.int .u64 100000000,.int .u64 1000000000,.int .u64 10000000000,.int .u64 100000000000,.int .u64 1000000000000,.int .u64 10000000000000,.int .u64 100000000000000,.int .u64 1000000000000000,.int .u64 10000000000000000,.int .u64 100000000000000000,.int .u64 1000000000000000000,.int .u64 10000000000000000000]
 let h19:=yA h18 16 #[.string ⟨#[114,101,103,105,115,116,101,114]⟩,.string ⟨#[99,111,117,110,116,101,114]⟩,.string ⟨#[113,117,101,117,101]⟩,.string ⟨#[109,97,112]⟩]
 let h20:=yA h19 17 #[.string ⟨#[98,101,103,105,110]⟩,.string ⟨#[99,97,108,108]⟩,.string ⟨#[114,101,116,117,114,110]⟩,.string ⟨#[116,114,121]⟩,.string ⟨#[99,111,109,109,105,116]⟩,.string ⟨#[97,98,111,114,116]⟩,.string ⟨#[99,97,110,99,101,108]⟩]
 let h21:=yA h20 18 #[.string ⟨#[114,101,97,100]⟩,.string ⟨#[119,114,105,116,101]⟩,.string ⟨#[97,100,100]⟩,.string ⟨#[103,101,116]⟩,.string ⟨#[101,110,113]⟩,.string ⟨#[100,101,113]⟩,.string ⟨#[112,117,116]⟩,.string ⟨#[108,111,111,107]⟩,.string ⟨#[100,101,108]⟩]
 let h22:=yA h21 19 #[.string ⟨#[111,107]⟩,.string ⟨#[110,111,110,101]⟩,.string ⟨#[118,97,108]⟩]
 let h23:=yA h22 20 #[.string ⟨#[108,105,118,101]⟩,.string ⟨#[112,101,110,100,105,110,103]⟩,.string ⟨#[99,111,109,109,105,116,116,101,100]⟩,.string ⟨#[97,98,111,114,116,101,100]⟩]
 let h24:=yA h23 21 #[.string ⟨#[115,101,114,105,97,108]⟩,.string ⟨#[115,116,114,105,99,116]⟩,.string ⟨#[102,105,110,97,108]⟩,.string ⟨#[111,112,97,113,117,101]⟩]
 {w0 with heap:=h24}
theorem laid_met (os:Os) (args:Array Value):laidMet Tryz.prog Rows.clockOpaqueUptoRow.laid ((laidWorld os).forCall (fun _ _=>0) ⟨#[],args,[]⟩).memory:=
 laidMet_of_run' 8 (by kernel_rfl) (by kernel_rfl)
