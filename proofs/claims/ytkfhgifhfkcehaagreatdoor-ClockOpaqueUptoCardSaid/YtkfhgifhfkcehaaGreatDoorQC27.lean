/- Parts of the proof; the first: Orders that a clock gives: plain lists. Conditions: those of each theorem, as typed. -/
import Derived.Test.YtkfhgifhfkcehaaGreatDoorQC19
import Derived.Test.YtkfhgifhfkcehaaGreatDoorQC20
import Derived.Test.YtkfhgifhfkcehaaGreatDoorQC26
import Derived.Test.YtkfhgifhfkcehaaGreatDoorQC18
set_option linter.unusedVariables false
set_option linter.unusedSimpArgs false
set_option linter.unusedSectionVars false
set_option maxRecDepth 100000
set_option maxHeartbeats 4000000
namespace Go.Proofs.YtkfhgifhfkcehaaGreatDoor
open Go.Maps Go.RowKit
abbrev Cmap:=Nat->Option Int
def ovr (wr:Cmap) (ρ:List Int):List Int:=ρ.mapIdx fun k x=>(wr k).getD x
theorem ovr_len (wr:Cmap) (ρ:List Int):(ovr wr ρ).length=ρ.length:=by simp[ovr]
theorem ovr_get (wr:Cmap) (ρ:List Int) (k:Nat):(ovr wr ρ)[k]?=ρ[k]?.map fun x=>(wr k).getD x:=by simp[ovr]
theorem ovr_none {wr:Cmap} {ρ:List Int} (h:∀k,k < ρ.length->wr k=none):ovr wr ρ=ρ:=by
 refine List.ext_getElem? fun k=>?_;rw[ovr_get];by_cases hk:k < ρ.length
 ·rw [h k hk];cases ρ[k]? <;> rfl
 ·rw [List.getElem?_eq_none (by omega)];rfl
def RepC (n:Nat) (rd wr:Cmap) (l:List Dd):Prop:=∀ρ:List Int,ρ.length=n->(∀k v,k < n->rd k=some v->ρ[k]?=some v)->rep ρ l=some (ovr wr ρ)
def upC (f:Cmap) (c:Nat) (v:Int):Cmap:=fun k=>if k=c then some v else f k
section
variable {n c:Nat} {rd wr:Cmap} {l:List Dd} {d:Dd} {v:Int}
theorem RepC.nil:RepC n rd (fun _=>none) []:=fun ρ _ _=>by rw[ovr_none fun _ _=>rfl];rfl
theorem RepC.call (h:RepC n rd wr l) (hd:d.ret=0):RepC n rd wr (l++[d]):=fun ρ hl hr=>by rw[rep_call hd];exact h ρ hl hr
theorem RepC.uncall (h:RepC n rd wr (l++[d])) (hd:d.ret=0):RepC n rd wr l:=fun ρ hl hr=>by rw[←rep_call hd];exact h ρ hl hr
theorem RepC.read (h:RepC n rd wr l) (hc:c < n) (h1:d.obj=c) (h2:d.op=1) (h3:d.ret=3) (h4:d.got=v) (hw:wr c=none) (hv:∀u,rd c=some u->u=v):RepC n (upC rd c v) wr (l++[d]):=by
 intro ρ hl hr;have hcv:ρ[c]?=some v:=hr c v hc (by simp[upC]);rw[rep_snoc (h ρ hl fun k u hk hu=>hr k u hk (by
  unfold upC
  split
  ·rename_i e;subst e;rw[hv u hu]
  ·exact hu))]
 have hg:(ovr wr ρ)[d.obj.toNat]?=some d.got:=by
  rw[h1,Int.toNat_natCast,ovr_get,hcv,hw,h4];rfl
 unfold doD;rw[if_neg (by omega),if_neg (by omega),if_pos ⟨h3,hg⟩]
theorem RepC.kept (h:RepC n rd wr l) (hc:c < n) (h1:d.obj=c) (h2:d.op=1) (h3:d.ret=3) (h4:d.got=v) (hw:wr c=some v):RepC n rd wr (l++[d]):=by
 intro ρ hl hr;rw[rep_snoc (h ρ hl hr)];have hg:(ovr wr ρ)[d.obj.toNat]?=some d.got:=by
  rw[h1,Int.toNat_natCast,ovr_get,List.getElem?_eq_getElem (by omega),hw,h4];rfl
 unfold doD;rw[if_neg (by omega),if_neg (by omega),if_pos ⟨h3,hg⟩]
theorem RepC.wrote (h:RepC n rd wr l) (hc:c < n) (h1:d.obj=c) (h2:d.op=2) (h3:d.ret=1) (h4:d.got=0) (h5:d.val=v):RepC n rd (upC wr c v) (l++[d]):=by
 intro ρ hl hr;rw[rep_snoc (h ρ hl hr)];unfold doD;rw[if_neg (by omega),if_pos h2,if_pos ⟨h3,h4⟩,h1,Int.toNat_natCast,h5];congr 1;refine List.ext_getElem? fun k=>?_;rw[ovr_get,List.getElem?_set,ovr_get,ovr_len];unfold upC;by_cases e:c=k
 ·subst e
  rw[if_pos rfl,if_pos (by omega),if_pos rfl,List.getElem?_eq_getElem (by omega)];rfl
 ·rw [if_neg e,if_neg (fun h=>e h.symm)]
end
structure Gh where
 rd:Int->Cmap
 wr:Int->Cmap
 tm:Int->Nat
 nw:Int->Nat
 mem:Nat->List Int
structure GInv (cells:List Int) (A:Au) (g:Gh) (clk:Nat):Prop where
 rep:∀s ∈ A,RepC cells.length (g.rd s.id) (g.wr s.id) s.deeds
 len:∀c,(g.mem c).length=cells.length
 tm:∀s ∈ A,g.tm s.id<=clk
 nw:∀s ∈ A,g.nw s.id≠0->g.tm s.id < g.nw s.id/\g.nw s.id<=clk
 inj:∀s ∈ A,∀u ∈ A,g.nw s.id≠0->g.nw s.id=g.nw u.id->s.id=u.id
 old:∀s ∈ A,g.nw s.id=0->∀k v,k < cells.length->g.rd s.id k=some v->(g.mem (g.tm s.id))[k]?=some v
 new:∀s ∈ A,g.nw s.id≠0->(∀k v,k < cells.length->g.rd s.id k=some v->(g.mem (g.nw s.id - 1))[k]?=some v)/\g.mem (g.nw s.id)=ovr (g.wr s.id) (g.mem (g.nw s.id - 1))
 gap:∀c,0 < c->(∀s ∈ A,g.nw s.id≠c)->g.mem c=g.mem (c - 1)
 zero:g.mem 0=cells
 st:∀s ∈ A,g.nw s.id≠0->s.status=2\/s.status=3
 ro:∀s ∈ A,s.status=3->g.nw s.id=0->∀k,g.wr s.id k=none
 time:∀s ∈ A,∀u ∈ A,0<=s.fin->s.fin < u.beg->g.tm s.id<=g.tm u.id/\g.nw s.id<=g.tm u.id
section
variable {cells:List Int} {A:Au} {g:Gh} {clk:Nat}
def Gh.key (g:Gh) (s:St):Nat:=if g.nw s.id=0 then 2*g.tm s.id+1 else 2*g.nw s.id
def Gh.le (g:Gh) (s u:St):Bool:=decide (g.key s < g.key u)||(g.key s==g.key u&&decide (s.beg<=u.beg))
def Gh.com (g:Gh) (s:St):Bool:=decide (g.nw s.id≠0)||decide (s.status=3)
theorem Gh.le_key {s u:St} (h:g.le s u=true):g.key s<=g.key u:=by
 unfold Gh.le at h;simp only[Bool.or_eq_true,Bool.and_eq_true,decide_eq_true_eq,beq_iff_eq] at h;omega
theorem GInv.const (h:GInv cells A g clk) {a:Nat}:∀{b:Nat},a<=b->(∀s ∈ A,a < g.nw s.id->¬g.nw s.id<=b)->g.mem b=g.mem a
 |0,hb,_=>by rw[show a=0 by omega]
 |b+1,hb,hn=>by
  rcases Nat.lt_or_eq_of_le hb with hlt|rfl
  ·rw [h.gap (b+1) (by omega) fun s hs e=>hn s hs (by omega) (by omega)]
   exact h.const (by omega) fun s hs h1 h2=>hn s hs h1 (by omega)
  ·rfl
theorem GInv.plays (h:GInv cells A g clk) (hn:(A.map (·.id)).Nodup):∀(L:List St) (c:Nat),L.Pairwise (fun s u=>g.le s u=true)->(∀s ∈ L,s ∈ A)->(L.map (·.id)).Nodup->(∀s ∈ A,c < g.nw s.id->s ∈ L)->(∀s ∈ L,2*c < g.key s)->
  ∃σ,playO (deedsOf A) true (g.mem c) (L.map fun s=>(s.id,g.com s))=some σ
 |[],c,_,_,_,_,_=>⟨_,rfl⟩
 |x::L,c,hp,hA,hd,hall,hk=>by
  have hx:=hA x (List.mem_cons_self ..);obtain⟨hp1,hp2⟩:=List.pairwise_cons.1 hp;have hd2:=(List.nodup_cons.1 (by simpa using hd:(x.id::L.map (·.id)).Nodup))
  have hkx:=hk x (List.mem_cons_self ..);have hlen:=h.len;simp only[List.map_cons,playO];by_cases h0:g.nw x.id=0
  ·have hkey:g.key x=2*g.tm x.id+1:=by unfold Gh.key;rw[if_pos h0]
   have hm:g.mem (g.tm x.id)=g.mem c:=h.const (by omega) fun s hs h1 h2=>by
    rcases List.mem_cons.1 (hall s hs h1) with rfl|hs2
    ·omega
    ·have:=Gh.le_key (hp1 s hs2)
     have hks:g.key s=2*g.nw s.id:=by unfold Gh.key;rw[if_neg (by omega)]
     omega
   have hr:=h.rep x hx (g.mem c) (hlen c) fun k v hk hv=>by rw[←hm];exact h.old x hx h0 k v hk hv
   have hs:stepO (deedsOf A) true (g.mem c) (x.id,g.com x)=some (g.mem c):=by
    unfold stepO;rw[if_neg (by simp),deedsOf_id hn hx,hr];simp only
    split
    ·rename_i hc
     have h3:x.status=3:=by simpa[Gh.com,h0] using hc
     rw[ovr_none fun k _=>h.ro x hx h3 h0 k]
    ·rfl
   rw[hs];simp only;rw[←hm];refine h.plays hn L (g.tm x.id) hp2 (fun s hs=>hA s (List.mem_cons_of_mem _ hs)) hd2.2 (fun s hs h1=>?_) fun s hs=>?_
   ·rcases List.mem_cons.1 (hall s hs (by omega)) with rfl|h2
    ·omega
    ·exact h2
   ·have:=Gh.le_key (hp1 s hs);omega
  ·have hkey:g.key x=2*g.nw x.id:=by unfold Gh.key;rw[if_neg h0]
   have hm:g.mem (g.nw x.id - 1)=g.mem c:=h.const (by omega) fun s hs h1 h2=>by
    rcases List.mem_cons.1 (hall s hs h1) with rfl|hs2
    ·omega
    ·have:=Gh.le_key (hp1 s hs2)
     have hks:g.key s=2*g.nw s.id:=by unfold Gh.key;rw[if_neg (by omega)]
     omega
   obtain⟨hn1,hn2⟩:=h.new x hx h0;have hr:=h.rep x hx (g.mem c) (hlen c) fun k v hk hv=>by rw[←hm];exact hn1 k v hk hv
   have hs:stepO (deedsOf A) true (g.mem c) (x.id,g.com x)=some (g.mem (g.nw x.id)):=by
    unfold stepO;rw[if_neg (by simp),deedsOf_id hn hx,hr];simp only;rw[if_pos (by simp[Gh.com,h0]),←hm,hn2]
   rw[hs];simp only;refine h.plays hn L (g.nw x.id) hp2 (fun s hs=>hA s (List.mem_cons_of_mem _ hs)) hd2.2 (fun s hs h1=>?_) fun s hs=>?_
   ·rcases List.mem_cons.1 (hall s hs (by omega)) with rfl|h2
    ·omega
    ·exact h2
   ·have h1:=Gh.le_key (hp1 s hs)
    rcases Nat.lt_or_eq_of_le (show 2*g.nw x.id<=g.key s by omega) with h2|h2
    ·exact h2
    ·exfalso
     unfold Gh.key at h2
     split at h2
     ·omega
     ·have:=h.inj x hx s (hA s (List.mem_cons_of_mem _ hs)) h0 (by omega)
      exact hd2.1 (by rw[this];exact List.mem_map_of_mem (f:=fun s:St=>s.id) hs)
theorem GInv.ends (h:GInv cells A g clk) (hn:(A.map (·.id)).Nodup) {N:Nat} (ht:∀s ∈ A,0<=s.beg/\s.beg < N/\(s.fin=-1\/s.beg < s.fin/\s.fin < N)) (hs3:∀s ∈ A,s.status=3\/s.status≠3):(gmOf 3 A).Ends (0,cells):=by
 have hperm:=List.mergeSort_perm A g.le;have tot:∀a b:St,(g.le a b||g.le b a)=true:=fun a b=>by
  unfold Gh.le;simp only[Bool.or_eq_true,Bool.and_eq_true,decide_eq_true_eq,beq_iff_eq];omega
 have tra:∀a b c:St,g.le a b=true->g.le b c=true->g.le a c=true:=fun a b c h1 h2=>by
  unfold Gh.le at *;simp only[Bool.or_eq_true,Bool.and_eq_true,decide_eq_true_eq,beq_iff_eq] at *;omega
 have hpw:=List.pairwise_mergeSort tra tot A;obtain⟨L,hL⟩:∃L,L=A.mergeSort g.le:=⟨_,rfl⟩
 rw[←hL] at hperm hpw;have hmem:∀s,s ∈ L↔s ∈ A:=fun s=>hperm.mem_iff;have hnL:(L.map (·.id)).Nodup:=(hperm.map (·.id)).nodup_iff.2 hn;obtain⟨σ,hσ⟩:=h.plays hn L 0 hpw (fun s hs=>(hmem s).1 hs) hnL (fun s hs _=>(hmem s).2 hs) fun s hs=>by
  unfold Gh.key;split <;> omega
 rw[h.zero] at hσ;have com_of:∀s ∈ A,∀c,(s.id,c) ∈ L.map (fun s=>(s.id,g.com s))->c=g.com s:=fun s hs c hc=>by
  obtain⟨u,hu,he⟩:=List.mem_map.1 hc;simp only[Prod.mk.injEq] at he;rw[←he.2,yG hn hs ((hmem u).1 hu) he.1.symm]
 refine ends_gm (n:=N) (ord:=L.map fun s=>(s.id,g.com s)) (τ:=σ) (.inr (.inr rfl)) hn ⟨?_,?_,fun s hs=>?_⟩ (fun s hs c hc=>?_) (fun s hs=>by have:=ht s hs;omega) (by simpa using hσ)
 ·rw [List.map_map]
  exact hperm.map (·.id)
 ·refine List.pairwise_map.2 (hpw.imp_of_mem fun {s u} hs hu hle=>?_)
  have hsA:=(hmem s).1 hs;have huA:=(hmem u).1 hu;rintro a ha b hb hea heb ⟨h1,h2⟩;rw[yG hn ha hsA hea] at h2;rw[yG hn hb huA heb] at h1 h2;obtain⟨t1,t2⟩:=h.time u huA s hsA h1 h2;have hu':=ht u huA;have hks:2*g.tm s.id+1<=g.key s:=by
   unfold Gh.key
   split
   ·exact Nat.le_refl _
   ·rename_i h0;have:=(h.nw s hsA h0).1;omega
  have hku:g.key u<=2*g.tm s.id+1:=by unfold Gh.key;split <;> omega
  unfold Gh.le at hle;simp only[Bool.or_eq_true,Bool.and_eq_true,decide_eq_true_eq,beq_iff_eq] at hle;omega
 ·have:=ht s hs;omega
 ·rw [com_of s hs c hc]
  unfold Gh.com;constructor
  ·intro hh
   simp only[Bool.or_eq_true,decide_eq_true_eq] at hh;rcases hh with h1|h1
   ·rcases h.st s hs h1 with h2|h2
    ·exact .inr h2
    ·exact .inl h2
   ·exact .inl h1
  ·intro hh
   simp only[Bool.or_eq_false_iff,decide_eq_false_iff_not] at hh;exact hh.2
end
def upG {α:Type} (f:Int->α) (x:Int) (v:α):Int->α:=fun y=>if y=x then v else f y
theorem qS {α:Type} {f:Int->α} {x:Int} {v:α}:upG f x v x=v:=if_pos rfl
theorem qO {α:Type} {f:Int->α} {x y:Int} {v:α} (h:y≠x):upG f x v y=f y:=if_neg h
section
variable {cells:List Int} {A:Au} {g:Gh} {clk:Nat}
theorem GInv.begun (h:GInv cells A g clk) {s:St} (hno:¬hasId s.id A) (hd:s.deeds=[]) (hst:s.status=1) (hf:s.fin=-1) (hb:∀u ∈ A,u.beg < s.beg):
  GInv cells (A++[s]) {g with rd:=upG g.rd s.id fun _=>none,wr:=upG g.wr s.id fun _=>none,tm:=upG g.tm s.id clk,nw:=upG g.nw s.id 0} clk:=by
 have ne:∀u ∈ A,u.id≠s.id:=fun u hu e=>hno ⟨u,hu,e⟩;have sp:∀u ∈ A++[s],u ∈ A\/u=s:=fun u hu=>by simpa using hu
 refine⟨fun u hu=>?_,h.len,fun u hu=>?_,fun u hu=>?_,fun u hu v hv=>?_,fun u hu=>?_,fun u hu=>?_,fun c hc hn=>?_,h.zero,fun u hu=>?_,fun u hu=>?_,fun u hu v hv=>?_⟩
 ·rcases sp u hu with h1|rfl
  ·simp only[qO (ne u h1)];exact h.rep u h1
  ·simp only[qS];rw[hd];exact RepC.nil
 ·rcases sp u hu with h1|rfl
  ·simp only[qO (ne u h1)];exact h.tm u h1
  ·simp only[qS];exact Nat.le_refl _
 ·rcases sp u hu with h1|rfl
  ·simp only[qO (ne u h1)];exact h.nw u h1
  ·simp only[qS];intro h;exact absurd rfl h
 ·rcases sp u hu with h1|rfl
  ·rcases sp v hv with h2|rfl
   ·simp only[qO (ne u h1),qO (ne v h2)];exact h.inj u h1 v h2
   ·simp only[qO (ne u h1),qS];intro h3 h4;exact absurd h4 h3
  ·simp only[qS];intro h;exact absurd rfl h
 ·rcases sp u hu with h1|rfl
  ·simp only[qO (ne u h1)];exact h.old u h1
  ·simp only[qS];intro _ k v _ hv;cases hv
 ·rcases sp u hu with h1|rfl
  ·simp only[qO (ne u h1)];exact h.new u h1
  ·simp only[qS];intro h;exact absurd rfl h
 ·exact h.gap c hc fun u hu=>by have:=hn u (List.mem_append_left _ hu);simpa only[qO (ne u hu)] using this
 ·rcases sp u hu with h1|rfl
  ·simp only[qO (ne u h1)];exact h.st u h1
  ·simp only[qS];intro h;exact absurd rfl h
 ·rcases sp u hu with h1|rfl
  ·simp only[qO (ne u h1)];exact h.ro u h1
  ·intro h3;rw[hst] at h3;omega
 ·rcases sp u hu with h1|rfl
  ·rcases sp v hv with h2|rfl
   ·simp only[qO (ne u h1),qO (ne v h2)];exact h.time u h1 v h2
   ·simp only[qO (ne u h1),qS]
    intro _ _;refine⟨h.tm u h1,?_⟩;by_cases h0:g.nw u.id=0
    ·omega
    ·exact (h.nw u h1 h0).2
  ·intro h0;rw[hf] at h0;omega
theorem GInv.turn (h:GInv cells A g clk) (hn:(A.map (·.id)).Nodup) {k:Nat} {s s':St} (hs:A[k]?=some s) (qj:s'.id=s.id) (hbeg:s'.beg=s.beg) {rd wr:Cmap} (hr:RepC cells.length rd wr s'.deeds)
  (hold:g.nw s.id=0->∀k v,k < cells.length->rd k=some v->(g.mem (g.tm s.id))[k]?=some v) (hnew:g.nw s.id≠0->rd=g.rd s.id/\wr=g.wr s.id) (hst:g.nw s.id≠0->s'.status=2\/s'.status=3) (hro:s'.status=3->g.nw s.id=0->∀k,wr k=none)
  (hfin:s'.fin=s.fin\/∀u ∈ A,u.beg < s'.fin):GInv cells (A.set k s') {g with rd:=upG g.rd s.id rd,wr:=upG g.wr s.id wr} clk:=by
 have hsA:=List.mem_of_getElem? hs;have sp:∀u ∈ A.set k s',u=s'\/u ∈ A/\u.id≠s.id:=fun u hu=>mem_set hs hu hn;refine⟨fun u hu=>?_,h.len,fun u hu=>?_,fun u hu=>?_,fun u hu v hv=>?_,fun u hu=>?_,fun u hu=>?_,fun c hc hgap=>?_,h.zero,fun u hu=>?_,fun u hu=>?_,fun u hu v hv=>?_⟩
 ·rcases sp u hu with rfl|⟨h1,h2⟩
  ·simp only[qj,qS];exact hr
  ·simp only[qO h2];exact h.rep u h1
 ·rcases sp u hu with rfl|⟨h1,h2⟩
  ·rw [qj];exact h.tm s hsA
  ·exact h.tm u h1
 ·rcases sp u hu with rfl|⟨h1,h2⟩
  ·rw [qj];exact h.nw s hsA
  ·exact h.nw u h1
 ·have e1:∃u0 ∈ A,u0.id=u.id:=by rcases sp u hu with rfl|⟨h1,-⟩;exact⟨s,hsA,qj.symm⟩;exact⟨u,h1,rfl⟩
  have e2:∃v0 ∈ A,v0.id=v.id:=by rcases sp v hv with rfl|⟨h1,-⟩;exact⟨s,hsA,qj.symm⟩;exact⟨v,h1,rfl⟩
  obtain⟨u0,hu0,eu⟩:=e1;obtain⟨v0,hv0,ev⟩:=e2;have:=h.inj u0 hu0 v0 hv0;rw[eu,ev] at this;exact this
 ·rcases sp u hu with rfl|⟨h1,h2⟩
  ·simp only[qj,qS];exact hold
  ·simp only[qO h2];exact h.old u h1
 ·rcases sp u hu with rfl|⟨h1,h2⟩
  ·simp only[qj,qS]
   intro h0;obtain⟨e1,e2⟩:=hnew h0;rw[e1,e2];exact h.new s hsA h0
  ·simp only[qO h2];exact h.new u h1
 ·refine h.gap c hc fun u hu=>?_
  by_cases e:u.id=s.id
  ·have:=hgap s' (zg hs);rw[e];rwa [qj] at this
  ·exact hgap u (set_mem hs hu e)
 ·rcases sp u hu with rfl|⟨h1,h2⟩
  ·simp only[qj];exact hst
  ·exact h.st u h1
 ·rcases sp u hu with rfl|⟨h1,h2⟩
  ·simp only[qj,qS];exact hro
  ·simp only[qO h2];exact h.ro u h1
 ·have hbA:∀x ∈ A.set k s',∃x0 ∈ A,x0.id=x.id/\x0.beg=x.beg:=fun x hx=>by
   rcases sp x hx with rfl|⟨h1,-⟩
   ·exact ⟨s,hsA,qj.symm,hbeg.symm⟩
   ·exact ⟨x,h1,rfl,rfl⟩
  obtain⟨v0,hv0,ev,eb⟩:=hbA v hv;intro h0 h1;rw[←ev];rw[←eb] at h1;rcases sp u hu with rfl|⟨h2,-⟩
  ·rw [qj]
   rcases hfin with e|hf
   ·rw [e] at h0 h1;exact h.time s hsA v0 hv0 h0 h1
   ·have:=hf v0 hv0;omega
  ·exact h.time u h2 v0 hv0 h0 h1
theorem GInv.tick (h:GInv cells A g clk) {c:Nat} (hc:clk<=c):GInv cells A g c:=
 ⟨h.rep,h.len,fun s hs=>Nat.le_trans (h.tm s hs) hc,fun s hs h0=>⟨(h.nw s hs h0).1,Nat.le_trans (h.nw s hs h0).2 hc⟩,h.inj,h.old,h.new,h.gap,h.zero,h.st,h.ro,h.time⟩
theorem ovr_comm {a b:Cmap} {ρ:List Int} (h:∀k,k < ρ.length->a k=none\/b k=none):ovr a (ovr b ρ)=ovr b (ovr a ρ):=by
 refine List.ext_getElem? fun k=>?_;simp only[ovr_get];by_cases hk:k < ρ.length
 ·rw [List.getElem?_eq_getElem hk]
  rcases h k hk with e|e <;> simp[e]
 ·rw [List.getElem?_eq_none (by omega)];rfl
theorem ovr_at {a:Cmap} {ρ:List Int} {k:Nat} (h:a k=none):(ovr a ρ)[k]?=ρ[k]?:=by
 rw[ovr_get,h];cases ρ[k]? <;> rfl
theorem GInv.valid (h:GInv cells A g clk) (hn:(A.map (·.id)).Nodup) {s:St} (hs:s ∈ A) (h0:g.nw s.id=0) {now:Nat} (h1:g.tm s.id < now) (h2:now<=clk) (hne:∀u ∈ A,g.nw u.id≠now) (hst:s.status=2\/s.status=3) (hf:s.fin < 0)
  (hrd:∀k v,k < cells.length->g.rd s.id k=some v->(g.mem (now - 1))[k]?=some v)
  (hA:∀u ∈ A,u.id≠s.id->g.nw u.id=0->now<=g.tm u.id->∀k,k < cells.length->(g.wr s.id k).isSome=true->g.rd u.id k=none)
  (hB:∀u ∈ A,now < g.nw u.id->∀k,k < cells.length->(g.wr s.id k).isSome=true->g.rd u.id k=none/\g.wr u.id k=none):
  GInv cells A {g with nw:=upG g.nw s.id now,mem:=fun c=>if now<=c then ovr (g.wr s.id) (g.mem c) else g.mem c} clk:=by
 have hpos:0 < now:=by omega
 have lt:∀{c:Nat},c < now->(if now<=c then ovr (g.wr s.id) (g.mem c) else g.mem c)=g.mem c:=fun hc=>if_neg (by omega);have ge:∀{c:Nat},now<=c->(if now<=c then ovr (g.wr s.id) (g.mem c) else g.mem c)=ovr (g.wr s.id) (g.mem c):=fun hc=>if_pos hc;refine⟨h.rep,fun c=>?_,h.tm,fun u hu=>?_,fun u hu v hv=>?_,fun u hu=>?_,fun u hu=>?_,fun c hc hgap=>?_,?_,fun u hu=>?_,fun u hu=>?_,fun u hu v hv=>?_⟩
 ·show (if now<=c then ovr (g.wr s.id) (g.mem c) else g.mem c).length=_
  split
  ·rw [ovr_len];exact h.len c
  ·exact h.len c
 ·by_cases e:u.id=s.id
  ·simp only[e,qS];intro _;exact⟨h1,h2⟩
  ·simp only[qO e];exact h.nw u hu
 ·by_cases e:u.id=s.id
  ·by_cases e2:v.id=s.id
   ·intro _ _;rw[e,e2]
   ·simp only[e,qS,qO e2];intro _ h3;exact absurd h3.symm (hne v hv)
  ·by_cases e2:v.id=s.id
   ·simp only[e2,qS,qO e];intro _ h3;exact absurd h3 (hne u hu)
   ·simp only[qO e,qO e2];exact h.inj u hu v hv
 ·by_cases e:u.id=s.id
  ·simp only[e,qS];intro h3;omega
  ·simp only[qO e]
   intro h3 k v hk hv;show(if now<=g.tm u.id then ovr (g.wr s.id) (g.mem (g.tm u.id)) else g.mem (g.tm u.id))[k]?=some v
   split
   ·rename_i hle
    have hw:g.wr s.id k=none:=by
     cases hw:g.wr s.id k with
     |none=>rfl
     |some x=>have:=hA u hu e h3 hle k hk (by rw[hw];rfl);rw[this] at hv;cases hv
    rw[ovr_at hw];exact h.old u hu h3 k v hk hv
   ·exact h.old u hu h3 k v hk hv
 ·by_cases e:u.id=s.id
  ·simp only[e,qS]
   intro _;rw[lt (show now - 1 < now by omega),ge (Nat.le_refl _)];refine⟨hrd,?_⟩;rw[h.gap now hpos hne]
  ·simp only[qO e]
   intro h3;obtain⟨k1,k2⟩:=h.new u hu h3;have hun:=hne u hu;rcases Nat.lt_or_ge now (g.nw u.id) with hgt|hle
   ·have hh:=hB u hu hgt
    rw[ge (show now<=g.nw u.id - 1 by omega),ge (Nat.le_of_lt hgt)];refine⟨fun k v hk hv=>?_,?_⟩
    ·have hw:g.wr s.id k=none:=by
      cases hw:g.wr s.id k with
      |none=>rfl
      |some x=>have:=(hh k hk (by rw[hw];rfl)).1;rw[this] at hv;cases hv
     rw[ovr_at hw];exact k1 k v hk hv
    ·rw [k2]
     refine ovr_comm fun k hk=>?_;rw[h.len] at hk;cases hw:g.wr s.id k with
     |none=>exact .inl rfl
     |some x=>exact .inr (hh k hk (by rw[hw];rfl)).2
   ·rw [lt (show g.nw u.id - 1 < now by omega),lt (show g.nw u.id < now by omega)]
    exact⟨k1,k2⟩
 ·show (if now<=c then ovr (g.wr s.id) (g.mem c) else g.mem c)=if now<=c - 1 then ovr (g.wr s.id) (g.mem (c - 1)) else g.mem (c - 1)
  have hcn:c≠now:=fun e=>by have:=hgap s hs;simp only[qS] at this;exact this e.symm
  have hg2:g.mem c=g.mem (c - 1):=h.gap c hc fun u hu=>by
   by_cases e:u.id=s.id
   ·rw [e,h0];omega
   ·have:=hgap u hu;simpa only[qO e] using this
  by_cases hle:now<=c
  ·rw [ge hle,ge (show now<=c - 1 by omega),hg2]
  ·rw [lt (by omega),lt (by omega),hg2]
 ·show (if now<=0 then _ else g.mem 0)=cells
  rw[lt hpos];exact h.zero
 ·by_cases e:u.id=s.id
  ·intro _;rw[yG hn hu hs e];exact hst
  ·simp only[qO e];exact h.st u hu
 ·by_cases e:u.id=s.id
  ·simp only[e,qS];intro _ h3;omega
  ·simp only[qO e];exact h.ro u hu
 ·intro k1 k2
  by_cases e:u.id=s.id
  ·have:=yG hn hu hs e
   rw[this] at k1;omega
  ·have h3:=h.time u hu v hv k1 k2
   simp only[qO e];exact h3
end
structure GlobT (w:World):Prop where
 prog:GlobP w
 words:xa w
 ans:ErrAt 15 w
theorem GlobT.below {w w':World} (h:GlobT w) (hb:Below w.heap.size w w'):GlobT w':=⟨h.prog.below hb,h.words.below hb,h.ans.below hb⟩
