/- Parts of the proof; the first: The game of a table of transactions: an order that explains them leads to the end. Conditions: those of each theorem, as typed. -/
import Derived.Test.YtkfhgifhfkcehaaGreatDoorQC19
import Derived.Test.YtkfhgifhfkcehaaGreatDoorQC15
set_option linter.unusedVariables false
set_option linter.unusedSimpArgs false
set_option linter.unusedSectionVars false
set_option maxRecDepth 100000
set_option maxHeartbeats 4000000
namespace Go.Proofs.YtkfhgifhfkcehaaGreatDoor
def yM (f:Nat->Bool):Nat->Nat
 |0=>0
 |n+1=>yM f n|||(if f n then 2 ^ n else 0)
theorem maskN_bit (f:Nat->Bool):∀(n j:Nat),(yM f n).testBit j=(decide (j < n)&&f j)
 |0,j=>by simp[yM]
 |n+1,j=>by
  simp only[yM,Nat.testBit_or,maskN_bit f n j];by_cases e:n=j
  ·subst e
   cases hf:f n <;> simp
  ·by_cases hl:j < n
   ·have h1:j < n+1:=by omega
    cases hf:f n <;> simp[hl,h1,Nat.testBit_two_pow,e]
   ·have h1:¬j < n+1:=by omega
    cases hf:f n <;> simp[hl,h1,Nat.testBit_two_pow,e]
theorem maskN_lt (f:Nat->Bool):∀n,yM f n < 2 ^ n
 |0=>by simp[yM]
 |n+1=>by
  have:=maskN_lt f n;simp only[yM];refine Nat.or_lt_two_pow (by rw[Nat.pow_succ];omega) ?_
  split
  ·rw [Nat.pow_succ];have:=Nat.two_pow_pos n;omega
  ·exact Nat.two_pow_pos _
def cntd (lev:Int) (s:St):Bool:=if lev=1\/lev=2 then decide (s.status=3\/s.status=2) else decide (lev=3)
def rly (a b:St):Bool:=decide (0<=a.fin)&&decide (a.fin < b.beg)
def mskF (lev:Int) (l:List St) (b:St) (i:Nat):Bool:=match l[i]? with
 |some a=>decide (lev≠1)&&rly a b
 |none=>false
def mskOf (lev:Int) (l:List St) (b:St):Nat:=yM (mskF lev l b) l.length
def gmOf (lev:Int) (A:Au):Gm:=⟨lev,A.filter (cntd lev),(A.filter (cntd lev)).map (mskOf lev (A.filter (cntd lev)))⟩
theorem filter_nodup_ids {A:Au} (hn:(A.map (·.id)).Nodup) (f:St->Bool) {i j:Nat} {s u:St} (hs:(A.filter f)[i]?=some s) (hu:(A.filter f)[j]?=some u) (he:s.id=u.id):i=j:=by
 have hn':((A.filter f).map (·.id)).Nodup:=hn.sublist (List.filter_sublist.map _);have hl:i < ((A.filter f).map (·.id)).length:=by have:=(List.getElem?_eq_some_iff.1 hs).1;simpa using this
 exact(List.getElem?_inj hl hn' (j:=j)).1 (by simp only[List.getElem?_map,hs,hu,Option.map_some,he])
theorem yG {A:Au} (hn:(A.map (·.id)).Nodup) {s u:St} (hs:s ∈ A) (hu:u ∈ A) (he:s.id=u.id):s=u:=by
 have h1:=find_id hn hs;have h2:=find_id hn hu;rw[he] at h1;rw[h1] at h2;exact Option.some.inj h2
def ComOk (A:Au) (ord:List (Int×Bool)):Prop:=∀s ∈ A,∀c,(s.id,c) ∈ ord->(c=true->s.status=3\/s.status=2)/\(c=false->s.status≠3)
theorem ends_gm {lev:Int} (hlev:lev=1\/lev=2\/lev=3) {A:Au} {n:Nat} {ord:List (Int×Bool)} {σ τ:List Int} (hn:(A.map (·.id)).Nodup) (ho:OrdOk A n ord) (hc:ComOk A ord) (htm:∀s ∈ A,s.fin=-1\/s.beg < s.fin)
  (hp:playO (deedsOf A) (decide (lev=3)) σ ord=some τ):(gmOf lev A).Ends (0,σ):=by
 let inc:Int×Bool->Bool:=fun p=>A.any fun s=>s.id==p.1&&cntd lev s
 have inc_id:∀(s:St) (c:Bool),s ∈ A->inc (s.id,c)=cntd lev s:=fun s c hs=>by
  show(A.any fun u=>u.id==s.id&&cntd lev u)=_;cases h:cntd lev s with
  |true=>exact List.any_eq_true.2 ⟨s,hs,by simp[h]⟩
  |false=>
   refine Bool.eq_false_iff.2 fun hA=>?_;obtain⟨u,hu,h2⟩:=List.any_eq_true.1 hA;simp only[Bool.and_eq_true,beq_iff_eq] at h2;have:=yG hn hu hs h2.1;subst this;rw[h] at h2;exact absurd h2.2 (by simp)
 have hord:=ho.nodup hn;have hfilter:playO (deedsOf A) (decide (lev=3)) σ (ord.filter inc)=some τ:=by
  rcases hlev with rfl|rfl|rfl
  ·refine playO_filter (fun q hq hf=>?_) hp
   obtain⟨s,hs,he⟩:=ho.mem hq;obtain⟨qi,qc⟩:=q;simp only at he;subst he;rw[inc_id s qc hs] at hf;cases qc with
   |false=>rfl
   |true=>
    have:=(hc s hs true hq).1 rfl;simp[cntd] at hf;omega
  ·refine playO_filter (fun q hq hf=>?_) hp
   obtain⟨s,hs,he⟩:=ho.mem hq;obtain⟨qi,qc⟩:=q;simp only at he;subst he;rw[inc_id s qc hs] at hf;cases qc with
   |false=>rfl
   |true=>
    have:=(hc s hs true hq).1 rfl;simp[cntd] at hf;omega
  ·have:ord.filter inc=ord:=List.filter_eq_self.2 fun q hq=>by
    obtain⟨s,hs,he⟩:=ho.mem hq;obtain⟨qi,qc⟩:=q;simp only at he;subst he;rw[inc_id s qc hs];simp[cntd]
   rw[this];exact hp
 have memF:∀{p:Int×Bool},p ∈ ord.filter inc↔p ∈ ord/\∃s ∈ A,s.id=p.1/\cntd lev s=true:=fun {p}=>by
  rw[List.mem_filter];constructor
  ·rintro ⟨h1,h2⟩
   obtain⟨s,hs,h3⟩:=List.any_eq_true.1 h2;simp only[Bool.and_eq_true,beq_iff_eq] at h3;exact⟨h1,s,hs,h3⟩
  ·rintro ⟨h1,s,hs,h2,h3⟩
   exact⟨h1,List.any_eq_true.2 ⟨s,hs,by simp[h2,h3]⟩⟩
 have qj:∀{s:St},s ∈ (gmOf lev A).txs->s.id ∈ (ord.filter inc).map (·.1):=fun {s} hs=>by
  have hs':=List.mem_filter.1 hs;obtain⟨c,hcm⟩:=ho.has hs'.1;exact List.mem_map.2 ⟨(s.id,c),memF.2 ⟨hcm,s,hs'.1,rfl,hs'.2⟩,rfl⟩
 refine ends_suf (deedsOf A) (fun s hs=>deedsOf_id hn (List.mem_filter.1 hs).1) (by by_cases h:lev=3 <;> simp[gmOf,h]) (ord.filter inc) 0 σ τ (Nat.two_pow_pos _) (fun i s hs=>?_) (hord.sublist (List.filter_sublist.map _)) (fun x hx=>?_) (fun a b x i s he hs hi j hj=>?_) hfilter (fun i j s u hs hu he=>filter_nodup_ids hn _ hs hu he)
 ·constructor
  ·intro h;simp at h
  ·intro h;exact absurd (qj (List.mem_of_getElem? hs)) h
 ·obtain ⟨h1,s,hs,h2,h3⟩:=memF.1 hx
  have hsF:s ∈ (gmOf lev A).txs:=List.mem_filter.2 ⟨hs,h3⟩;obtain⟨i,hi⟩:=List.mem_iff_getElem?.1 hsF;obtain⟨xi,xc⟩:=x;simp only at h2;subst h2;exact⟨i,s,hi,rfl,hc s hs xc h1⟩
 ·have hmask:(gmOf lev A).masks.getD i 0=mskOf lev (A.filter (cntd lev)) s:=by
   show((A.filter (cntd lev)).map _).getD i 0=_;rw[List.getD_eq_getElem?_getD,List.getElem?_map];rw[show (A.filter (cntd lev))[i]?=some s from hs];rfl
  rw[hmask] at hj;unfold mskOf at hj;rw[maskN_bit] at hj;simp only[Bool.and_eq_true,decide_eq_true_eq] at hj;obtain⟨hj1,hj2⟩:=hj;have hu:=List.getElem?_eq_getElem hj1;refine⟨_,hu,fun hin=>?_⟩;unfold mskF at hj2;rw[hu] at hj2;simp only[Bool.and_eq_true,decide_eq_true_eq,rly] at hj2;obtain⟨-,h0,hlt⟩:=hj2;generalize (A.filter (cntd lev))[j]=u at *;have huA:=(List.mem_filter.1 (List.mem_of_getElem? hu)).1;have hsA:=(List.mem_filter.1 (List.mem_of_getElem? hs)).1;simp only[List.map_cons,List.mem_cons] at hin;rcases hin with hin|hin
  ·have:=yG hn huA hsA (hin.trans hi.symm)
   subst this;have:=htm u huA;omega
  ·obtain ⟨y,hy,hyu⟩:=List.mem_map.1 hin
   have hrt:=(ho.rt.sublist (List.filter_sublist (p:=inc)))
   rw[he] at hrt;have h1:=(List.pairwise_append.1 hrt).2.1;have h2:=(List.pairwise_cons.1 h1).1 y hy;exact h2 s hsA u huA hi hyu.symm ⟨h0,hlt⟩
