/- Parts of the proof, merged by program out of 2 texts (GrX, GrO): the first: What the program's graphs do: far. Conditions: those of each theorem, as typed. -/
import Derived.Test.YtcpfbphcldocpaaGreatDoorQF25
import Derived.Deep.LoopGhost
import Derived.Test.YtcpfbphcldocpaaGreatDoorQF23
import Derived.Test.YtcpfbphcldocpaaGreatDoorQF21
import Derived.Sort.OwnSortedInts
set_option linter.unusedVariables false
set_option linter.unusedSimpArgs false
set_option linter.unusedSectionVars false
set_option maxRecDepth 100000
set_option maxHeartbeats 4000000
namespace Go.Proofs.YtcpfbphcldocpaaGreatDoor
open Go.Maps Go.RowKit Go.Sort
structure FInv (P:List Pr) (k:Int) (n:Nat) (F:List (Int×Int)):Prop where
 srt:KSrt F
 mem:∀a d,(a,d) ∈ F↔∃m:Nat,d=m∧m < n∧Dist P k m a
structure IsFar (P:List Pr) (k:Int) (F:List (Int×Int)):Prop where
 srt:KSrt F
 mem:∀a d,(a,d) ∈ F↔∃m:Nat,d=m∧Dist P k m a
def hit (F:List (Int×Int)) (k:Int) (n:Nat) (b:Int):Bool:=(b==k&&(n:Int)==1)||((fnd b F).isSome&&(fnd b F).getD 0==(n:Int) - 1&&b !=k)
section
variable {P:List Pr} {k:Int} {n:Nat} {F:List (Int×Int)} {N:List Int} {a:Int}
theorem FInv.start (P:List Pr) (k:Int):FInv P k 1 []:=⟨List.Pairwise.nil,fun a d=>⟨fun h=>by simp at h,fun⟨m,_,h1,h2⟩=>by have:=h2.1;omega⟩⟩
theorem FInv.fnd_some (h:FInv P k n F) {d:Int}:fnd a F=some d↔∃m:Nat,d=m∧m < n∧Dist P k m a:=by rw[_root_.Go.Proofs.YtcpfbphcldocpaaGreatDoor.fnd_some h.srt,h.mem]
theorem FInv.fnd_none (h:FInv P k n F):fnd a F=none↔∀m,m < n→¬Dist P k m a:=by
 rw[_root_.Go.Proofs.YtcpfbphcldocpaaGreatDoor.fnd_none]
 constructor
 ·exact fun hf m hm hd=>hf m ((h.mem a m).2 ⟨m,rfl,hm,hd⟩)
 ·rintro hf u hu
  obtain⟨m,-,hm,hd⟩:=(h.mem a u).1 hu
  exact hf m hm hd
theorem FInv.hit_iff (h:FInv P k n F) (hn:1≤n) (hf:fnd a F=none):(∃b,(a,b) ∈ P∧hit F k n b=true)↔Dist P k n a:=by
 rw[h.fnd_none] at hf
 unfold hit
 obtain⟨q,rfl⟩:∃q,n=q+1:=⟨n - 1,by omega⟩
 by_cases hq:q=0
 ·subst hq
  rw[dist_one]
  constructor
  ·rintro ⟨b,hb,hh⟩
   simp only[Bool.or_eq_true,Bool.and_eq_true,beq_iff_eq] at hh
   rcases hh with⟨rfl,-⟩|⟨⟨h1,-⟩,-⟩
   ·exact hb
   ·obtain ⟨d,hd⟩:=Option.isSome_iff_exists.1 h1
    obtain⟨m,-,hm,hdm⟩:=h.fnd_some.1 hd
    have:=hdm.1
    omega
  ·exact fun hk=>⟨k,hk,by simp⟩
 ·rw [dist_succ (by omega)]
  constructor
  ·rintro ⟨b,hb,hh⟩
   simp only[Bool.or_eq_true,Bool.and_eq_true,beq_iff_eq,bne_iff_ne] at hh
   rcases hh with⟨-,h1⟩|⟨⟨h1,h2⟩,h3⟩
   ·omega
   ·obtain ⟨d,hd⟩:=Option.isSome_iff_exists.1 h1
    rw[hd] at h2
    simp only[Option.getD_some] at h2
    obtain⟨m,e,hm,hdm⟩:=h.fnd_some.1 hd
    obtain rfl:m=q:=by omega
    exact⟨⟨b,hb,h3,hdm⟩,fun m hm1 hm2=>hf m (by omega)⟩
  ·rintro ⟨⟨b,hb,h3,hdm⟩,-⟩
   refine⟨b,hb,?_⟩
   have hd:=h.fnd_some.2 ⟨q,rfl,by omega,hdm⟩
   simp only[Bool.or_eq_true,Bool.and_eq_true,beq_iff_eq,bne_iff_ne]
   refine .inr ⟨⟨by rw[hd];rfl,?_⟩,h3⟩
   rw[hd]
   simp
theorem dist_level {m:Nat} (hn:1≤n):∀{m:Nat} {a:Int},n≤m→Dist P k m a→∃x,Dist P k n x
 |0,a,h,_=>by omega
 |m+1,a,h,hd=>by
  by_cases e:n=m+1
  ·subst e;exact⟨a,hd⟩
  ·obtain ⟨b,-,-,hb⟩:=hd.next (by omega)
   exact dist_level (m:=m) hn (by omega) hb
theorem FInv.done (h:FInv P k n F) (hn:1≤n) (hno:∀a,¬Dist P k n a):IsFar P k F:=⟨h.srt,fun a d=>by
 rw[h.mem]
 constructor
 ·rintro ⟨m,e,-,hd⟩;exact⟨m,e,hd⟩
 ·rintro ⟨m,e,hd⟩
  refine⟨m,e,?_,hd⟩
  rcases Nat.lt_or_ge m n with hl|hl
  ·exact hl
  ·obtain ⟨x,hx⟩:=dist_level (m:=m) hn hl hd
   exact absurd hx (hno x)⟩
def putL (F:List (Int×Int)) (L:List Int) (n:Nat):List (Int×Int):=L.foldl (fun F a=>upd a (n:Int) F) F
theorem putL_snoc (F:List (Int×Int)) (L:List Int) (a:Int) (n:Nat):putL F (L++[a]) n=upd a (n:Int) (putL F L n):=by simp[putL]
theorem srt_putL:∀{L:List Int} {F:List (Int×Int)},KSrt F→KSrt (putL F L n)
 |[],_,h=>h
 |a::L,F,h=>srt_putL (L:=L) (F:=upd a (n:Int) F) (srt_upd h)
theorem mem_putL {x:Int×Int}:∀{L:List Int} {F:List (Int×Int)},KSrt F→(x ∈ putL F L n↔(x.1 ∈ L∧x.2=n)∨(x.1 ∉ L∧x ∈ F))
 |[],F,h=>by simp[putL]
 |a::L,F,h=>by
  have ih:=mem_putL (x:=x) (L:=L) (F:=upd a (n:Int) F) (srt_upd h)
  show x ∈ putL (upd a (n:Int) F) L n↔_
  rw[ih,mem_upd h]
  obtain⟨x1,x2⟩:=x
  simp only[List.mem_cons,Prod.mk.injEq,not_or]
  constructor
  ·rintro (⟨h1,h2⟩|⟨h1,⟨h2,h3⟩|⟨h2,h3⟩⟩)
   ·exact .inl ⟨.inr h1,h2⟩
   ·exact .inl ⟨.inl h2,h3⟩
   ·exact .inr ⟨⟨h3,h1⟩,h2⟩
  ·rintro (⟨h1|h1,h2⟩|⟨⟨h1,h2⟩,h3⟩)
   ·by_cases hm:x1 ∈ L
    ·exact .inl ⟨hm,h2⟩
    ·exact .inr ⟨hm,.inl ⟨h1,h2⟩⟩
   ·exact .inl ⟨h1,h2⟩
   ·exact .inr ⟨h2,.inr ⟨h3,h1⟩⟩
theorem FInv.round (h:FInv P k n F) {L:List Int} (hL:∀a,a ∈ L↔Dist P k n a):FInv P k (n+1) (putL F L n):=⟨srt_putL h.srt,fun a d=>by
 rw[mem_putL h.srt,h.mem]
 simp only
 constructor
 ·rintro (⟨h1,h2⟩|⟨h1,m,e,hm,hd⟩)
  ·exact ⟨n,h2,by omega,(hL a).1 h1⟩
  ·exact ⟨m,e,by omega,hd⟩
 ·rintro ⟨m,e,hm,hd⟩
  by_cases ha:a ∈ L
  ·have:=hd.uniq ((hL a).1 ha)
   exact .inl ⟨ha,by omega⟩
  ·refine .inr ⟨ha,m,e,?_,hd⟩
   rcases Nat.lt_or_ge m n with hl|hl
   ·exact hl
   ·obtain rfl:m=n:=by omega
    exact absurd ((hL a).2 hd) ha⟩
theorem putL_length (h:FInv P k n F) (hN:∀x ∈ P,x.1 ∈ N) {L:List Int} (hL:∀a ∈ L,a ∈ N):(putL F L n).length≤N.length:=by
 have h1:((putL F L n).map (·.1)).length≤N.length:=nodup_le (srt_putL h.srt).keys.nodup fun z hz=>by
  obtain⟨q,hq,rfl⟩:=List.mem_map.1 hz
  rcases(mem_putL h.srt).1 hq with⟨h1,-⟩|⟨-,h1⟩
  ·exact hL _ h1
  ·obtain ⟨m,-,-,hd⟩:=(h.mem q.1 q.2).1 h1
   obtain⟨b,hb⟩:=hd.head
   exact hN (q.1,b) hb
 simpa using h1
structure LInv (P:List Pr) (N:List Int) (k:Int) (n:Nat) (S:Int→Bool) (L:List Int):Prop where
 nodup:L.Nodup
 mem:∀a,a ∈ L↔a ∈ N∧S a=false∧Dist P k n a
theorem LInv.start (P:List Pr) (N:List Int) (k:Int) (n:Nat):LInv P N k n (fun _=>true) []:=⟨List.nodup_nil,fun a=>by simp⟩
theorem LInv.hit {S:Int→Bool} {L:List Int} (h:LInv P N k n S L) (hS:S a=true) (ha:a ∈ N) (hd:Dist P k n a):LInv P N k n (fun z=>S z&&!(z==a)) (L++[a]):=by
 refine⟨?_,fun x=>?_⟩
 ·rw [List.nodup_append]
  refine⟨h.nodup,by simp,fun x hx y hy=>?_⟩
  simp only[List.mem_singleton] at hy
  subst hy
  rintro rfl
  have:=((h.mem x).1 hx).2.1
  rw[hS] at this
  cases this
 ·rw [List.mem_append,h.mem,List.mem_singleton]
  by_cases e:x=a
  ·subst e;simp[ha,hd]
  ·have e2:(x==a)=false:=by simpa using e
   simp[e,e2]
theorem LInv.miss {S:Int→Bool} {L:List Int} (h:LInv P N k n S L) (hd:¬Dist P k n a):LInv P N k n (fun z=>S z&&!(z==a)) L:=by
 refine⟨h.nodup,fun x=>?_⟩
 rw[h.mem]
 by_cases e:x=a
 ·subst e;simp[hd]
 ·have e2:(x==a)=false:=by simpa using e
  simp[e2]
theorem LInv.all {S:Int→Bool} {L:List Int} (h:LInv P N k n S L) (hS:∀a ∈ N,S a=false) (hN:∀x ∈ P,x.1 ∈ N) (a:Int):a ∈ L↔Dist P k n a:=by
 rw[h.mem]
 constructor
 ·exact fun h=>h.2.2
 ·intro hd
  obtain⟨b,hb⟩:=hd.head
  have:=hN _ hb
  exact⟨this,hS a this,hd⟩
theorem LInv.le {S:Int→Bool} {L:List Int} (h:LInv P N k n S L):L.length≤N.length:=nodup_le h.nodup fun x hx=>((h.mem x).1 hx).1
end
theorem lookOkG {w:World} {f:Nat} {F:List (Int×Int)} (h:MapI w f F) (hd:KDom dI F) {a:Int} (ha:dI a) {r:Option Int} (hf:fnd a F=r):(Instr.lookup 138 (.map (some f)) (.int .i64 a) true).run Tryz.prog w=.ok (.tuple #[.int .i64 (r.getD 0),.bool r.isSome]) w:=by
 have:=h.lookOk keyI elem_int hd Tryz.underlying138 (zeroI w) ha
 rw[this,hf]
 cases r <;> rfl
section
variable {w:World} {lo hi p:Nat} {N:List Int} {E:List Trp}
theorem gr_far (h:GrAt w lo hi p N E) (hhi:hi≤w.heap.size) (hN:N.length≤1000000) (k:Int) (hk:dI k):Calls Tryz.prog 113 #[.pointer (some ⟨p,0,none⟩),.int .i64 k] w fun e w'=>
  ∃f F,e=.returned (.map (some f))∧w.heap.size≤f∧MapI w' f F∧IsFar (prs E) k F∧Below w.heap.size w w':=by
 obtain⟨b,ow,M,A,h⟩:=h
 have hp:=row_cell h.ptr 0
 have hpw:=h.hp
 have H:=hid h
 have hmm:=@run_makeMap Tryz.prog
 have HPN:=hid (fun(x:Pr) (hx:x ∈ prs E)=>(h.ok.pair hx).1)
 have HLM:=h.lenM
 have hM:M.length≤1000000:=by omega
 clear h HLM
 go_enter Tryz.func113,Tryz.ntmps113
 go_wp2_with fail
 have M0:=hid ((IsMapK.made w):MapI _ _ [])
 have B0:=hid ((Below.refl w.heap.size w).alloc (Nat.le_refl _) (.map #[] 0))
 have F0:=hid (FInv.start (prs E) k)
 obtain⟨w0,hw0⟩:∃w0,w0=w.alloc (.map #[] 0):=⟨_,rfl⟩
 have z0:w.heap.size+1≤w0.heap.size:=by rw[hw0,World.size_alloc];exact Nat.le_refl _
 rw[←hw0] at M0 B0 ⊢
 clear hw0
 clear hp
 go_loopw [6] (fun i wr=>∃n F,i=.int .i64 ((n:Nat):Int)∧1≤n∧n≤N.length+1∧FInv (prs E) k n F∧MapI wr w.heap.size F∧Below w.heap.size w wr∧w.heap.size+1≤wr.heap.size) (fun i _=>N.length+2 - (intOf i).toNat)
 case atStart=>exact⟨1,[],by go_num,by omega,by omega,F0.out,M0.out,B0.out,z0⟩
 case round=>
  obtain⟨n,F,rfl,hn1,hnN,hF,hMF,hB,hz⟩:=hrel
  have HF:=hid hF
  have F1:=hid hMF
  have B1:=hid hB
  have hFd:=hid (fun q (hq:q ∈ F)=>by
   obtain⟨m,-,-,hd⟩:=(hF.mem q.1 q.2).1 hq
   obtain⟨c,hc⟩:=hd.head
   exact H.out.domN _ (HPN.out (q.1,c) hc):KDom dI F)
  have hp:=row_cell ((H.out.below hB hhi).ptr) 0
  clear hF hMF hB M0 B0 F0
  go_wp2_with (at_range;refine Stop.halt ?_)
  refine Stop.go ?_
  refine((H.out.below B1.out hhi).out).wpList_range keyI H.out.domM H.out.srtM Tryz.underlying104 rfl rfl (by rfl) ?_
  intro w2 hr2 hg2 hz2
  have B2:=hid (below_ranged B1.out hg2 B1.out.size)
  have F2:=hid (F1.out.none hg2)
  have G2:=hid hr2
  have hz2':wr.heap.size+1≤w2.heap.size:=by omega
  obtain⟨r1,hr1⟩:∃r1,r1=wr.heap.size:=⟨_,rfl⟩
  rw[←hr1] at G2 hz2' ⊢
  have hfr:w.heap.size+1≤r1:=by omega
  clear hr2 hg2 hz2 hp F1 B1 hr1 hz
  go_wp2_with fail
  go_frame
  go_loopg [7] M.length (fun kk v wq=>∃S L,RngO wq b r1 M S kk∧MapI wq w.heap.size F∧OwnI wq (w.heap.size+1) v L∧LInv (prs E) N k n S L∧Below w.heap.size w wq∧r1+1≤wq.heap.size)
  case atStart=>exact⟨_,[],G2.out,F2.out,OwnF.nil _ _,LInv.start _ _ _ _,B2.out,hz2'⟩
  case round=>
   obtain⟨S,L,hrg,hMF,hO,hL,hB,hz⟩:=hrel
   obtain⟨av,cv,rfl,hvm⟩:=hO.sl.ex
   have G3:=hid hrg
   have F3:=hid hMF
   have L3:=hid hO
   have HL:=hid hL
   have B3:=hid hB
   have hLl:=hL.le
   clear hrg hMF hO hL hB G2 F2 B2 hz2'
   go_wp2_with (at_next;refine Stop.halt ?_)
   refine Stop.go ?_
   refine G3.out.wpList_next keyI elem_map H.out.domM H.out.srtM rfl rfl (by rfl) ?_ ?_
   ·intro hd
    have HA:=hid (HL.out.all (fun a ha=>by rw[←H.out.keys] at ha;obtain⟨q,hq,rfl⟩:=List.mem_map.1 ha;exact hd q hq) HPN.out)
    have HLN:=hid (fun a (ha:a ∈ L)=>((HL.out.mem a).1 ha).1)
    clear hd HL G3
    obtain⟨nl,hnl⟩:∃nl,nl=L.length:=⟨_,rfl⟩
    rw[←hnl] at hvm hLl L3 ⊢
    have HNL:=hid hnl.symm
    clear hnl
    by_cases hl0:nl=0
    ·have e0:((nl:Int)==0)=true:=by simpa using hl0
     have HNO:=hid (fun a (hd:Dist (prs E) k n a)=>by
      have h1:=(HA.out a).2 hd
      have h2:=List.length_pos_of_mem h1
      rw[HNL.out] at h2
      omega:∀a,¬Dist (prs E) k n a)
     clear hl0
     go_wp2
     go_ret
     exact⟨_,F,rfl,Nat.le_refl _,F3.out,HF.out.done hn1 HNO.out,B3.out⟩
    ·have e0:((nl:Int)==0)=false:=by rw[beq_eq_false_iff_ne];omega
     have hnl2:n≤N.length:=by
      obtain⟨a,ha⟩:=List.exists_mem_of_length_pos (l:=L) (by have:=HNL.out;omega)
      exact((HA.out a).1 ha).le HPN.out
     have HPL:=fun j=>putL_length (n:=n) HF.out HPN.out (L:=L.take j) (fun a ha=>HLN.out a (List.mem_of_mem_take ha))
     have HPL:=hid HPL
     clear hl0
     go_wp2_with fail
     go_loopw [80] (fun i wq=>∃j:Nat,j≤nl∧i=.int .i64 j∧MapI wq w.heap.size (putL F (L.take j) n)∧OwnI wq (w.heap.size+1) (.slice av nl cv) L∧Below w.heap.size w wq) (fun i _=>nl - (intOf i).toNat)
     case atStart=>exact⟨0,by omega,by go_num,F3.out,L3.out,B3.out⟩
     case round=>
      obtain⟨j,hj,rfl,hMF,hO,hB⟩:=hrel
      have F4:=hid hMF
      have L4:=hid hO
      have B4:=hid hB
      have hpl:=HPL.out j
      have hsp:=hid (srt_putL (n:=n) (L:=L.take j) HF.out.srt)
      have hdp:=hid (fun q (hq:q ∈ putL F (L.take j) n)=>by
       rcases(mem_putL HF.out.srt).1 hq with⟨h1,-⟩|⟨-,h1⟩
       ·exact H.out.domN _ (HLN.out _ (List.mem_of_mem_take h1))
       ·exact hFd.out _ h1:KDom dI (putL F (L.take j) n))
      clear hMF hO hB F3 L3 B3
      by_cases hlj:j < nl
      ·obtain ⟨g,x,rfl,-,hg,hx,hc⟩:=OwnI.at L4.out HNL.out hlj
       have hxd:dI x:=H.out.domN _ (HLN.out x (List.mem_of_getElem? hx))
       have HT:=hid (take_step hx)
       have HS:=hid (putL_snoc F (L.take j) x n)
       clear hx
       generalize putL F (L.take j) n=Fj at *
       go_wp2_with (at_mapUpdate;refine Stop.halt ?_)
       refine Stop.go ?_
       refine F4.out.wpList_store keyI elem_int hdp.out hsp.out Tryz.underlying138 (v:=(n:Int)) (by unfold maxLen;omega) hxd rfl rfl (by rfl) (by rfl) (by rfl) ?_
       intro w5 h5 t5
       have F5:=hid h5.tight
       have L5:=hid (L4.out.turn t5)
       have B5:=hid (B4.out.trans (Below.turned t5 (Nat.le_refl _)))
       clear h5 t5 hc F4 L4 B4
       go_wp2_with fail
       go_roundw
       case rel=>exact⟨j+1,by omega,by go_num,by rw[HT.out,HS.out];exact F5.out,L5.out,B5.out⟩
       case measure=>simp[intOf];omega
      ·obtain rfl:j=nl:=by omega
       have HE:Hid (L.take j=L):=hid (by rw[←HNL.out,List.take_length])
       go_wp2_with fail
       go_roundw
       case rel=>exact⟨n+1,putL F L n,by go_num,by omega,by omega,HF.out.round HA.out,by rw[←HE.out];exact F4.out,B4.out,Nat.le_trans (Nat.succ_le_of_lt F4.out.lt) (Nat.le_refl _)⟩
       case measure=>simp[intOf];omega
   ·intro a0 u w3 k2 hxm hS hrg2 hlt2 hg2 hz2 hen
    have HSa:=hid hS
    have O3:=hid hrg2
    have F3':=hid (F3.out.nextK G3.out.iterAt hg2)
    have L3':=hid (L3.out.nextK G3.out.iterAt hg2)
    have B3':=hid (below_next B3.out hg2 B3.out.size (by omega))
    have hxm':=hid hxm
    have HaN:=H.out.inN hxm
    have had:=H.out.domN a0 HaN
    have hz3:r1+1≤w3.heap.size:=by omega
    clear hrg2 hg2 hS F3 L3 B3 G3 hz2 hxm
    have lk:=lookOkG F3'.out hFd.out had rfl
    cases hfa:fnd a0 F with
    |some d=>
     rw[hfa] at lk
     simp only[Option.getD_some,Option.isSome_some] at lk
     have HNo:=hid (fun(hd:Dist (prs E) k n a0)=>by
      obtain⟨m,-,hm,hdm⟩:=HF.out.fnd_some.1 hfa
      have:=hd.uniq hdm
      omega:¬Dist (prs E) k n a0)
     clear hfa
     go_wp2_with fail
     go_roundg k2
     case measure=>exact hlt2
     case rel=>exact⟨_,L,O3.out,F3'.out,L3'.out,HL.out.miss HNo.out,B3'.out,hz3⟩
    |none=>
     rw[hfa] at lk
     simp only[Option.getD_none,Option.isSome_none] at lk
     have HHit:=hid (HF.out.hit_iff hn1 hfa)
     clear hfa
     go_wp2_with (at_range;refine Stop.halt ?_)
     refine Stop.go ?_
     refine((H.out.below B3'.out hhi).inn a0 u hxm'.out).2.1.wpList_range keyI (H.out.domA hxm'.out) (H.out.inn a0 u hxm'.out).2.2.1 Tryz.underlying103 rfl rfl (by rfl) ?_
     intro w4 hr4 hg4 hz4
     have B4:=hid (below_ranged B3'.out hg4 B3'.out.size)
     have F4:=hid (F3'.out.none hg4)
     have L4:=hid (L3'.out.none hg4)
     have O4:=hid (Rng.none O3.out hg4)
     have G4:=hid hr4
     have hz4':w3.heap.size+1≤w4.heap.size:=by omega
     obtain⟨r2,hr2⟩:∃r2,r2=w3.heap.size:=⟨_,rfl⟩
     rw[←hr2] at G4 hz4' hz3 ⊢
     have hne:r1≠r2:=by omega
     have hwr2:w.heap.size≤r2:=by omega
     clear hr4 hg4 hz4 hr2 lk hen F3' L3' O3 B3'
     go_wp2_with fail
     go_frame
     go_loopg [7] (A a0).length (fun k3 v wq=>v=.slice av L.length cv∧∃S2,RngO wq u r2 (A a0) S2 k3∧RngO wq b r1 M (fun z=>S z&&!(z==a0)) k2∧MapI wq w.heap.size F∧OwnI wq (w.heap.size+1) (.slice av L.length cv) L∧(∀c ∈ row (prs E) a0,S2 c=false→hit F k n c=false)∧Below w.heap.size w wq∧r2+1≤wq.heap.size)
     case atStart=>exact⟨rfl,_,G4.out,O4.out,F4.out,L4.out,fun c _ h=>by simp at h,B4.out,hz4'⟩
     case round=>
      obtain⟨rfl,S2,hrg,hO,hMF,hL',hM,hB,hz⟩:=hrel
      have G3:=hid hrg
      have O3:=hid hO
      have F3:=hid hMF
      have L3:=hid hL'
      have HM:=hid hM
      have B3:=hid hB
      clear hrg hO hMF hL' hM hB G4 O4 F4 L4 B4 hz4'
      go_wp2_with (at_next;refine Stop.halt ?_)
      refine Stop.go ?_
      refine G3.out.wpList_next keyI elem_map (H.out.domA hxm'.out) (H.out.inn a0 u hxm'.out).2.2.1 rfl rfl (by rfl) ?_ ?_
      ·intro hd
       have HNo:Hid (¬Dist (prs E) k n a0):=hid (fun hdd=>by
        obtain⟨c,hc,hh⟩:=HHit.out.2 hdd
        have hc':c ∈ (A a0).map (·.1):=by rw[(H.out.inn a0 u hxm'.out).2.2.2];exact mem_row.2 hc
        obtain⟨q,hq,hq2⟩:=List.mem_map.1 hc'
        have:=HM.out c (mem_row.2 hc) (by rw[←hq2];exact hd q hq)
        rw[hh] at this
        cases this)
       clear hd
       go_wp2_with fail
       go_roundg k2
       case measure=>exact hlt2
       case rel=>exact⟨_,L,O3.out,F3.out,L3.out,HL.out.miss HNo.out,B3.out,by omega⟩
      ·intro b0 v0 w5 k4 hbm hS2 hrg4 hlt4 hg4 hz5 hen
       have hbr:=hid (show b0 ∈ row (prs E) a0 by rw[←(H.out.inn a0 u hxm'.out).2.2.2];exact List.mem_map.2 ⟨_,hbm,rfl⟩)
       have hb0:dI b0:=H.out.domR a0 b0 hbr.out
       have G4:=hid hrg4
       have O4:=hid (Rng.nextK O3.out G3.out.iterAt hne hg4)
       have F4:=hid (F3.out.nextK G3.out.iterAt hg4)
       have L4:=hid (L3.out.nextK G3.out.iterAt hg4)
       have B4:=hid (below_next B3.out hg4 B3.out.size hwr2)
       have zB4:w.heap.size+1≤w5.heap.size:=by omega
       have z4:r2+1≤w5.heap.size:=by omega
       clear hrg4 hg4 hS2 hbm hz5 G3 O3 F3 L3 B3
       by_cases e1:b0=k
       ·have q1:(b0==k)=true:=by simpa using e1
        have q1':(b0 !=k)=false:=by simpa using e1
        clear e1
        by_cases e2:n=1
        ·have q2:((n:Int)==1)=true:=by rw[beq_iff_eq];omega
         clear e2
         have lk:=lookOkG F4.out hFd.out hb0 rfl
         cases hfb:fnd b0 F with
         |none=>
          rw[hfb] at lk
          simp only[Option.getD_none,Option.getD_some,Option.isSome_none,Option.isSome_some] at lk
          have HH:=hid (show hit F k n b0=true by simp[hit,q1,q1',q2,hfb])
          clear hfb
          go_wp2_with (at_builtin;refine wpList_appF rfl _ _ _ rfl _ 8 Tryz.underlying30 infoI rfl L4.out a0 zB4 (by rfl) (by rfl) (by first|rfl|simp) rfl (in_one _) (by first|omega|(simp only[List.length_append,List.length_cons,List.length_nil,List.length_replicate];omega)) (by first|omega|(simp only[List.length_append,List.length_cons,List.length_nil,List.length_replicate];omega)) ?_;refine Stop.halt ?_)
          refine Stop.go ?_
          intro gn cn wn hn Gn
          have O5:=hid (O4.out.grw L4.out Gn)
          have F5:=hid (F4.out.grw L4.out Gn)
          have L5:=hid hn
          have B5:=hid (B4.out.trans (Gn.below B4.out.size fun q h=>by have:=(L4.out.lt q h).1;omega))
          have z5:=Gn.size
          clear hn Gn O4 F4 L4 B4 G4
          go_wp2_with fail
          go_roundg k2
          case measure=>exact hlt2
          case rel=>exact⟨_,L++[a0],O5.out,F5.out,by simpa using L5.out,HL.out.hit HSa.out HaN (HHit.out.1 ⟨b0,mem_row.1 hbr.out,HH.out⟩),B5.out,by omega⟩
         |some d=>
          rw[hfb] at lk
          simp only[Option.getD_none,Option.getD_some,Option.isSome_none,Option.isSome_some] at lk
          have HH:=hid (show hit F k n b0=true by simp[hit,q1,q1',q2,hfb])
          clear hfb
          go_wp2_with (at_builtin;refine wpList_appF rfl _ _ _ rfl _ 8 Tryz.underlying30 infoI rfl L4.out a0 zB4 (by rfl) (by rfl) (by first|rfl|simp) rfl (in_one _) (by first|omega|(simp only[List.length_append,List.length_cons,List.length_nil,List.length_replicate];omega)) (by first|omega|(simp only[List.length_append,List.length_cons,List.length_nil,List.length_replicate];omega)) ?_;refine Stop.halt ?_)
          refine Stop.go ?_
          intro gn cn wn hn Gn
          have O5:=hid (O4.out.grw L4.out Gn)
          have F5:=hid (F4.out.grw L4.out Gn)
          have L5:=hid hn
          have B5:=hid (B4.out.trans (Gn.below B4.out.size fun q h=>by have:=(L4.out.lt q h).1;omega))
          have z5:=Gn.size
          clear hn Gn O4 F4 L4 B4 G4
          go_wp2_with fail
          go_roundg k2
          case measure=>exact hlt2
          case rel=>exact⟨_,L++[a0],O5.out,F5.out,by simpa using L5.out,HL.out.hit HSa.out HaN (HHit.out.1 ⟨b0,mem_row.1 hbr.out,HH.out⟩),B5.out,by omega⟩
        ·have q2:((n:Int)==1)=false:=by rw[beq_eq_false_iff_ne];omega
         clear e2
         have lk:=lookOkG F4.out hFd.out hb0 rfl
         cases hfb:fnd b0 F with
         |none=>
          rw[hfb] at lk
          simp only[Option.getD_none,Option.isSome_none] at lk
          have HH:=hid (show hit F k n b0=false by simp[hit,q1,q1',hfb,q2])
          clear hfb
          go_wp2_with fail
          go_roundg k4
          case measure=>exact hlt4
          case rel=>exact⟨rfl,_,G4.out,O4.out,F4.out,L4.out,fun c hc hs=>by
           by_cases ec:c=b0
           ·rw [ec];exact HH.out
           ·have ec2:(c==b0)=false:=by simpa using ec
            rw[ec2] at hs
            exact HM.out c hc (by simpa using hs),B4.out,z4⟩
         |some d=>
          rw[hfb] at lk
          simp only[Option.getD_some,Option.isSome_some] at lk
          by_cases e3:d=(n:Int) - 1
          ·have q3:(d==(n:Int) - 1)=true:=by simpa using e3
           clear e3
           have HH:=hid (show hit F k n b0=false by simp[hit,q1,q1',q3,hfb,q2])
           clear hfb
           go_wp2_with fail
           go_roundg k4
           case measure=>exact hlt4
           case rel=>exact⟨rfl,_,G4.out,O4.out,F4.out,L4.out,fun c hc hs=>by
            by_cases ec:c=b0
            ·rw [ec];exact HH.out
            ·have ec2:(c==b0)=false:=by simpa using ec
             rw[ec2] at hs
             exact HM.out c hc (by simpa using hs),B4.out,z4⟩
          ·have q3:(d==(n:Int) - 1)=false:=by simpa using e3
           clear e3
           have HH:=hid (show hit F k n b0=false by simp[hit,q1,q1',q3,hfb,q2])
           clear hfb
           go_wp2_with fail
           go_roundg k4
           case measure=>exact hlt4
           case rel=>exact⟨rfl,_,G4.out,O4.out,F4.out,L4.out,fun c hc hs=>by
            by_cases ec:c=b0
            ·rw [ec];exact HH.out
            ·have ec2:(c==b0)=false:=by simpa using ec
             rw[ec2] at hs
             exact HM.out c hc (by simpa using hs),B4.out,z4⟩
       ·have q1:(b0==k)=false:=by simpa using e1
        have q1':(b0 !=k)=true:=by simpa using e1
        clear e1
        have lk:=lookOkG F4.out hFd.out hb0 rfl
        cases hfb:fnd b0 F with
        |none=>
         rw[hfb] at lk
         simp only[Option.getD_none,Option.isSome_none] at lk
         have HH:=hid (show hit F k n b0=false by simp[hit,q1,q1',hfb])
         clear hfb
         go_wp2_with fail
         go_roundg k4
         case measure=>exact hlt4
         case rel=>exact⟨rfl,_,G4.out,O4.out,F4.out,L4.out,fun c hc hs=>by
          by_cases ec:c=b0
          ·rw [ec];exact HH.out
          ·have ec2:(c==b0)=false:=by simpa using ec
           rw[ec2] at hs
           exact HM.out c hc (by simpa using hs),B4.out,z4⟩
        |some d=>
         rw[hfb] at lk
         simp only[Option.getD_some,Option.isSome_some] at lk
         by_cases e3:d=(n:Int) - 1
         ·have q3:(d==(n:Int) - 1)=true:=by simpa using e3
          clear e3
          have HH:=hid (show hit F k n b0=true by simp[hit,q1,q1',q3,hfb])
          clear hfb
          go_wp2_with (at_builtin;refine wpList_appF rfl _ _ _ rfl _ 8 Tryz.underlying30 infoI rfl L4.out a0 zB4 (by rfl) (by rfl) (by first|rfl|simp) rfl (in_one _) (by first|omega|(simp only[List.length_append,List.length_cons,List.length_nil,List.length_replicate];omega)) (by first|omega|(simp only[List.length_append,List.length_cons,List.length_nil,List.length_replicate];omega)) ?_;refine Stop.halt ?_)
          refine Stop.go ?_
          intro gn cn wn hn Gn
          have O5:=hid (O4.out.grw L4.out Gn)
          have F5:=hid (F4.out.grw L4.out Gn)
          have L5:=hid hn
          have B5:=hid (B4.out.trans (Gn.below B4.out.size fun q h=>by have:=(L4.out.lt q h).1;omega))
          have z5:=Gn.size
          clear hn Gn O4 F4 L4 B4 G4
          go_wp2_with fail
          go_roundg k2
          case measure=>exact hlt2
          case rel=>exact⟨_,L++[a0],O5.out,F5.out,by simpa using L5.out,HL.out.hit HSa.out HaN (HHit.out.1 ⟨b0,mem_row.1 hbr.out,HH.out⟩),B5.out,by omega⟩
         ·have q3:(d==(n:Int) - 1)=false:=by simpa using e3
          clear e3
          have HH:=hid (show hit F k n b0=false by simp[hit,q1,q1',q3,hfb])
          clear hfb
          go_wp2_with fail
          go_roundg k4
          case measure=>exact hlt4
          case rel=>exact⟨rfl,_,G4.out,O4.out,F4.out,L4.out,fun c hc hs=>by
           by_cases ec:c=b0
           ·rw [ec];exact HH.out
           ·have ec2:(c==b0)=false:=by simpa using ec
            rw[ec2] at hs
            exact HM.out c hc (by simpa using hs),B4.out,z4⟩
end
theorem ownsRow_cut {w:World} {B g n cap:Nat} {e:TypeId} {xs:List Value} {z:Value} (h:w.ownsRow B e 1 (.slice (some ⟨g,0,none⟩) (n+1) cap) (n+1) (xs++[z])):w.ownsRow B e 1 (.slice (some ⟨g,0,none⟩) n cap) n xs:=by
 obtain⟨h1,h2⟩:=h
 have hl:xs.length=n:=by simp at h1;omega
 refine⟨by omega,?_⟩
 rcases h2 with⟨h2,-⟩|⟨g',cap',cur,hv,hg,hh,hnc,hcm,hs,ht⟩
 ·cases h2
 ·simp only[Value.slice.injEq,Option.some.injEq,Addr.mk.injEq,and_true,true_and] at hv
  obtain⟨rfl,rfl⟩:=hv
  refine .inr ⟨g,cap,cur,rfl,hg,hh,by omega,hcm,hs,?_⟩
  have h3:=congrArg (List.take n) ht
  rw[List.take_take,Nat.min_eq_left (by omega),List.take_left' hl] at h3
  rw[Nat.mul_one]
  exact h3
theorem grow_nil (w:World):grow w #[]=w:=by
 cases w
 simp[grow]
theorem deleteI {w:World} {B g n cap:Nat} {l:List Int} (h:OwnI w B (.slice (some ⟨g,0,none⟩) n cap) l) (hn:l.length=n) {i:Nat} (hi:i < n):
  Calls Tryz.prog 112 #[.slice (some ⟨g,0,none⟩) n cap,.int .i64 (i:Int),.int .i64 ((i:Int)+1)] w fun e w'=>e=.returned (.slice (some ⟨g,0,none⟩) (n - 1) cap)∧OwnI w' B (.slice (some ⟨g,0,none⟩) (n - 1) cap) (l.eraseIdx i)∧w.grownBy w' (some g):=by
 subst hn
 obtain⟨-,h2⟩:=h
 rcases h2 with⟨h2,-⟩|⟨g',cap',cur,hv,hg,hh,hnc,hcm,hs,ht⟩
 ·cases h2
 ·simp only[Value.slice.injEq,Option.some.injEq,Addr.mk.injEq,and_true,true_and] at hv
  obtain⟨rfl,rfl⟩:=hv
  rw[flat_int,Nat.mul_one] at ht
  have hd:=Any.slices_Delete_int del23 g 0 cap i (i+1) l w (holds_of_blockI hh ht) hnc (by unfold maxLen at hcm;omega) (by omega) hi
  rw[show ((i+1:Nat):Int)=(i:Int)+1 from by omega] at hd
  refine hd.mono ?_
  rintro e w' ⟨rfl,q,rfl⟩
  rw[show i+1 - i=1 from by omega]
  have hts:(l.take i++l.drop (i+1)++List.replicate 1 0).length=l.length:=by simp;omega
  have h3:=ownsRow_sortedI (n:=q) (os:=#[]) hts hg hh hnc hcm hs
  have h4:=grownBy_sortedI (w:=w) (g:=g) (n:=q) (os:=#[]) (l.take i++l.drop (i+1)++List.replicate 1 0).toArray
  rw[grow_nil] at h3 h4
  refine⟨rfl,?_,h4⟩
  obtain⟨m,hm⟩:∃m,l.length=m+1:=⟨l.length - 1,by omega⟩
  rw[hm] at h3 ⊢
  rw[List.map_append] at h3
  have h5:=ownsRow_cut (z:=.int .i64 0) h3
  have he:(l.eraseIdx i).length=m:=by rw[List.length_eraseIdx,if_pos hi];omega
  show World.ownsRow _ B _ 1 _ (l.eraseIdx i).length _
  rw[he,flat_int,List.eraseIdx_eq_take_drop_succ]
  exact h5
theorem lookI {w:World} {f:Nat} {F:List (Int×Int)} (h:MapI w f F) (hd:KDom dI F) {a:Int} (ha:dI a):(Instr.lookup 138 (.map (some f)) (.int .i64 a) false).run Tryz.prog w=.ok (.int .i64 ((fnd a F).getD 0)) w:=by
 have:=h.look keyI elem_int hd Tryz.underlying138 (zeroI w) ha
 rw[this]
 cases fnd a F <;> rfl
theorem topo_free1 {w:World} {f c:Nat} {F:List (Int×Int)} (h:MapI w f F) (hd:KDom dI F) (hc:w.cell? ⟨c,0,none⟩=some (.map (some f))) (x:Int) (hx:dI x):
  Calls Tryz.prog 111 #[.int .i64 x,.pointer (some ⟨c,0,none⟩)] w fun e w'=>e=.returned (.bool ((fnd x F).getD 0==0))∧w=w':=by
 have lk:=lookI h hd hx
 have H:=hid h
 clear h
 go_enter Tryz.func111,Tryz.ntmps111
 go_wp2
 go_ret
 exact⟨rfl,rfl⟩
def FirstZ (F:List (Int×Int)) (l:List Int) (r:Int):Prop:=
 (r=-1∧∀x ∈ l,(fnd x F).getD 0≠0)∨∃(i:Nat) (x:Int),r=i∧l[i]?=some x∧(fnd x F).getD 0=0∧∀y ∈ l.take i,(fnd y F).getD 0≠0
theorem topo_index {w:World} {f c B n cap:Nat} {a:Option Addr} {F:List (Int×Int)} {l:List Int} (h:MapI w f F) (hd:KDom dI F) (hc:w.cell? ⟨c,0,none⟩=some (.map (some f))) (ho:OwnI w B (.slice a n cap) l) (hn:l.length=n) (hld:∀x ∈ l,dI x):
  Calls Tryz.prog 110 #[.slice a n cap,.func (.func 111) #[] #[.pointer (some ⟨c,0,none⟩)]] w fun e w'=>∃r,e=.returned (.int .i64 r)∧FirstZ F l r∧w=w':=by
 obtain⟨_,_,e,hnm⟩:=ho.sl.ex
 simp only[Value.slice.injEq] at e
 have hnm2:n≤9223372036854775807:=by omega
 have H:=hid h
 have HO:=hid ho
 have HN:=hid hn
 have HD:=hid hd
 have HLD:=hid hld
 clear h ho hn hd hld e hnm
 go_enter Tryz.func110,Tryz.ntmps110
 go_wp2_with fail
 go_loop [8] (fun i=>∃k:Nat,k≤n∧i=.int .i64 k∧∀y ∈ l.take k,(fnd y F).getD 0≠0) (fun i=>n - (intOf i).toNat)
 case atStart=>exact⟨0,by omega,by go_num,fun y hy=>by simp at hy⟩
 case round=>
  obtain⟨k,hk,rfl,hM⟩:=hrel
  have HM:=hid hM
  clear hM
  by_cases hlt:k < n
  ·obtain ⟨g,x,rfl,-,hg,hx,hcx⟩:=OwnI.at HO.out HN.out hlt
   have hxd:=HLD.out x (List.mem_of_getElem? hx)
   have HX:=hid hx
   clear hx
   go_wp2_with fail
   refine(topo_free1 H.out HD.out hc x hxd).mono ?_
   rintro e w2 ⟨rfl,rfl⟩
   by_cases hz:(fnd x F).getD 0=0
   ·have hz2:((fnd x F).getD 0==0)=true:=by simpa using hz
    rw[hz2]
    have HZ:=hid hz
    clear hz hz2
    go_wp2
    go_ret
    exact⟨k,rfl,.inr ⟨k,x,rfl,HX.out,HZ.out,HM.out⟩,rfl⟩
   ·have hz2:((fnd x F).getD 0==0)=false:=by simpa using hz
    rw[hz2]
    have HZ:=hid hz
    clear hz hz2
    go_wp2_with fail
    go_round
    case rel=>exact⟨k+1,by omega,by go_num,fun y hy=>by
     rcases(mem_take_step HX.out).1 hy with hy|rfl
     ·exact HM.out y hy
     ·exact HZ.out⟩
    case measure=>simp[intOf];omega
  ·obtain rfl:k=n:=by omega
   go_wp2
   go_ret
   exact⟨-1,rfl,.inl ⟨rfl,fun x hx=>HM.out x (by rw[←HN.out,List.take_length];exact hx)⟩,rfl⟩
