/- Parts of the proof; the first: What the program's graphs do: far. Conditions: those of each theorem, as typed. -/
import Derived.Test.YtcpfbphcldocpaaGreatDoorQC21
import Derived.Deep.LoopGhost
import Derived.Test.YtcpfbphcldocpaaGreatDoorQC20
import Derived.Test.YtcpfbphcldocpaaGreatDoorQC17
import Derived.Sort.OwnSortedInts
set_option linter.unusedVariables false
set_option linter.unusedSimpArgs false
set_option linter.unusedSectionVars false
set_option maxRecDepth 100000
set_option maxHeartbeats 4000000
namespace Go.Proofs.YtcpfbphcldocpaaGreatDoor
open Go.Maps Go.RowKit Go.Sort
structure Qt (P:List Pr) (k:Int) (n:Nat) (F:List (Int×Int)):Prop where
 srt:za F
 mem:∀a d,(a,d) ∈ F↔∃m:Nat,d=m/\m < n/\xK P k m a
structure UD (P:List Pr) (k:Int) (F:List (Int×Int)):Prop where
 srt:za F
 mem:∀a d,(a,d) ∈ F↔∃m:Nat,d=m/\xK P k m a
def hit (F:List (Int×Int)) (k:Int) (n:Nat) (b:Int):Bool:=(b==k&&(n:Int)==1)||((fnd b F).isSome&&(fnd b F).getD 0==(n:Int) - 1&&b !=k)
section
variable {P:List Pr} {k:Int} {n:Nat} {F:List (Int×Int)} {N:List Int} {a:Int}
theorem Qt.start (P:List Pr) (k:Int):Qt P k 1 []:=⟨List.Pairwise.nil,fun a d=>⟨fun h=>by simp at h,fun⟨m,_,h1,h2⟩=>by have:=h2.1;omega⟩⟩
theorem Qt.fnd_some (h:Qt P k n F) {d:Int}:fnd a F=some d↔∃m:Nat,d=m/\m < n/\xK P k m a:=by rw[_root_.Go.Proofs.YtcpfbphcldocpaaGreatDoor.fnd_some h.srt,h.mem]
theorem Qt.fnd_none (h:Qt P k n F):fnd a F=none↔∀m,m < n->¬xK P k m a:=by
 rw[_root_.Go.Proofs.YtcpfbphcldocpaaGreatDoor.fnd_none];constructor
 ·exact fun hf m hm hd=>hf m ((h.mem a m).2 ⟨m,rfl,hm,hd⟩)
 ·rintro hf u hu
  obtain⟨m,-,hm,hd⟩:=(h.mem a u).1 hu;exact hf m hm hd
theorem Qt.hit_iff (h:Qt P k n F) (hn:1<=n) (hf:fnd a F=none):(∃b,(a,b) ∈ P/\hit F k n b=true)↔xK P k n a:=by
 rw[h.fnd_none] at hf;unfold hit;obtain⟨q,rfl⟩:∃q,n=q+1:=⟨n - 1,by omega⟩
 by_cases hq:q=0
 ·subst hq
  rw[ZU];constructor
  ·rintro ⟨b,hb,hh⟩
   simp only[Bool.or_eq_true,Bool.and_eq_true,beq_iff_eq] at hh;rcases hh with⟨rfl,-⟩|⟨⟨h1,-⟩,-⟩
   ·exact hb
   ·obtain ⟨d,hd⟩:=Option.isSome_iff_exists.1 h1
    obtain⟨m,-,hm,hdm⟩:=h.fnd_some.1 hd;have:=hdm.1;omega
  ·exact fun hk=>⟨k,hk,by simp⟩
 ·rw [Ye (by omega)]
  constructor
  ·rintro ⟨b,hb,hh⟩
   simp only[Bool.or_eq_true,Bool.and_eq_true,beq_iff_eq,bne_iff_ne] at hh;rcases hh with⟨-,h1⟩|⟨⟨h1,h2⟩,h3⟩
   ·omega
   ·obtain ⟨d,hd⟩:=Option.isSome_iff_exists.1 h1
    rw[hd] at h2;simp only[Option.getD_some] at h2;obtain⟨m,e,hm,hdm⟩:=h.fnd_some.1 hd;obtain rfl:m=q:=by omega
    exact⟨⟨b,hb,h3,hdm⟩,fun m hm1 hm2=>hf m (by omega)⟩
  ·rintro ⟨⟨b,hb,h3,hdm⟩,-⟩
   refine⟨b,hb,?_⟩;have hd:=h.fnd_some.2 ⟨q,rfl,by omega,hdm⟩;simp only[Bool.or_eq_true,Bool.and_eq_true,beq_iff_eq,bne_iff_ne];refine .inr ⟨⟨by rw[hd];rfl,?_⟩,h3⟩;rw[hd];simp
theorem ZW {m:Nat} (hn:1<=n):∀{m:Nat} {a:Int},n<=m->xK P k m a->∃x,xK P k n x
 |0,a,h,_=>by omega
 |m+1,a,h,hd=>by
  by_cases e:n=m+1
  ·subst e;exact⟨a,hd⟩
  ·obtain ⟨b,-,-,hb⟩:=hd.next (by omega)
   exact ZW (m:=m) hn (by omega) hb
theorem Qt.done (h:Qt P k n F) (hn:1<=n) (hno:∀a,¬xK P k n a):UD P k F:=⟨h.srt,fun a d=>by
 rw[h.mem];constructor
 ·rintro ⟨m,e,-,hd⟩;exact⟨m,e,hd⟩
 ·rintro ⟨m,e,hd⟩
  refine⟨m,e,?_,hd⟩;rcases Nat.lt_or_ge m n with hl|hl
  ·exact hl
  ·obtain ⟨x,hx⟩:=ZW (m:=m) hn hl hd
   exact absurd hx (hno x)⟩
def QN (F:List (Int×Int)) (L:List Int) (n:Nat):List (Int×Int):=L.foldl (fun F a=>upd a (n:Int) F) F
theorem Nt (F:List (Int×Int)) (L:List Int) (a:Int) (n:Nat):QN F (L++[a]) n=upd a (n:Int) (QN F L n):=by simp[QN]
theorem Xc:∀{L:List Int} {F:List (Int×Int)},za F->za (QN F L n)
 |[],_,h=>h
 |a::L,F,h=>Xc (L:=L) (F:=upd a (n:Int) F) (zG h)
theorem Xs {x:Int×Int}:∀{L:List Int} {F:List (Int×Int)},za F->(x ∈ QN F L n↔(x.1 ∈ L/\x.2=n)\/(x.1 ∉ L/\x ∈ F))
 |[],F,h=>by simp[QN]
 |a::L,F,h=>by
  have ih:=Xs (x:=x) (L:=L) (F:=upd a (n:Int) F) (zG h);show x ∈ QN (upd a (n:Int) F) L n↔_;rw[ih,yX h];obtain⟨x1,x2⟩:=x;simp only[List.mem_cons,Prod.mk.injEq,not_or];constructor
  ·rintro (⟨h1,h2⟩|⟨h1,⟨h2,h3⟩|⟨h2,h3⟩⟩)
   ·exact .inl ⟨.inr h1,h2⟩
   ·exact .inl ⟨.inl h2,h3⟩
   ·exact .inr ⟨⟨h3,h1⟩,h2⟩
  ·rintro (⟨h1|h1,h2⟩|⟨⟨h1,h2⟩,h3⟩)
   ·by_cases hm:x1 ∈ L
    ·exact .inl ⟨hm,h2⟩
    ·exact .inr ⟨hm,.inl ⟨h1,h2⟩⟩
   ·exact .inl ⟨h1,h2⟩
   ·exact .inr ⟨h2,.inr ⟨h3,h1⟩⟩
theorem Qt.round (h:Qt P k n F) {L:List Int} (hL:∀a,a ∈ L↔xK P k n a):Qt P k (n+1) (QN F L n):=⟨Xc h.srt,fun a d=>by
 rw[Xs h.srt,h.mem];simp only;constructor
 ·rintro (⟨h1,h2⟩|⟨h1,m,e,hm,hd⟩)
  ·exact ⟨n,h2,by omega,(hL a).1 h1⟩
  ·exact ⟨m,e,by omega,hd⟩
 ·rintro ⟨m,e,hm,hd⟩
  by_cases ha:a ∈ L
  ·have:=hd.uniq ((hL a).1 ha)
   exact .inl ⟨ha,by omega⟩
  ·refine .inr ⟨ha,m,e,?_,hd⟩
   rcases Nat.lt_or_ge m n with hl|hl
   ·exact hl
   ·obtain rfl:m=n:=by omega
    exact absurd ((hL a).2 hd) ha⟩
theorem VW (h:Qt P k n F) (hN:∀x ∈ P,x.1 ∈ N) {L:List Int} (hL:∀a ∈ L,a ∈ N):(QN F L n).length<=N.length:=by
 have h1:((QN F L n).map (·.1)).length<=N.length:=jZ (Xc h.srt).keys.nodup fun z hz=>by
  obtain⟨q,hq,rfl⟩:=List.mem_map.1 hz;rcases(Xs h.srt).1 hq with⟨h1,-⟩|⟨-,h1⟩
  ·exact hL _ h1
  ·obtain ⟨m,-,-,hd⟩:=(h.mem q.1 q.2).1 h1
   obtain⟨b,hb⟩:=hd.head;exact hN (q.1,b) hb
 simpa using h1
structure XI (P:List Pr) (N:List Int) (k:Int) (n:Nat) (S:Int->Bool) (L:List Int):Prop where
 nodup:L.Nodup
 mem:∀a,a ∈ L↔a ∈ N/\S a=false/\xK P k n a
theorem XI.start (P:List Pr) (N:List Int) (k:Int) (n:Nat):XI P N k n (fun _=>true) []:=⟨List.nodup_nil,fun a=>by simp⟩
theorem XI.hit {S:Int->Bool} {L:List Int} (h:XI P N k n S L) (hS:S a=true) (ha:a ∈ N) (hd:xK P k n a):XI P N k n (fun z=>S z&&!(z==a)) (L++[a]):=by
 refine⟨?_,fun x=>?_⟩
 ·rw [List.nodup_append]
  refine⟨h.nodup,by simp,fun x hx y hy=>?_⟩;simp only[List.mem_singleton] at hy;subst hy;rintro rfl;have:=((h.mem x).1 hx).2.1;rw[hS] at this;cases this
 ·rw [List.mem_append,h.mem,List.mem_singleton]
  by_cases e:x=a
  ·subst e;simp[ha,hd]
  ·have e2:(x==a)=false:=by simpa using e
   simp[e,e2]
theorem XI.miss {S:Int->Bool} {L:List Int} (h:XI P N k n S L) (hd:¬xK P k n a):XI P N k n (fun z=>S z&&!(z==a)) L:=by
 refine⟨h.nodup,fun x=>?_⟩;rw[h.mem];by_cases e:x=a
 ·subst e;simp[hd]
 ·have e2:(x==a)=false:=by simpa using e
  simp[e2]
theorem XI.all {S:Int->Bool} {L:List Int} (h:XI P N k n S L) (hS:∀a ∈ N,S a=false) (hN:∀x ∈ P,x.1 ∈ N) (a:Int):a ∈ L↔xK P k n a:=by
 rw[h.mem];constructor
 ·exact fun h=>h.2.2
 ·intro hd
  obtain⟨b,hb⟩:=hd.head;have:=hN _ hb;exact⟨this,hS a this,hd⟩
theorem XI.le {S:Int->Bool} {L:List Int} (h:XI P N k n S L):L.length<=N.length:=jZ h.nodup fun x hx=>((h.mem x).1 hx).1
end
theorem Qi {w:World} {f:Nat} {F:List (Int×Int)} (h:Qa w f F) (hd:yE dI F) {a:Int} (ha:dI a) {r:Option Int} (hf:fnd a F=r):(Instr.lookup 138 (.map (some f)) (.int .i64 a) true).run Tryz.prog w=.ok (.tuple #[.int .i64 (r.getD 0),.bool r.isSome]) w:=by
 have:=h.lookOk zm yK hd Tryz.underlying138 (Mu w) ha;rw[this,hf];cases r <;> rfl
section
variable {w:World} {lo hi p:Nat} {N:List Int} {E:List jI}
theorem gr_far (h:jj w lo hi p N E) (hhi:hi<=w.heap.size) (hN:N.length<=1000000) (k:Int) (hk:dI k):Calls Tryz.prog 113 #[.pointer (some ⟨p,0,none⟩),.int .i64 k] w fun e w'=>
  ∃f F,e=.returned (.map (some f))/\w.heap.size<=f/\Qa w' f F/\UD (xG E) k F/\Below w.heap.size w w':=by
 obtain⟨b,ow,M,A,h⟩:=h;have hp:=qa h.ptr 0;have hpw:=h.hp;have H:=qd h;have hmm:=@run_makeMap Tryz.prog;have HPN:=qd (fun(x:Pr) (hx:x ∈ xG E)=>(h.ok.pair hx).1);have HLM:=h.lenM;have hM:M.length<=1000000:=by omega
 clear h HLM;go_enter Tryz.func113,Tryz.ntmps113;go_wp2_with fail;have M0:=qd ((qG.made w):Qa _ _ []);have B0:=qd ((Below.refl w.heap.size w).alloc (Nat.le_refl _) (.map #[] 0));have F0:=qd (Qt.start (xG E) k);obtain⟨w0,hw0⟩:∃w0,w0=w.alloc (.map #[] 0):=⟨_,rfl⟩
 have z0:w.heap.size+1<=w0.heap.size:=by rw[hw0,World.size_alloc];exact Nat.le_refl _
 rw[←hw0] at M0 B0 ⊢;clear hw0;clear hp
 go_loopw [6] (fun i wr=>∃n F,i=.int .i64 ((n:Nat):Int)/\1<=n/\n<=N.length+1/\Qt (xG E) k n F/\Qa wr w.heap.size F/\Below w.heap.size w wr/\w.heap.size+1<=wr.heap.size) (fun i _=>N.length+2 - (intOf i).toNat)
 case atStart=>exact⟨1,[],by go_num,by omega,by omega,F0.o,M0.o,B0.o,z0⟩
 case round=>
  obtain⟨n,F,rfl,hn1,hnN,hF,hMF,hB,hz⟩:=hrel;have HF:=qd hF;have F1:=qd hMF;have B1:=qd hB;have hFd:=qd (fun q (hq:q ∈ F)=>by
   obtain⟨m,-,-,hd⟩:=(hF.mem q.1 q.2).1 hq;obtain⟨c,hc⟩:=hd.head;exact H.o.domN _ (HPN.o (q.1,c) hc):yE dI F)
  have hp:=qa ((H.o.below hB hhi).ptr) 0;clear hF hMF hB M0 B0 F0;go_wp2_with (at_range;refine qH.halt ?_)
  refine qH.go ?_;refine((H.o.below B1.o hhi).o).wpList_range zm H.o.domM H.o.srtM Tryz.underlying104 rfl rfl (by rfl) ?_;intro w2 hr2 hg2 hz2;have B2:=qd (yz B1.o hg2 B1.o.size);have F2:=qd (F1.o.none hg2);have G2:=qd hr2;have hz2':wr.heap.size+1<=w2.heap.size:=by omega
  obtain⟨r1,hr1⟩:∃r1,r1=wr.heap.size:=⟨_,rfl⟩
  rw[←hr1] at G2 hz2' ⊢;have hfr:w.heap.size+1<=r1:=by omega
  clear hr2 hg2 hz2 hp F1 B1 hr1 hz;go_wp2_with fail
  go_frame
  go_loopg [7] M.length (fun kk v wq=>∃S L,KZ wq b r1 M S kk/\Qa wq w.heap.size F/\yF wq (w.heap.size+1) v L/\XI (xG E) N k n S L/\Below w.heap.size w wq/\r1+1<=wq.heap.size)
  case atStart=>exact⟨_,[],G2.o,F2.o,qj.nil _ _,XI.start _ _ _ _,B2.o,hz2'⟩
  case round=>
   obtain⟨S,L,hrg,hMF,hO,hL,hB,hz⟩:=hrel;obtain⟨av,cv,rfl,hvm⟩:=hO.sl.ex;have G3:=qd hrg;have F3:=qd hMF;have L3:=qd hO;have HL:=qd hL;have B3:=qd hB;have hLl:=hL.le;clear hrg hMF hO hL hB G2 F2 B2 hz2';go_wp2_with (at_next;refine qH.halt ?_)
   refine qH.go ?_;refine G3.o.wpList_next zm jb H.o.domM H.o.srtM rfl rfl (by rfl) ?_ ?_
   ·intro hd
    have HA:=qd (HL.o.all (fun a ha=>by rw[←H.o.keys] at ha;obtain⟨q,hq,rfl⟩:=List.mem_map.1 ha;exact hd q hq) HPN.o);have HLN:=qd (fun a (ha:a ∈ L)=>((HL.o.mem a).1 ha).1);clear hd HL G3;obtain⟨nl,hnl⟩:∃nl,nl=L.length:=⟨_,rfl⟩
    rw[←hnl] at hvm hLl L3 ⊢;have HNL:=qd hnl.symm;clear hnl;by_cases hl0:nl=0
    ·have e0:((nl:Int)==0)=true:=by simpa using hl0
     have HNO:=qd (fun a (hd:xK (xG E) k n a)=>by
      have h1:=(HA.o a).2 hd;have h2:=List.length_pos_of_mem h1;rw[HNL.o] at h2;omega:∀a,¬xK (xG E) k n a)
     clear hl0;go_wp2;go_ret;exact⟨_,F,rfl,Nat.le_refl _,F3.o,HF.o.done hn1 HNO.o,B3.o⟩
    ·have e0:((nl:Int)==0)=false:=by rw[beq_eq_false_iff_ne];omega
     have hnl2:n<=N.length:=by
      obtain⟨a,ha⟩:=List.exists_mem_of_length_pos (l:=L) (by have:=HNL.o;omega);exact((HA.o a).1 ha).le HPN.o
     have HPL:=fun j=>VW (n:=n) HF.o HPN.o (L:=L.take j) (fun a ha=>HLN.o a (List.mem_of_mem_take ha));have HPL:=qd HPL;clear hl0;go_wp2_with fail
     go_loopw [80] (fun i wq=>∃j:Nat,j<=nl/\i=.int .i64 j/\Qa wq w.heap.size (QN F (L.take j) n)/\yF wq (w.heap.size+1) (.slice av nl cv) L/\Below w.heap.size w wq) (fun i _=>nl - (intOf i).toNat)
     case atStart=>exact⟨0,by omega,by go_num,F3.o,L3.o,B3.o⟩
     case round=>
      obtain⟨j,hj,rfl,hMF,hO,hB⟩:=hrel;have F4:=qd hMF;have L4:=qd hO;have B4:=qd hB;have hpl:=HPL.o j;have hsp:=qd (Xc (n:=n) (L:=L.take j) HF.o.srt);have hdp:=qd (fun q (hq:q ∈ QN F (L.take j) n)=>by
       rcases(Xs HF.o.srt).1 hq with⟨h1,-⟩|⟨-,h1⟩
       ·exact H.o.domN _ (HLN.o _ (List.mem_of_mem_take h1))
       ·exact hFd.o _ h1:yE dI (QN F (L.take j) n))
      clear hMF hO hB F3 L3 B3;by_cases hlj:j < nl
      ·obtain ⟨g,x,rfl,-,hg,hx,hc⟩:=yF.at L4.o HNL.o hlj
       have hxd:dI x:=H.o.domN _ (HLN.o x (List.mem_of_getElem? hx));have HT:=qd (zk hx);have HS:=qd (Nt F (L.take j) x n);clear hx;generalize QN F (L.take j) n=Fj at *;go_wp2_with (at_mapUpdate;refine qH.halt ?_)
       refine qH.go ?_;refine F4.o.wpList_store zm yK hdp.o hsp.o Tryz.underlying138 (v:=(n:Int)) (by unfold maxLen;omega) hxd rfl rfl (by rfl) (by rfl) (by rfl) ?_;intro w5 h5 t5;have F5:=qd h5.tight;have L5:=qd (L4.o.turn t5);have B5:=qd (B4.o.trans (Below.turned t5 (Nat.le_refl _)));clear h5 t5 hc F4 L4 B4;go_wp2_with fail;go_roundw
       case rel=>exact⟨j+1,by omega,by go_num,by rw[HT.o,HS.o];exact F5.o,L5.o,B5.o⟩
       case measure=>simp[intOf];omega
      ·obtain rfl:j=nl:=by omega
       have HE:Hid (L.take j=L):=qd (by rw[←HNL.o,List.take_length]);go_wp2_with fail;go_roundw
       case rel=>exact⟨n+1,QN F L n,by go_num,by omega,by omega,HF.o.round HA.o,by rw[←HE.o];exact F4.o,B4.o,Nat.le_trans (Nat.succ_le_of_lt F4.o.lt) (Nat.le_refl _)⟩
       case measure=>simp[intOf];omega
   ·intro a0 u w3 k2 hxm hS hrg2 hlt2 hg2 hz2 hen
    have HSa:=qd hS;have O3:=qd hrg2;have F3':=qd (F3.o.nextK G3.o.iterAt hg2);have L3':=qd (L3.o.nextK G3.o.iterAt hg2);have B3':=qd (zK B3.o hg2 B3.o.size (by omega));have hxm':=qd hxm;have HaN:=H.o.inN hxm;have had:=H.o.domN a0 HaN;have hz3:r1+1<=w3.heap.size:=by omega
    clear hrg2 hg2 hS F3 L3 B3 G3 hz2 hxm;have lk:=Qi F3'.o hFd.o had rfl;cases hfa:fnd a0 F with
    |some d=>
     rw[hfa] at lk;simp only[Option.getD_some,Option.isSome_some] at lk;have HNo:=qd (fun(hd:xK (xG E) k n a0)=>by
      obtain⟨m,-,hm,hdm⟩:=HF.o.fnd_some.1 hfa;have:=hd.uniq hdm;omega:¬xK (xG E) k n a0)
     clear hfa;go_wp2_with fail
     go_roundg k2
     case measure=>exact hlt2
     case rel=>exact⟨_,L,O3.o,F3'.o,L3'.o,HL.o.miss HNo.o,B3'.o,hz3⟩
    |none=>
     rw[hfa] at lk;simp only[Option.getD_none,Option.isSome_none] at lk;have HHit:=qd (HF.o.hit_iff hn1 hfa);clear hfa;go_wp2_with (at_range;refine qH.halt ?_)
     refine qH.go ?_;refine((H.o.below B3'.o hhi).inn a0 u hxm'.o).2.1.wpList_range zm (H.o.domA hxm'.o) (H.o.inn a0 u hxm'.o).2.2.1 Tryz.underlying103 rfl rfl (by rfl) ?_;intro w4 hr4 hg4 hz4;have B4:=qd (yz B3'.o hg4 B3'.o.size);have F4:=qd (F3'.o.none hg4);have L4:=qd (L3'.o.none hg4);have O4:=qd (uS.none O3.o hg4);have G4:=qd hr4;have hz4':w3.heap.size+1<=w4.heap.size:=by omega
     obtain⟨r2,hr2⟩:∃r2,r2=w3.heap.size:=⟨_,rfl⟩
     rw[←hr2] at G4 hz4' hz3 ⊢;have hne:r1≠r2:=by omega
     have hwr2:w.heap.size<=r2:=by omega
     clear hr4 hg4 hz4 hr2 lk hen F3' L3' O3 B3';go_wp2_with fail
     go_frame
     go_loopg [7] (A a0).length (fun k3 v wq=>v=.slice av L.length cv/\∃S2,KZ wq u r2 (A a0) S2 k3/\KZ wq b r1 M (fun z=>S z&&!(z==a0)) k2/\Qa wq w.heap.size F/\yF wq (w.heap.size+1) (.slice av L.length cv) L/\(∀c ∈ row (xG E) a0,S2 c=false->hit F k n c=false)/\Below w.heap.size w wq/\r2+1<=wq.heap.size)
     case atStart=>exact⟨rfl,_,G4.o,O4.o,F4.o,L4.o,fun c _ h=>by simp at h,B4.o,hz4'⟩
     case round=>
      obtain⟨rfl,S2,hrg,hO,hMF,hL',hM,hB,hz⟩:=hrel;have G3:=qd hrg;have O3:=qd hO;have F3:=qd hMF;have L3:=qd hL';have HM:=qd hM;have B3:=qd hB;clear hrg hO hMF hL' hM hB G4 O4 F4 L4 B4 hz4';go_wp2_with (at_next;refine qH.halt ?_)
      refine qH.go ?_;refine G3.o.wpList_next zm jb (H.o.domA hxm'.o) (H.o.inn a0 u hxm'.o).2.2.1 rfl rfl (by rfl) ?_ ?_
      ·intro hd
       have HNo:Hid (¬xK (xG E) k n a0):=qd (fun hdd=>by
        obtain⟨c,hc,hh⟩:=HHit.o.2 hdd;have hc':c ∈ (A a0).map (·.1):=by rw[(H.o.inn a0 u hxm'.o).2.2.2];exact xI.2 hc
        obtain⟨q,hq,hq2⟩:=List.mem_map.1 hc';have:=HM.o c (xI.2 hc) (by rw[←hq2];exact hd q hq);rw[hh] at this;cases this)
       clear hd;go_wp2_with fail
       go_roundg k2
       case measure=>exact hlt2
       case rel=>exact⟨_,L,O3.o,F3.o,L3.o,HL.o.miss HNo.o,B3.o,by omega⟩
      ·intro b0 v0 w5 k4 hbm hS2 hrg4 hlt4 hg4 hz5 hen
       have hbr:=qd (show b0 ∈ row (xG E) a0 by rw[←(H.o.inn a0 u hxm'.o).2.2.2];exact List.mem_map.2 ⟨_,hbm,rfl⟩);have hb0:dI b0:=H.o.domR a0 b0 hbr.o;have G4:=qd hrg4;have O4:=qd (uS.nextK O3.o G3.o.iterAt hne hg4);have F4:=qd (F3.o.nextK G3.o.iterAt hg4);have L4:=qd (L3.o.nextK G3.o.iterAt hg4);have B4:=qd (zK B3.o hg4 B3.o.size hwr2);have zB4:w.heap.size+1<=w5.heap.size:=by omega
       have z4:r2+1<=w5.heap.size:=by omega
       clear hrg4 hg4 hS2 hbm hz5 G3 O3 F3 L3 B3;by_cases e1:b0=k
       ·have q1:(b0==k)=true:=by simpa using e1
        have q1':(b0 !=k)=false:=by simpa using e1
        clear e1;by_cases e2:n=1
        ·have q2:((n:Int)==1)=true:=by rw[beq_iff_eq];omega
         clear e2;have lk:=Qi F4.o hFd.o hb0 rfl;cases hfb:fnd b0 F with
         |none=>
          rw[hfb] at lk;simp only[Option.getD_none,Option.getD_some,Option.isSome_none,Option.isSome_some] at lk;have HH:=qd (show hit F k n b0=true by simp[hit,q1,q1',q2,hfb]);clear hfb;go_wp2_with (at_builtin;refine qM rfl _ _ _ rfl _ 8 Tryz.underlying30 Yt rfl L4.o a0 zB4 (by rfl) (by rfl) (by first|rfl|simp) rfl (QT _) (by first|omega|(simp only[List.length_append,List.length_cons,List.length_nil,List.length_replicate];omega)) (by first|omega|(simp only[List.length_append,List.length_cons,List.length_nil,List.length_replicate];omega)) ?_;refine qH.halt ?_)
          refine qH.go ?_;intro gn cn wn hn Gn;have O5:=qd (O4.o.grw L4.o Gn);have F5:=qd (F4.o.grw L4.o Gn);have L5:=qd hn;have B5:=qd (B4.o.trans (Gn.below B4.o.size fun q h=>by have:=(L4.o.lt q h).1;omega));have z5:=Gn.size;clear hn Gn O4 F4 L4 B4 G4;go_wp2_with fail
          go_roundg k2
          case measure=>exact hlt2
          case rel=>exact⟨_,L++[a0],O5.o,F5.o,by simpa using L5.o,HL.o.hit HSa.o HaN (HHit.o.1 ⟨b0,xI.1 hbr.o,HH.o⟩),B5.o,by omega⟩
         |some d=>
          rw[hfb] at lk;simp only[Option.getD_none,Option.getD_some,Option.isSome_none,Option.isSome_some] at lk;have HH:=qd (show hit F k n b0=true by simp[hit,q1,q1',q2,hfb]);clear hfb;go_wp2_with (at_builtin;refine qM rfl _ _ _ rfl _ 8 Tryz.underlying30 Yt rfl L4.o a0 zB4 (by rfl) (by rfl) (by first|rfl|simp) rfl (QT _) (by first|omega|(simp only[List.length_append,List.length_cons,List.length_nil,List.length_replicate];omega)) (by first|omega|(simp only[List.length_append,List.length_cons,List.length_nil,List.length_replicate];omega)) ?_;refine qH.halt ?_)
          refine qH.go ?_;intro gn cn wn hn Gn;have O5:=qd (O4.o.grw L4.o Gn);have F5:=qd (F4.o.grw L4.o Gn);have L5:=qd hn;have B5:=qd (B4.o.trans (Gn.below B4.o.size fun q h=>by have:=(L4.o.lt q h).1;omega));have z5:=Gn.size;clear hn Gn O4 F4 L4 B4 G4;go_wp2_with fail
          go_roundg k2
          case measure=>exact hlt2
          case rel=>exact⟨_,L++[a0],O5.o,F5.o,by simpa using L5.o,HL.o.hit HSa.o HaN (HHit.o.1 ⟨b0,xI.1 hbr.o,HH.o⟩),B5.o,by omega⟩
        ·have q2:((n:Int)==1)=false:=by rw[beq_eq_false_iff_ne];omega
         clear e2;have lk:=Qi F4.o hFd.o hb0 rfl;cases hfb:fnd b0 F with
         |none=>
          rw[hfb] at lk;simp only[Option.getD_none,Option.isSome_none] at lk;have HH:=qd (show hit F k n b0=false by simp[hit,q1,q1',hfb,q2]);clear hfb;go_wp2_with fail
          go_roundg k4
          case measure=>exact hlt4
          case rel=>exact⟨rfl,_,G4.o,O4.o,F4.o,L4.o,fun c hc hs=>by
           by_cases ec:c=b0
           ·rw [ec];exact HH.o
           ·have ec2:(c==b0)=false:=by simpa using ec
            rw[ec2] at hs;exact HM.o c hc (by simpa using hs),B4.o,z4⟩
         |some d=>
          rw[hfb] at lk;simp only[Option.getD_some,Option.isSome_some] at lk;by_cases e3:d=(n:Int) - 1
          ·have q3:(d==(n:Int) - 1)=true:=by simpa using e3
           clear e3;have HH:=qd (show hit F k n b0=false by simp[hit,q1,q1',q3,hfb,q2]);clear hfb;go_wp2_with fail
           go_roundg k4
           case measure=>exact hlt4
           case rel=>exact⟨rfl,_,G4.o,O4.o,F4.o,L4.o,fun c hc hs=>by
            by_cases ec:c=b0
            ·rw [ec];exact HH.o
            ·have ec2:(c==b0)=false:=by simpa using ec
             rw[ec2] at hs;exact HM.o c hc (by simpa using hs),B4.o,z4⟩
          ·have q3:(d==(n:Int) - 1)=false:=by simpa using e3
           clear e3;have HH:=qd (show hit F k n b0=false by simp[hit,q1,q1',q3,hfb,q2]);clear hfb;go_wp2_with fail
           go_roundg k4
           case measure=>exact hlt4
           case rel=>exact⟨rfl,_,G4.o,O4.o,F4.o,L4.o,fun c hc hs=>by
            by_cases ec:c=b0
            ·rw [ec];exact HH.o
            ·have ec2:(c==b0)=false:=by simpa using ec
             rw[ec2] at hs;exact HM.o c hc (by simpa using hs),B4.o,z4⟩
       ·have q1:(b0==k)=false:=by simpa using e1
        have q1':(b0 !=k)=true:=by simpa using e1
        clear e1;have lk:=Qi F4.o hFd.o hb0 rfl;cases hfb:fnd b0 F with
        |none=>
         rw[hfb] at lk;simp only[Option.getD_none,Option.isSome_none] at lk;have HH:=qd (show hit F k n b0=false by simp[hit,q1,q1',hfb]);clear hfb;go_wp2_with fail
         go_roundg k4
         case measure=>exact hlt4
         case rel=>exact⟨rfl,_,G4.o,O4.o,F4.o,L4.o,fun c hc hs=>by
          by_cases ec:c=b0
          ·rw [ec];exact HH.o
          ·have ec2:(c==b0)=false:=by simpa using ec
           rw[ec2] at hs;exact HM.o c hc (by simpa using hs),B4.o,z4⟩
        |some d=>
         rw[hfb] at lk;simp only[Option.getD_some,Option.isSome_some] at lk;by_cases e3:d=(n:Int) - 1
         ·have q3:(d==(n:Int) - 1)=true:=by simpa using e3
          clear e3;have HH:=qd (show hit F k n b0=true by simp[hit,q1,q1',q3,hfb]);clear hfb;go_wp2_with (at_builtin;refine qM rfl _ _ _ rfl _ 8 Tryz.underlying30 Yt rfl L4.o a0 zB4 (by rfl) (by rfl) (by first|rfl|simp) rfl (QT _) (by first|omega|(simp only[List.length_append,List.length_cons,List.length_nil,List.length_replicate];omega)) (by first|omega|(simp only[List.length_append,List.length_cons,List.length_nil,List.length_replicate];omega)) ?_;refine qH.halt ?_)
          refine qH.go ?_;intro gn cn wn hn Gn;have O5:=qd (O4.o.grw L4.o Gn);have F5:=qd (F4.o.grw L4.o Gn);have L5:=qd hn;have B5:=qd (B4.o.trans (Gn.below B4.o.size fun q h=>by have:=(L4.o.lt q h).1;omega));have z5:=Gn.size;clear hn Gn O4 F4 L4 B4 G4;go_wp2_with fail
          go_roundg k2
          case measure=>exact hlt2
          case rel=>exact⟨_,L++[a0],O5.o,F5.o,by simpa using L5.o,HL.o.hit HSa.o HaN (HHit.o.1 ⟨b0,xI.1 hbr.o,HH.o⟩),B5.o,by omega⟩
         ·have q3:(d==(n:Int) - 1)=false:=by simpa using e3
          clear e3;have HH:=qd (show hit F k n b0=false by simp[hit,q1,q1',q3,hfb]);clear hfb;go_wp2_with fail
          go_roundg k4
          case measure=>exact hlt4
          case rel=>exact⟨rfl,_,G4.o,O4.o,F4.o,L4.o,fun c hc hs=>by
           by_cases ec:c=b0
           ·rw [ec];exact HH.o
           ·have ec2:(c==b0)=false:=by simpa using ec
            rw[ec2] at hs;exact HM.o c hc (by simpa using hs),B4.o,z4⟩
end
theorem Wf {w:World} {B g n cap:Nat} {e:TypeId} {xs:List Value} {z:Value} (h:w.ownsRow B e 1 (.slice (some ⟨g,0,none⟩) (n+1) cap) (n+1) (xs++[z])):w.ownsRow B e 1 (.slice (some ⟨g,0,none⟩) n cap) n xs:=by
 obtain⟨h1,h2⟩:=h;have hl:xs.length=n:=by simp at h1;omega
 refine⟨by omega,?_⟩;rcases h2 with⟨h2,-⟩|⟨g',cap',cur,hv,hg,hh,hnc,hcm,hs,ht⟩
 ·cases h2
 ·simp only[Value.slice.injEq,Option.some.injEq,Addr.mk.injEq,and_true,true_and] at hv
  obtain⟨rfl,rfl⟩:=hv;refine .inr ⟨g,cap,cur,rfl,hg,hh,by omega,hcm,hs,?_⟩;have h3:=congrArg (List.take n) ht;rw[List.take_take,Nat.min_eq_left (by omega),List.take_left' hl] at h3;rw[Nat.mul_one];exact h3
theorem grow_nil (w:World):grow w #[]=w:=by
 cases w;simp[grow]
theorem deleteI {w:World} {B g n cap:Nat} {l:List Int} (h:yF w B (.slice (some ⟨g,0,none⟩) n cap) l) (hn:l.length=n) {i:Nat} (hi:i < n):
  Calls Tryz.prog 112 #[.slice (some ⟨g,0,none⟩) n cap,.int .i64 (i:Int),.int .i64 ((i:Int)+1)] w fun e w'=>e=.returned (.slice (some ⟨g,0,none⟩) (n - 1) cap)/\yF w' B (.slice (some ⟨g,0,none⟩) (n - 1) cap) (l.eraseIdx i)/\w.grownBy w' (some g):=by
 subst hn;obtain⟨-,h2⟩:=h;rcases h2 with⟨h2,-⟩|⟨g',cap',cur,hv,hg,hh,hnc,hcm,hs,ht⟩
 ·cases h2
 ·simp only[Value.slice.injEq,Option.some.injEq,Addr.mk.injEq,and_true,true_and] at hv
  obtain⟨rfl,rfl⟩:=hv;rw[vV,Nat.mul_one] at ht;have hd:=Any.slices_Delete_int del23 g 0 cap i (i+1) l w (holds_of_blockI hh ht) hnc (by unfold maxLen at hcm;omega) (by omega) hi;rw[show ((i+1:Nat):Int)=(i:Int)+1 from by omega] at hd;refine hd.mono ?_;rintro e w' ⟨rfl,q,rfl⟩;rw[show i+1 - i=1 from by omega];have hts:(l.take i++l.drop (i+1)++List.replicate 1 0).length=l.length:=by simp;omega
  have h3:=ownsRow_sortedI (n:=q) (os:=#[]) hts hg hh hnc hcm hs;have h4:=grownBy_sortedI (w:=w) (g:=g) (n:=q) (os:=#[]) (l.take i++l.drop (i+1)++List.replicate 1 0).toArray;rw[grow_nil] at h3 h4;refine⟨rfl,?_,h4⟩;obtain⟨m,hm⟩:∃m,l.length=m+1:=⟨l.length - 1,by omega⟩
  rw[hm] at h3 ⊢;rw[List.map_append] at h3;have h5:=Wf (z:=.int .i64 0) h3;have he:(l.eraseIdx i).length=m:=by rw[List.length_eraseIdx,if_pos hi];omega
  show World.ownsRow _ B _ 1 _ (l.eraseIdx i).length _;rw[he,vV,List.eraseIdx_eq_take_drop_succ];exact h5
theorem lookI {w:World} {f:Nat} {F:List (Int×Int)} (h:Qa w f F) (hd:yE dI F) {a:Int} (ha:dI a):(Instr.lookup 138 (.map (some f)) (.int .i64 a) false).run Tryz.prog w=.ok (.int .i64 ((fnd a F).getD 0)) w:=by
 have:=h.look zm yK hd Tryz.underlying138 (Mu w) ha;rw[this];cases fnd a F <;> rfl
theorem Kb {w:World} {f c:Nat} {F:List (Int×Int)} (h:Qa w f F) (hd:yE dI F) (hc:w.cell? ⟨c,0,none⟩=some (.map (some f))) (x:Int) (hx:dI x):
  Calls Tryz.prog 111 #[.int .i64 x,.pointer (some ⟨c,0,none⟩)] w fun e w'=>e=.returned (.bool ((fnd x F).getD 0==0))/\w=w':=by
 have lk:=lookI h hd hx;have H:=qd h;clear h;go_enter Tryz.func111,Tryz.ntmps111;go_wp2;go_ret;exact⟨rfl,rfl⟩
def FirstZ (F:List (Int×Int)) (l:List Int) (r:Int):Prop:=
 (r=-1/\∀x ∈ l,(fnd x F).getD 0≠0)\/∃(i:Nat) (x:Int),r=i/\l[i]?=some x/\(fnd x F).getD 0=0/\∀y ∈ l.take i,(fnd y F).getD 0≠0
theorem Ka {w:World} {f c B n cap:Nat} {a:Option Addr} {F:List (Int×Int)} {l:List Int} (h:Qa w f F) (hd:yE dI F) (hc:w.cell? ⟨c,0,none⟩=some (.map (some f))) (ho:yF w B (.slice a n cap) l) (hn:l.length=n) (hld:∀x ∈ l,dI x):
  Calls Tryz.prog 110 #[.slice a n cap,.func (.func 111) #[] #[.pointer (some ⟨c,0,none⟩)]] w fun e w'=>∃r,e=.returned (.int .i64 r)/\FirstZ F l r/\w=w':=by
 obtain⟨_,_,e,hnm⟩:=ho.sl.ex;simp only[Value.slice.injEq] at e;have hnm2:n<=9223372036854775807:=by omega
 have H:=qd h;have HO:=qd ho;have HN:=qd hn;have HD:=qd hd;have HLD:=qd hld;clear h ho hn hd hld e hnm;go_enter Tryz.func110,Tryz.ntmps110;go_wp2_with fail
 go_loop [8] (fun i=>∃k:Nat,k<=n/\i=.int .i64 k/\∀y ∈ l.take k,(fnd y F).getD 0≠0) (fun i=>n - (intOf i).toNat)
 case atStart=>exact⟨0,by omega,by go_num,fun y hy=>by simp at hy⟩
 case round=>
  obtain⟨k,hk,rfl,hM⟩:=hrel;have HM:=qd hM;clear hM;by_cases hlt:k < n
  ·obtain ⟨g,x,rfl,-,hg,hx,hcx⟩:=yF.at HO.o HN.o hlt
   have hxd:=HLD.o x (List.mem_of_getElem? hx);have HX:=qd hx;clear hx;go_wp2_with fail;refine(Kb H.o HD.o hc x hxd).mono ?_;rintro e w2 ⟨rfl,rfl⟩;by_cases hz:(fnd x F).getD 0=0
   ·have hz2:((fnd x F).getD 0==0)=true:=by simpa using hz
    rw[hz2];have HZ:=qd hz;clear hz hz2;go_wp2;go_ret;exact⟨k,rfl,.inr ⟨k,x,rfl,HX.o,HZ.o,HM.o⟩,rfl⟩
   ·have hz2:((fnd x F).getD 0==0)=false:=by simpa using hz
    rw[hz2];have HZ:=qd hz;clear hz hz2;go_wp2_with fail
    go_round
    case rel=>exact⟨k+1,by omega,by go_num,fun y hy=>by
     rcases(zD HX.o).1 hy with hy|rfl
     ·exact HM.o y hy
     ·exact HZ.o⟩
    case measure=>simp[intOf];omega
  ·obtain rfl:k=n:=by omega
   go_wp2;go_ret;exact⟨-1,rfl,.inl ⟨rfl,fun x hx=>HM.o x (by rw[←HN.o,List.take_length];exact hx)⟩,rfl⟩
section
variable {w w':World} {c r:Nat} {cs:Array Value} {t:TypeId} {fz:Nat×Nat}
theorem XN (h:w.heap[c]?=some (.cells cs t fz)) (hi:Jj w r) (hg:w.grownBy w' (some r)):w'.heap[c]?=some (.cells cs t fz):=by
 refine(hg.block c (qe h) fun e=>?_).trans h;cases e;obtain⟨m,s,s2,c0,hr⟩:=hi;rw[h] at hr;cases hr
theorem Xj (h:w.heap[c]?=some (.cells cs t fz)) (hg:w.grownBy w' none):w'.heap[c]?=some (.cells cs t fz):=(hg.block c (qe h) (by simp)).trans h
theorem VR {q:Nat} (h:w.heap[c]?=some (.cells cs t fz)) (ht:w.mapTurned w' q):w'.heap[c]?=some (.cells cs t fz):=(jP.turned ht).cells h
end
abbrev Ml (w:World) (c f:Nat):Prop:=w.heap[c]?=some (.cells #[.map (some f)] 138 (0,0))
theorem Mf {P:List Pr} {N:List Int}:ji N [] (xA P fun _=>false):=ji.nil N _ fun x=>KD P _ x fun _=>rfl
theorem NM {P:List Pr} (hP:Vw P) {S:Int->Bool} {a:Int} (ha:S a=true) (x:Int):xA P (fun z=>!(S z&&!(z==a))) x=xA P (fun z=>!S z) x+if (a,x) ∈ P then 1 else 0:=
 Um hP.nodup a x (by rw[ha];rfl) fun z=>by cases S z <;> cases hz:(z==a) <;> rfl
theorem NL {P:List Pr} (hP:Vw P) {out:List Int} {a:Int} (ha:a ∉ out) (x:Int):xA P (fun z=>!out.contains z) x=xA P (fun z=>!(out++[a]).contains z) x+if (a,x) ∈ P then 1 else 0:=
 KE hP.nodup a x (by simpa using ha) fun z=>by
  by_cases e:z=a
  ·subst e;simp
  ·have:(z==a)=false:=by simpa using e
   simp[List.contains_eq_mem,this,e]
theorem ZF {P:List Pr} {N out:List Int} {D:List (Int×Int)} (h:ji N D (xA P fun z=>!out.contains z)) (x:Int):(fnd x D).getD 0=0↔Uq P out x=true:=by
 rw[h.at',Up];constructor
 ·intro h0 a ha
  have:=ZB.1 (Int.ofNat.inj h0) a ha;simpa using this
 ·intro hf
  have:xA P (fun z=>!out.contains z) x=0:=ZB.2 fun a ha=>by simpa using hf a ha
  rw[this];rfl
theorem ji.dom {N:List Int} {D:List (Int×Int)} {c:Int->Nat} (h:ji N D c) (hN:∀a ∈ N,dI a):yE dI D:=fun q hq=>hN _ (h.keys q hq)
section
variable {w:World} {lo hi p:Nat} {N:List Int} {E:List jI}
theorem gr_topo (h:jj w lo hi p N E) (hhi:hi<=w.heap.size) (hN:N.length<=900000) (hE:E.length<=900000):Calls Tryz.prog 67 #[.pointer (some ⟨p,0,none⟩)] w fun e w'=>
  ∃v o,e=.returned (.tuple #[v,.bool (o:Option (List Int)).isSome])/\yF w' w.heap.size v (o.getD [])/\o=uq (xG E) N/\Below w.heap.size w w':=by
 have HG:=qd h;obtain⟨b,ow,M,A,h⟩:=h;have hpl:=h.hp;have H:=qd h;have hmm:=@run_makeMap Tryz.prog;have HPN:=qd (fun(x:Pr) (hx:x ∈ xG E)=>(h.ok.pair hx).1);have HPN2:=qd (fun(x:Pr) (hx:x ∈ xG E)=>(h.ok.pair hx).2);have HSP:=qd (uX E);have hPl:(xG E).length<=900000:=Nat.le_trans (Zt E) hE;have HIL:=qd (fun p x=>indeg_le (xG E) p x);have HLM:=h.lenM;have hM:M.length<=900000:=by omega
 have hbl:=h.hb;have HML:=qd HLM;clear h HLM;obtain⟨i,hi,hz0,hz1,hz2⟩:∃i,Tryz.prog.info? 3=some i/\i.zero=some (.int .i64 0)/\i.size=1/\i.bytes=8:=by
  have:=Yt;cases hh:Tryz.prog.info? 3 with
  |none=>rw[hh] at this;simp at this
  |some i=>rw[hh] at this;simp at this;exact⟨i,rfl,this.1,this.2.1,this.2.2⟩
 have HI:=qd (And.intro hi (And.intro hz0 (And.intro hz1 hz2)));clear hi hz0 hz1 hz2;go_enter Tryz.func67,Tryz.ntmps67;have hp0:=qa (qy (o:=.cells #[.map (some w.heap.size)] 138) (qy (o:=.map #[] 0) H.o.ptr)) 0;have M1:=qd (((qG.made w).alloc (.cells #[.map (some w.heap.size)] 138)):Qa _ _ []);have C1:Ml ((w.alloc (.map #[] 0)).alloc (.cells #[.map (some w.heap.size)] 138)) (w.heap.size+1) w.heap.size:=qX (by simp);have B1:=qd (((Below.refl w.heap.size w).alloc (Nat.le_refl _) (.map #[] 0)).alloc (by simp) (.cells #[.map (some w.heap.size)] 138));have G1:=qd (H.o.below B1.o hhi);have z1:w.heap.size+2<=((w.alloc (.map #[] 0)).alloc (.cells #[.map (some w.heap.size)] 138)).heap.size:=by simp
 have HC1:=qd C1;clear C1;go_wp2_with (at_range;refine qH.halt ?_)
 refine qH.go ?_;refine(G1.o.o).wpList_range zm H.o.domM H.o.srtM Tryz.underlying104 rfl rfl (by rfl) ?_;intro w2 hr2 hg2 hz2;have M2:=qd (M1.o.none hg2);have C2:=qd (Xj HC1.o hg2);have B2:=qd (yz B1.o hg2 B1.o.size);have O2:=qd hr2;obtain⟨r1,hr1⟩:∃r1,r1=((w.alloc (.map #[] 0)).alloc (.cells #[.map (some w.heap.size)] 138)).heap.size:=⟨_,rfl⟩
 have hrw:w.heap.size+2<=r1:=by omega
 have hz2':r1+1<=w2.heap.size:=by omega
 rw[←hr1] at O2 ⊢;have D2:=qd ((Mf (P:=xG E) (N:=N)).congr (c':=fun x=>xA (xG E) (fun z=>!(fun _=>true) z) x) fun x=>rfl);clear hr2 hg2 hz2 hr1 M1 HC1 B1 G1 z1 hp0;go_wp2_with fail
 try go_frame
 go_loopg [] M.length (fun k wq=>∃S D,KZ wq b r1 M S k/\Qa wq w.heap.size D/\ji N D (xA (xG E) fun z=>!S z)/\Ml wq (w.heap.size+1) w.heap.size/\Below w.heap.size w wq/\r1+1<=wq.heap.size)
 case atStart=>exact⟨_,[],O2.o,M2.o,D2.o,C2.o,B2.o,hz2'⟩
 case round=>
  obtain⟨S,D,hrg,hMD,hD,hC,hB,hz⟩:=hrel;have O3:=qd hrg;have M3:=qd hMD;have D3:=qd hD;have C3:=qd hC;have B3:=qd hB;clear hrg hMD hD hC hB O2 M2 D2 C2 B2 hz2';go_wp2_with (at_next;refine qH.halt ?_)
  refine qH.go ?_;refine O3.o.wpList_next zm jb H.o.domM H.o.srtM rfl rfl (by rfl) ?_ ?_
  ·intro hd
   have D4:=qd (D3.o.congr (c':=xA (xG E) fun z=>!([]:List Int).contains z) fun x=>Wu fun a ha=>by
    have haN:=HPN.o _ ha;rw[←H.o.keys] at haN;obtain⟨q,hq,hq2⟩:=List.mem_map.1 haN;have:=hd q hq;rw[hq2] at this;rw[this];rfl)
   clear hd D3 O3;obtain⟨hi,hz0,hz1,hz2⟩:=HI.o;have hln:=fun ty=>(H.o.below B3.o hhi).o.len Tryz.underlying104 ty;have hp3:=qa (H.o.below B3.o hhi).ptr 0;have hzz:w.heap.size+2<=wr.heap.size:=by omega
   go_wp2_with (at_make;refine wpList_make_own _ rfl _ _ _ rfl (w.heap.size+2) 3 i _ 1 Tryz.underlying30 hi hz0 hz1 .i64 .i64 (M.length:Int) M.length (by rfl) (by rfl) rfl (by rw[hz2];omega) (by unfold maxLen;omega) hzz ?_;refine qH.halt ?_)
   refine qH.go ?_;intro w4 o4 g4;have O8:=qd (show yF w4 (w.heap.size+2) (.slice (some ⟨wr.heap.size,0,none⟩) 0 M.length) [] from o4);have M4:=qd (M3.o.none g4);have C4:=qd (Xj C3.o g4);have B4:=qd (yz B3.o g4 B3.o.size);have z4:w.heap.size+2<=w4.heap.size:=by have:=g4.size;omega
   clear o4 g4 hi hz0 hz1 hz2 hln hp3 M3 C3 B3;go_wp2_with fail;refine(Ww (HG.o.below B4.o hhi) (by omega)).mono ?_;rintro e w5 ⟨v9,rfl,h5,b5⟩;have M5:=qd (M4.o.below b5 M4.o.lt);have C5:=qd (qh C4.o b5 (qe C4.o));have O8':=qd (O8.o.below b5);have B5:=qd (B4.o.trans (b5.mono B4.o.size));have O9:=qd (qj.base (B':=w.heap.size+2) h5 z4);have HNE:=qd (fun q (h3:v9.ownBlock=some q)=>(fun h4=>by
    have:=h5.lt q h3;have:=O8.o.lt q h4;omega:(Value.slice (some ⟨wr.heap.size,0,none⟩) 0 M.length).ownBlock≠some q))
   have z5:w.heap.size+2<=w5.heap.size:=by have:=b5.size;omega
   have HL0:Hid (yi N []=N):=qd (left_nil N);clear h5 b5 O8 M4 C4 B4;go_wp2_with fail
   go_loopg [8,9] N.length (fun k v8 v9 wq=>∃out D,k=(yi N out).length/\yF wq (w.heap.size+2) v8 out/\yF wq (w.heap.size+2) v9 (yi N out)/\(∀q,v9.ownBlock=some q->v8.ownBlock≠some q)/\Qa wq w.heap.size D/\ji N D (xA (xG E) fun z=>!out.contains z)/\
    Ml wq (w.heap.size+1) w.heap.size/\uq (xG E) N=zI (xG E) N (yi N out).length out/\out.length+(yi N out).length<=N.length/\Below w.heap.size w wq/\w.heap.size+2<=wq.heap.size)
   case atStart=>exact⟨[],D,by rw[HL0.o],O8'.o,by rw[HL0.o];exact O9.o,HNE.o,M5.o,D4.o,C5.o,by rw[HL0.o];rfl,by rw[HL0.o];simp,B5.o,z5⟩
   case round=>
    obtain⟨out,D',hk,hO8,hO9,hne,hMD,hD,hC,hT,hol,hB,hz⟩:=hrel;obtain⟨a8,c8,rfl,hm8⟩:=hO8.sl.ex;obtain⟨a9,c9,rfl,hm9⟩:=hO9.sl.ex;have hnl:=qd (show(yi N out).length<=N.length from List.length_filter_le _ _);have HLd:=qd (fun x (hx:x ∈ yi N out)=>H.o.domN x (uL.1 hx).1);have HLN:=qd (fun x (hx:x ∈ yi N out)=>(uL.1 hx).1);have HLO:=qd (fun x (hx:x ∈ yi N out)=>(uL.1 hx).2);have HER:=qd (fun i x (hx:(yi N out)[i]?=some x)=>Zv H.o.ok.srtN hx);have HLL:=qd (fun i x (hx:(yi N out)[i]?=some x)=>Wo H.o.ok.srtN hx);have HNX:=qd (ND (P:=xG E) (N:=N) (out:=out));generalize yi N out=Lf at *;obtain⟨nl,hnl2⟩:∃nl,nl=Lf.length:=⟨_,rfl⟩
    rw[←hnl2] at hm9 hO9 hne hol ⊢;have hnl3:nl<=900000:=by have:=hnl.o;omega
    have HN9:=qd hnl2.symm;have HK:=qd hk;have O8:=qd hO8;have O9:=qd hO9;have HNE:=qd hne;have M6:=qd hMD;have D6:=qd hD;have C6:=qd hC;have HT:=qd hT;have B6:=qd hB;have hol2:out.length<=900000:=by omega
    clear hk hO8 hO9 hne hMD hD hC hT hB hnl2 hnl O8' M5 C5 B5 HL0 D4;by_cases h0:nl=0
    ·subst h0
     have HE:=qd (show uq (xG E) N=some out by rw[HT.o,HN9.o];rfl);go_wp2
     go_ret2
     exact⟨_,some out,rfl,O8.o.base (by omega),HE.o.symm,B6.o⟩
    ·obtain ⟨g9,x0,rfl,hg9,hg9',hx0,hc0⟩:=yF.at O9.o HN9.o (k:=0) (by omega)
     clear hx0 hc0;go_wp2_with fail;refine(Ka M6.o (D6.o.dom H.o.domN) (qa C6.o 0) O9.o HN9.o HLd.o).mono ?_;rintro e w7 ⟨r,rfl,hr,rfl⟩;rcases hr with⟨rfl,hall⟩|⟨j,x,rfl,hx,hzx,hbf⟩
     ·have HE:=qd (show uq (xG E) N=none by
       rw[HT.o,HN9.o];obtain⟨q,rfl⟩:∃q,nl=q+1:=⟨nl - 1,by omega⟩
       refine VB ?_;rw[HNX.o];exact NT fun y hy=>by
        have:=hall y hy;rw[Ne,ZF D6.o] at this;simpa using this)
      clear hall;go_wp2
      go_ret2
      exact⟨.slice none 0 0,none,rfl,qj.nil _ _,HE.o.symm,B6.o⟩
     ·have HX:=qd hx
      have hjl:j < nl:=by have:=(List.getElem?_eq_some_iff.1 hx).1;have:=HN9.o;omega
      have hxL:=List.mem_of_getElem? hx;have hxN:=HLN.o x hxL;have hxo:=qd (HLO.o x hxL);have hxd:dI x:=H.o.domN x hxN;have HT2:=qd (show uq (xG E) N=zI (xG E) N (nl - 1) (out++[x]) by
       rw[HT.o,HN9.o];obtain⟨q,rfl⟩:∃q,nl=q+1:=⟨nl - 1,by omega⟩
       refine VA ?_;rw[HNX.o];exact find_at hx ((ZF D6.o x).1 hzx) fun y hy=>by
        have:=hbf y hy;rw[Ne,ZF D6.o] at this;simpa using this)
      obtain⟨g9',y9,e9,-,-,hy9,hcx⟩:=yF.at O9.o HN9.o hjl;simp only[Option.some.injEq,Addr.mk.injEq,and_true] at e9;subst e9;rw[hx] at hy9;obtain rfl:=Option.some.inj hy9;obtain⟨u,hfu⟩:=H.o.there hxN;have hu:=H.o.here hfu;have HU:=qd hu;have HFU:=qd hfu;clear hx hzx hbf hxL hy9 hfu hu;go_wp2_with fail;refine(deleteI O9.o HN9.o hjl).mono ?_;rintro e w7 ⟨rfl,o9,gw7⟩;rw[HER.o j x HX.o] at o9;have Q9:=qd o9;have Q8:=qd (O8.o.kept gw7 (by
       rcases hq:(Value.slice a8 out.length c8).ownBlock with _|q
       ·exact .inl rfl
       ·refine .inr fun e=>HNE.o g9 rfl (by rw[hq];exact e)))
      have M7:=qd (M6.o.obj (gw7.block _ M6.o.lt fun e=>by have:=Option.some.inj e;omega));have C7:=qd (show Ml w7 (w.heap.size+1) w.heap.size from(gw7.block _ (qe C6.o) fun e=>by have:=Option.some.inj e;omega).trans C6.o);have B7:=qd (B6.o.grown gw7 B6.o.size fun k e=>by cases e;omega);have z7:w.heap.size+2<=w7.heap.size:=by have:=gw7.size;omega
      have D7:=qd (D6.o.congr (c':=fun y=>xA (xG E) (fun z=>!(out++[x]).contains z) y+if y ∈ row (xG E) x/\(fun _:Int=>true) y=true then 1 else 0) fun y=>by
       rw[NL HSP.o hxo.o];congr 1;by_cases hy:y ∈ row (xG E) x
       ·rw [if_pos ⟨hy,rfl⟩,if_pos (xI.1 hy)]
       ·rw [if_neg fun h=>hy h.1,if_neg fun h=>hy (xI.2 h)])
      clear o9 gw7 O9 O8 M6 C6 B6 D6 hcx;go_wp2_with (at_builtin;refine qM rfl _ _ _ rfl _ 8 Tryz.underlying30 Yt rfl Q8.o x z7 (by rfl) (by rfl) (by first|rfl|simp) rfl (QT _) (by first|omega|(simp only[List.length_append,List.length_cons,List.length_nil,List.length_replicate];omega)) (by first|omega|(simp only[List.length_append,List.length_cons,List.length_nil,List.length_replicate];omega)) ?_;refine qH.halt ?_)
      refine qH.go ?_;intro gn cn w8 hn Gn;have P8:=qd hn;have P9:=qd (Q9.o.grw Gn HNE.o);have HNE2:=qd (fun q (h3:(Value.slice (some ⟨g9,0,none⟩) (nl - 1) c9).ownBlock=some q)=>(fun h4=>by
       rcases Gn.own q h4 with h5|h5
       ·exact HNE.o q h3 h5
       ·have:=(Q9.o.lt q h3).2;omega:(Value.slice (some ⟨gn,0,none⟩) (out.length+1) cn).ownBlock≠some q))
      have M8:=qd (M7.o.grw Q8.o Gn);have C8:=qd (qS C7.o Gn fun e=>by have:=(Q8.o.lt _ e).1;omega);have B8:=qd (B7.o.trans (Gn.below B7.o.size fun q h=>by have:=(Q8.o.lt q h).1;omega));have z8:w.heap.size+2<=w8.heap.size:=by have:=Gn.size;omega
      have hp8:=qa (H.o.below B8.o hhi).ptr 0;have lk8:=(H.o.below B8.o hhi).look hxd HFU.o;clear hn Gn Q8 Q9 M7 C7 B7;go_wp2_with (at_range;refine qH.halt ?_)
      refine qH.go ?_;refine((H.o.below B8.o hhi).inn x u HU.o).2.1.wpList_range zm (H.o.domA HU.o) (H.o.inn x u HU.o).2.2.1 Tryz.underlying103 rfl rfl (by rfl) ?_;intro w9 hr9 hg9'' hz9;have B9:=qd (yz B8.o hg9'' B8.o.size);have M9:=qd (M8.o.none hg9'');have C9:=qd (Xj C8.o hg9'');have Q8:=qd (P8.o.none hg9'');have Q9:=qd (P9.o.none hg9'');have G9:=qd hr9;have hz9':w8.heap.size+1<=w9.heap.size:=by omega
      obtain⟨r2,hr2⟩:∃r2,r2=w8.heap.size:=⟨_,rfl⟩
      rw[←hr2] at G9 hz9' ⊢;have hwr2:w.heap.size+2<=r2:=by omega
      have hul:=(H.o.inn x u HU.o).1;clear hr9 hg9'' hz9 hr2 hp8 lk8 P8 P9 M8 C8 B8;go_wp2_with fail
      try go_frame
      go_loopg [] (A x).length (fun k3 wq=>∃S2 D,KZ wq u r2 (A x) S2 k3/\yF wq (w.heap.size+2) (.slice (some ⟨gn,0,none⟩) (out.length+1) cn) (out++[x])/\yF wq (w.heap.size+2) (.slice (some ⟨g9,0,none⟩) (nl - 1) c9) (yi N (out++[x]))/\Qa wq w.heap.size D/\
       ji N D (fun y=>xA (xG E) (fun z=>!(out++[x]).contains z) y+if y ∈ row (xG E) x/\S2 y=true then 1 else 0)/\Ml wq (w.heap.size+1) w.heap.size/\Below w.heap.size w wq/\r2+1<=wq.heap.size)
      case atStart=>exact⟨_,D',G9.o,Q8.o,Q9.o,M9.o,D7.o.congr fun y=>by simp,C9.o,B9.o,hz9'⟩
      case round=>
       obtain⟨S2,D2,hrg,hO8,hO9,hMD,hD,hC,hB,hz⟩:=hrel;have G6:=qd hrg;have O8:=qd hO8;have O9:=qd hO9;have M6:=qd hMD;have D6:=qd hD;have C6:=qd hC;have B6:=qd hB;clear hrg hO8 hO9 hMD hD hC hB G9 Q8 Q9 M9 D7 C9 B9 hz9';go_wp2_with (at_next;refine qH.halt ?_)
       refine qH.go ?_;refine G6.o.wpList_next zm jb (H.o.domA HU.o) (H.o.inn x u HU.o).2.2.1 rfl rfl (by rfl) ?_ ?_
       ·intro hd
        have D7:=qd (D6.o.congr (c':=xA (xG E) fun z=>!(out++[x]).contains z) fun y=>by
         rw[if_neg,Nat.add_zero];rintro⟨hy,hs⟩;rw[←(H.o.inn x u HU.o).2.2.2] at hy;obtain⟨q,hq,hq2⟩:=List.mem_map.1 hy;rw[←hq2,hd q hq] at hs;cases hs)
        have hll:=HLL.o j x HX.o;have HLL2:=qd (show(yi N (out++[x])).length=nl - 1 by have:=HN9.o;omega);clear hd hll;go_wp2_with fail
        go_roundg (nl - 1)
        case measure=>have:=HK.o;have:=HN9.o;omega
        case rel=>exact⟨out++[x],D2,HLL2.o.symm,by simpa using O8.o,O9.o,HNE2.o,M6.o,D7.o,C6.o,by rw[HLL2.o];exact HT2.o,by rw[HLL2.o];simp;omega,B6.o,by omega⟩
       ·intro b0 v0 w5 k4 hbm hS2 hrg4 hlt4 hg4 hz5 hen
        have hbr:=qd (show b0 ∈ row (xG E) x by rw[←(H.o.inn x u HU.o).2.2.2];exact List.mem_map.2 ⟨_,hbm,rfl⟩);have hb0:dI b0:=H.o.domR x b0 hbr.o;have hbN:=qd (HPN2.o _ (xI.1 hbr.o));have G7:=qd hrg4;have P8:=qd (O8.o.nextK G6.o.iterAt hg4);have P9:=qd (O9.o.nextK G6.o.iterAt hg4);have M7:=qd (M6.o.nextK G6.o.iterAt hg4);have C7:=qd (XN C6.o G6.o.iterAt hg4);have B7:=qd (zK B6.o hg4 B6.o.size (by omega));have lk:=lookI M7.o (D6.o.dom H.o.domN) hb0;have hv:(fnd b0 D2).getD 0=((xA (xG E) (fun z=>!(out++[x]).contains z) b0:Nat):Int)+1:=by rw[D6.o.at',if_pos ⟨hbr.o,hS2⟩];rfl
        rw[hv] at lk;have hvl:=HIL.o (fun z=>!(out++[x]).contains z) b0;have hDl:=D6.o.length;have D8:=qd (D6.o.put (b:=b0) (v:=((xA (xG E) (fun z=>!(out++[x]).contains z) b0:Nat):Int)) (c':=fun y=>xA (xG E) (fun z=>!(out++[x]).contains z) y+if y ∈ row (xG E) x/\(S2 y&&!(y==b0))=true then 1 else 0) hbN.o (by simp) (fun y hy=>by
         have:(y==b0)=false:=by simpa using hy
         simp[this]))
        generalize xA (xG E) (fun z=>!(out++[x]).contains z) b0=vb at *;have hcc:=qa C7.o 0;have hz6:r2+1<=w5.heap.size:=by omega
        clear hrg4 hg4 hS2 hbm hz5 G6 O8 O9 M6 C6 B6 hv;go_wp2_with (at_mapUpdate;refine qH.halt ?_)
        refine qH.go ?_;refine M7.o.wpList_store zm yK (D6.o.dom H.o.domN) D6.o.srt Tryz.underlying138 (v:=(vb:Int)) (by unfold maxLen;omega) hb0 rfl rfl (by rfl) (by rfl) (by go_num) ?_;intro w6 h6 t6;have z6:=qP t6;have M9:=qd h6.tight;have C9:=qd (VR C7.o t6);have Q8:=qd (P8.o.turn t6);have Q9:=qd (P9.o.turn t6);have G9:=qd (uS.turn G7.o t6 (by omega));have B9:=qd (B7.o.trans (Below.turned t6 (Nat.le_refl _)));have z9:r2+1<=w6.heap.size:=by omega
        clear h6 t6 z6 M7 C7 P8 P9 G7 B7 D6 lk hcc;go_wp2_with fail
        go_roundg k4
        case measure=>exact hlt4
        case rel=>exact⟨_,_,G9.o,Q8.o,Q9.o,M9.o,D8.o,C9.o,B9.o,z9⟩
  ·intro a0 u w3 k2 hxm hS hrg2 hlt2 hg2 hz2 hen
   have HSa:=qd hS;have O4:=qd hrg2;have M4:=qd (M3.o.nextK O3.o.iterAt hg2);have C4:=qd (XN C3.o O3.o.iterAt hg2);have B4:=qd (zK B3.o hg2 B3.o.size (by omega));have hxm':=qd hxm;have HaN:=H.o.inN hxm;have hz3:r1+1<=w3.heap.size:=by omega
   clear hrg2 hg2 hS M3 C3 B3 O3 hz2 hxm;go_wp2_with (at_range;refine qH.halt ?_)
   refine qH.go ?_;refine((H.o.below B4.o hhi).inn a0 u hxm'.o).2.1.wpList_range zm (H.o.domA hxm'.o) (H.o.inn a0 u hxm'.o).2.2.1 Tryz.underlying103 rfl rfl (by rfl) ?_;intro w4 hr4 hg4 hz4;have B5:=qd (yz B4.o hg4 B4.o.size);have M5:=qd (M4.o.none hg4);have C5:=qd (Xj C4.o hg4);have O5:=qd (uS.none O4.o hg4);have G5:=qd hr4;have hz4':w3.heap.size+1<=w4.heap.size:=by omega
   have D5:=qd (D3.o.congr (c':=fun x=>xA (xG E) (fun z=>!S z) x+if x ∈ row (xG E) a0/\(fun _:Int=>true) x=false then 1 else 0) fun x=>by simp);obtain⟨r2,hr2⟩:∃r2,r2=w3.heap.size:=⟨_,rfl⟩
   rw[←hr2] at G5 hz4' hz3 ⊢;have hne:r1≠r2:=by omega
   have hwr2:w.heap.size+2<=r2:=by omega
   have hul:=(H.o.inn a0 u hxm'.o).1;clear hr4 hg4 hz4 hr2 hen M4 C4 B4 O4;go_wp2_with fail
   try go_frame
   go_loopg [] (A a0).length (fun k3 wq=>∃S2 D,KZ wq u r2 (A a0) S2 k3/\KZ wq b r1 M (fun z=>S z&&!(z==a0)) k2/\Qa wq w.heap.size D/\ji N D (fun x=>xA (xG E) (fun z=>!S z) x+if x ∈ row (xG E) a0/\S2 x=false then 1 else 0)/\Ml wq (w.heap.size+1) w.heap.size/\Below w.heap.size w wq/\r2+1<=wq.heap.size)
   case atStart=>exact⟨_,D,G5.o,O5.o,M5.o,D5.o,C5.o,B5.o,hz4'⟩
   case round=>
    obtain⟨S2,D',hrg,hO,hMD,hD,hC,hB,hz⟩:=hrel;have G6:=qd hrg;have O6:=qd hO;have M6:=qd hMD;have D6:=qd hD;have C6:=qd hC;have B6:=qd hB;clear hrg hO hMD hD hC hB G5 O5 M5 D5 C5 B5 hz4' D3;go_wp2_with (at_next;refine qH.halt ?_)
    refine qH.go ?_;refine G6.o.wpList_next zm jb (H.o.domA hxm'.o) (H.o.inn a0 u hxm'.o).2.2.1 rfl rfl (by rfl) ?_ ?_
    ·intro hd
     have D7:=qd (D6.o.congr (c':=xA (xG E) fun z=>!(S z&&!(z==a0))) fun x=>by
      rw[NM HSP.o HSa.o];congr 1;by_cases hx:x ∈ row (xG E) a0
      ·have hx2:=xI.1 hx
       have hx3:x ∈ (A a0).map (·.1):=by rw[(H.o.inn a0 u hxm'.o).2.2.2];exact hx
       obtain⟨q,hq,hq2⟩:=List.mem_map.1 hx3;rw[if_pos hx2,if_pos ⟨hx,by rw[←hq2];exact hd q hq⟩]
      ·rw [if_neg fun h=>hx (xI.2 h),if_neg fun h=>hx h.1])
     clear hd;go_wp2_with fail
     go_roundg k2
     case measure=>exact hlt2
     case rel=>exact⟨_,D',O6.o,M6.o,D7.o,C6.o,B6.o,by omega⟩
    ·intro b0 v0 w5 k4 hbm hS2 hrg4 hlt4 hg4 hz5 hen
     have hbr:=qd (show b0 ∈ row (xG E) a0 by rw[←(H.o.inn a0 u hxm'.o).2.2.2];exact List.mem_map.2 ⟨_,hbm,rfl⟩);have hb0:dI b0:=H.o.domR a0 b0 hbr.o;have hbN:=qd (HPN2.o _ (xI.1 hbr.o));have G7:=qd hrg4;have O7:=qd (uS.nextK O6.o G6.o.iterAt hne hg4);have M7:=qd (M6.o.nextK G6.o.iterAt hg4);have C7:=qd (XN C6.o G6.o.iterAt hg4);have B7:=qd (zK B6.o hg4 B6.o.size (by omega));have lk:=lookI M7.o (D6.o.dom H.o.domN) hb0;have hv:(fnd b0 D').getD 0=((xA (xG E) (fun z=>!S z) b0:Nat):Int):=by rw[D6.o.at',if_neg (by rw[hS2];simp)];rfl
     rw[hv] at lk;have hvl:=HIL.o (fun z=>!S z) b0;have hDl:=D6.o.length;have D8:=qd (D6.o.put (b:=b0) (v:=((xA (xG E) (fun z=>!S z) b0:Nat):Int)+1) (c':=fun x=>xA (xG E) (fun z=>!S z) x+if x ∈ row (xG E) a0/\(S2 x&&!(x==b0))=false then 1 else 0) hbN.o (by simp[hbr.o]) (fun x hx=>by
      have:(x==b0)=false:=by simpa using hx
      simp[this]))
     generalize xA (xG E) (fun z=>!S z) b0=vb at *;have hcc:=qa C7.o 0;have hz6:r2+1<=w5.heap.size:=by omega
     clear hrg4 hg4 hS2 hbm hz5 G6 O6 M6 C6 B6 hv;go_wp2_with (at_mapUpdate;refine qH.halt ?_)
     refine qH.go ?_;refine M7.o.wpList_store zm yK (D6.o.dom H.o.domN) D6.o.srt Tryz.underlying138 (v:=(vb:Int)+1) (by unfold maxLen;omega) hb0 rfl rfl (by rfl) (by rfl) (by rfl) ?_;intro w6 h6 t6;have z6:=qP t6;have M9:=qd h6.tight;have C9:=qd (VR C7.o t6);have O9:=qd (uS.turn O7.o t6 (by omega));have G9:=qd (uS.turn G7.o t6 (by omega));have B9:=qd (B7.o.trans (Below.turned t6 (Nat.le_refl _)));have z7:r2+1<=w6.heap.size:=by omega
     clear h6 t6 z6 M7 C7 O7 G7 B7 D6 lk hcc;go_wp2_with fail
     go_roundg k4
     case measure=>exact hlt4
     case rel=>exact⟨_,_,G9.o,O9.o,M9.o,D8.o,C9.o,B9.o,z7⟩
end
theorem UD.fnd {P:List Pr} {k:Int} {F:List (Int×Int)} (h:UD P k F) {a d:Int}:fnd a F=some d↔∃m:Nat,d=m/\xK P k m a:=by rw[fnd_some h.srt,h.mem]
theorem UD.fnd_none {P:List Pr} {k:Int} {F:List (Int×Int)} (h:UD P k F) {a:Int}:_root_.Go.Proofs.YtcpfbphcldocpaaGreatDoor.fnd a F=none↔¬Tc P a k:=by
 rw[_root_.Go.Proofs.YtcpfbphcldocpaaGreatDoor.fnd_none,Yl];constructor
 ·rintro hf ⟨m,hm⟩
  exact hf m ((h.mem a m).2 ⟨m,rfl,hm⟩)
 ·rintro hf u hu
  obtain⟨m,-,hm⟩:=(h.mem a u).1 hu;exact hf ⟨m,hm⟩
theorem VS {P:List Pr} {x b c:Int} {j:Nat} (hb:(row P x)[j]?=some b) (hP:Vw P) (hc:c < b) (hm:(x,c) ∈ P):c ∈ (row P x).take j:=by
 have hs:=Qf hP x;obtain⟨i,hi,e⟩:=List.getElem_of_mem (xI.2 hm);have hj:=(List.getElem?_eq_some_iff.1 hb).1;have hbj:(row P x)[j]=b:=(List.getElem?_eq_some_iff.1 hb).2;have:i < j:=by
  rcases Nat.lt_trichotomy i j with h|h|h
  ·exact h
  ·subst h;rw[hbj] at e;omega
  ·have:=List.pairwise_iff_getElem.1 hs j i hj hi h
   rw[hbj,e] at this;omega
 exact List.mem_iff_getElem?.2 ⟨i,by rw[List.getElem?_take_of_lt this,List.getElem?_eq_getElem hi,e]⟩
section
variable {w:World} {lo hi p:Nat} {N:List Int} {E:List jI}
theorem gr_cycle (h:jj w lo hi p N E) (hhi:hi<=w.heap.size) (hN:N.length<=900000) (hE:E.length<=900000):Calls Tryz.prog 68 #[.pointer (some ⟨p,0,none⟩)] w fun e w'=>
  ∃v c,e=.returned v/\yF w' w.heap.size v c/\IsCyc (xG E) N c/\Below w.heap.size w w':=by
 have HG:=qd h;have HOK:=qd h.ok;have HDN:=qd h.domN;have HPN:=qd (fun(x:Pr) (hx:x ∈ xG E)=>(h.ok.pair hx).1);have HPN2:=qd (fun(x:Pr) (hx:x ∈ xG E)=>(h.ok.pair hx).2);clear h;go_enter Tryz.func68,Tryz.ntmps68;go_wp2_with fail;refine(Ww HG.o (by omega)).mono ?_;rintro e w1 ⟨v,rfl,h1,b1⟩;obtain⟨ak,ck,rfl,hkm⟩:=h1.sl.ex;have K1:=qd h1;have B1:=qd b1;have z1:=b1.size;clear h1 b1;obtain⟨nN,hnN⟩:∃n,n=N.length:=⟨_,rfl⟩
 rw[←hnN] at hN hkm K1 ⊢;have HNN:=qd hnN.symm;clear hnN;go_wp2_with fail
 go_loopw [16] (fun i wr=>∃j:Nat,j<=nN/\i=.int .i64 j/\(∀x ∈ N.take j,¬Tc (xG E) x x)/\Below w1.heap.size w1 wr) (fun i _=>nN - (intOf i).toNat)
 case atStart=>exact⟨0,by omega,by go_num,fun x hx=>by simp at hx,Below.refl _ _⟩
 case round=>
  obtain⟨j,hj,rfl,hno,hB⟩:=hrel;have HNo:=qd hno;have HB:=qd hB;have hz:=hB.size;clear hno hB;by_cases hlt:j < nN
  ·obtain ⟨g,k,rfl,-,hg,hx,hc⟩:=yF.at (K1.o.below HB.o) HNN.o hlt
   have hkN:=List.mem_of_getElem? hx;have hkd:dI k:=HDN.o k hkN;have HX:=qd hx;have HKN:=qd hkN;clear hx hkN;go_wp2_with fail;refine(gr_far (HG.o.below (B1.o.trans (HB.o.mono z1)) hhi) (Nat.le_trans hhi (Nat.le_trans z1 hz)) (by have:=HNN.o;omega) k hkd).mono ?_;rintro e w2 ⟨f,F,rfl,hf0,hf,hF,b2⟩;have F2:=qd hf;have HF:=qd hF;have B2:=qd (HB.o.trans (b2.mono hz));have z2:=b2.size;have HFD:=qd (fun q (hq:q ∈ F)=>by
    obtain⟨m,-,hd⟩:=(hF.mem q.1 q.2).1 hq;obtain⟨c,hc⟩:=hd.head;exact HDN.o _ (HPN.o (q.1,c) hc):yE dI F)
   clear hf hF b2 HB hc;have lk:=Qi F2.o HFD.o hkd rfl;cases hfk:fnd k F with
   |none=>
    rw[hfk] at lk;simp only[Option.getD_none,Option.isSome_none] at lk;have hnk:=HF.o.fnd_none.1 hfk;have HNK:=qd (fun x (hx:x ∈ N.take (j+1))=>by
     rcases(zD HX.o).1 hx with h|rfl
     ·exact HNo.o x h
     ·exact hnk:∀x ∈ N.take (j+1),¬Tc (xG E) x x)
    clear hfk hnk;go_wp2_with fail;go_roundw
    case rel=>exact⟨j+1,by omega,by go_num,HNK.o,B2.o⟩
    case measure=>simp[intOf];omega
   |some d=>
    rw[hfk] at lk;simp only[Option.getD_some,Option.isSome_some] at lk;obtain⟨m,rfl,hdm⟩:=HF.o.fnd.1 hfk;have hmN:m<=900000:=by have:=hdm.le HPN.o;have:=HNN.o;omega
    have hm1:=hdm.1;have HDM:=qd hdm;have HLeast:=qd (fun x (hx:x ∈ N) (hlt:x < k)=>by
     have hs:=HOK.o.srtN;obtain⟨i,hi,e⟩:=List.getElem_of_mem hx;have hj':=(List.getElem?_eq_some_iff.1 HX.o).1;have hkj:N[j]=k:=(List.getElem?_eq_some_iff.1 HX.o).2;refine HNo.o x (List.mem_iff_getElem?.2 ⟨i,?_⟩);have hij:i < j:=by
      rcases Nat.lt_trichotomy i j with h|h|h
      ·exact h
      ·subst h;rw[hkj] at e;omega
      ·have:=List.pairwise_iff_getElem.1 hs j i hj' hi h
       rw[hkj,e] at this;omega
     rw[List.getElem?_take_of_lt hij,List.getElem?_eq_getElem hi,e]:∀x ∈ N,x < k->¬Tc (xG E) x x)
    clear hfk hdm;go_wp2_with fail;have O2:=qd (qj.lit (f:=jF) (e:=3) (sz:=1) w2 w2.heap.size (Nat.le_refl _) [k] Zy (by simp));have F3:=qd (F2.o.alloc (.cells ([k].flatMap jF).toArray 3));have B3:=qd (B2.o.alloc B2.o.size (.cells ([k].flatMap jF).toArray 3));have C2:Hid (∀r,Qc (xG E) k m k r->Qc (xG E) k m k ([]++r)):=qd (fun r h=>h)
    go_loopw [6,8] (fun nv v wq=>∃(q:Nat) (l:List Int) (x:Int),1<=q/\q<=m/\nv=.int .i64 q/\(k::l)[l.length]?=some x/\xK (xG E) k q x/\(∀r,Qc (xG E) k q x r->Qc (xG E) k m k (l++r))/\l.length+q=m/\yF wq w2.heap.size v (k::l)/\Qa wq f F/\Below w1.heap.size w1 wq) (fun nv _ _=>(intOf nv).toNat)
    case atStart=>exact⟨m,[],k,hm1,Nat.le_refl _,rfl,rfl,HDM.o,C2.o,by simp,O2.o,F3.o,B3.o⟩
    case round=>
     obtain⟨q,l,x,hq1,hqm,rfl,hlx,hdx,hch,hlq,hO,hMF,hB⟩:=hrel;have HLX:=qd hlx;have HDX:=qd hdx;have HCH:=qd hch;have HO:=qd hO;have F4:=qd hMF;have HB:=qd hB;have hz:=hB.size;obtain⟨ao,co,rfl,hom⟩:=hO.sl.ex;clear hlx hdx hch hO hMF hB O2 F3 B3 C2;by_cases hq2:2<=q
     ·obtain ⟨nc,hnc⟩:∃nc,nc=(k::l).length:=⟨_,rfl⟩
      rw[←hnc] at hom HO ⊢;have hnc2:nc=l.length+1:=by rw[hnc];simp
      have hnc3:1<=nc:=by omega
      have hncm:nc<=900000:=by omega
      have hl9:l.length<=900000:=by omega
      obtain⟨g4,y,rfl,hgB,hg4,hy,hcl⟩:=yF.at HO.o hnc.symm (k:=nc - 1) (by omega);obtain rfl:x=y:=by
       rw[show nc - 1=l.length by omega,HLX.o] at hy;exact Option.some.inj hy
      have HNC:=qd hnc.symm;have HLQ:=qd hlq;have HNC2:=qd hnc2;obtain⟨xb,hxb⟩:=HDX.o.head;have hxd:dI x:=HDN.o x (HPN.o (x,xb) hxb);clear hnc hy hxb hlq hnc2;go_wp2_with fail;refine(gr_out (HG.o.below (B1.o.trans (HB.o.mono z1)) hhi) (by omega) x hxd).mono ?_;rintro e w5 ⟨v5,rfl,h5,b5⟩;obtain⟨ar,cr,rfl,hrm⟩:=h5.sl.ex;have H6:=qd (HO.o.below b5);have R6:=qd h5;have F6:=qd (F4.o.below b5 F4.o.lt);have HB6:=qd (HB.o.trans (b5.mono hz));have HRX:Hid (∀c,c ∈ row (xG E) x↔(x,c) ∈ xG E):=qd (fun c=>xI);have HRL:=qd (fun(b c:Int) (j:Nat) (hb:(row (xG E) x)[j]?=some b) (hc:c < b) (hm:(x,c) ∈ xG E)=>VS hb (uX E) hc hm);clear h5 b5 HO F4 HB hcl;generalize row (xG E) x=R at *;obtain⟨mR,hmR⟩:∃m,m=R.length:=⟨_,rfl⟩
      rw[←hmR] at hrm R6 ⊢;have HMR:=qd hmR.symm;clear hmR;generalize wr.heap.size=H9 at *;go_wp2_with fail
      go_loopw [8,46] (fun v i wq=>∃j2:Nat,j2<=mR/\i=.int .i64 j2/\v=.slice (some ⟨g4,0,none⟩) nc co/\yF wq w2.heap.size (.slice (some ⟨g4,0,none⟩) nc co) (k::l)/\yF wq H9 (.slice ar mR cr) R/\Qa wq f F/\(∀c ∈ R.take j2,¬(c≠k/\xK (xG E) k (q - 1) c))/\Below w1.heap.size w1 wq) (fun _ i _=>mR - (intOf i).toNat)
      case atStart=>exact⟨0,by omega,by go_num,rfl,H6.o,R6.o,F6.o,fun c hc=>by simp at hc,HB6.o⟩
      case round=>
       obtain⟨j2,hj2,rfl,rfl,hO,hR,hMF,hM,hB⟩:=hrel;have H7:=qd hO;have R7:=qd hR;have F7:=qd hMF;have HM:=qd hM;have HB7:=qd hB;have hz7:=hB.size;have zb7:w2.heap.size<=wr.heap.size:=by have:=H7.o.lt g4 rfl;omega
       clear hO hR hMF hM hB H6 R6 F6 HB6;by_cases hlj:j2 < mR
       ·obtain ⟨g5,b0,rfl,-,hg5,hyb,hcb⟩:=yF.at R7.o HMR.o hlj
        have HY:=qd hyb;have hxb:=qd ((HRX.o b0).1 (List.mem_of_getElem? hyb));have hbd:dI b0:=HDN.o b0 (HPN2.o (x,b0) hxb.o);clear hyb;have lk:=Qi F7.o HFD.o hbd rfl;cases hfb:fnd b0 F with
        |none=>
         rw[hfb] at lk;simp only[Option.getD_none,Option.isSome_none] at lk;have HNB:=qd (fun(h:b0≠k/\xK (xG E) k (q - 1) b0)=>by
          exact(HF.o.fnd_none.1 hfb) (Yl.2 ⟨_,h.2⟩):¬(b0≠k/\xK (xG E) k (q - 1) b0))
         clear hfb;go_wp2_with fail;go_roundw
         case rel=>exact⟨j2+1,by omega,by go_num,rfl,H7.o,R7.o,F7.o,fun c hc=>by
          rcases(zD HY.o).1 hc with hc|rfl
          ·exact HM.o c hc
          ·exact HNB.o,HB7.o⟩
         case measure=>simp[intOf];omega
        |some d=>
         rw[hfb] at lk;simp only[Option.getD_some,Option.isSome_some] at lk;by_cases e3:d=(q:Int) - 1
         ·have q3:(d==(q:Int) - 1)=true:=by simpa using e3
          have HDB:=qd (show xK (xG E) k (q - 1) b0 by
           obtain⟨m',e4,hd⟩:=HF.o.fnd.1 hfb;obtain rfl:m'=q - 1:=by omega
           exact hd)
          clear e3;by_cases e1:b0=k
          ·have q1:(b0 !=k)=false:=by simpa using e1
           have HNB:=qd (fun(h:b0≠k/\xK (xG E) k (q - 1) b0)=>by
            exact h.1 e1:¬(b0≠k/\xK (xG E) k (q - 1) b0))
           clear hfb e1;go_wp2_with fail;go_roundw
           case rel=>exact⟨j2+1,by omega,by go_num,rfl,H7.o,R7.o,F7.o,fun c hc=>by
            rcases(zD HY.o).1 hc with hc|rfl
            ·exact HM.o c hc
            ·exact HNB.o,HB7.o⟩
           case measure=>simp[intOf];omega
          ·have q1:(b0 !=k)=true:=by simpa using e1
           have HBK:=qd e1;clear hfb e1;go_wp2_with (at_builtin;refine qM rfl _ _ _ rfl _ 8 Tryz.underlying30 Yt rfl H7.o b0 zb7 (by rfl) (by rfl) (by first|rfl|simp) rfl (QT _) (by first|omega|(simp only[List.length_append,List.length_cons,List.length_nil,List.length_replicate];omega)) (by first|omega|(simp only[List.length_append,List.length_cons,List.length_nil,List.length_replicate];omega)) ?_;refine qH.halt ?_)
           refine qH.go ?_;intro gn cn wn hn Gn;have O8:=qd hn;have F8:=qd (F7.o.grw H7.o Gn);have B8:=qd (HB7.o.trans (Gn.below hz7 fun q h=>by have:=(H7.o.lt q h).1;omega));have HCH2:=qd (fun r (hr:Qc (xG E) k (q - 1) b0 r)=>by
            have:=HCH.o (b0::r) (by
             obtain⟨q',rfl⟩:∃q',q=q'+2:=⟨q - 2,by omega⟩
             exact⟨b0,r,rfl,hxb.o,HBK.o,HDB.o,fun c hc hm hd=>HM.o c (HRL.o b0 c j2 HY.o hc hm) hd,hr⟩)
            simpa using this:∀r,Qc (xG E) k (q - 1) b0 r->Qc (xG E) k m k ((l++[b0])++r))
           clear hn Gn H7 F7 HB7 R7 HM;go_wp2_with fail;go_roundw
           case rel=>exact⟨q - 1,l++[b0],b0,by omega,by omega,by go_num,by simp,HDB.o,HCH2.o,by have:=HLQ.o;simp;omega,by simpa using O8.o,F8.o,B8.o⟩
           case measure=>simp[intOf];omega
         ·have q3:(d==(q:Int) - 1)=false:=by simpa using e3
          have HNB:=qd (fun(h:b0≠k/\xK (xG E) k (q - 1) b0)=>by
           obtain⟨m',e4,hd⟩:=HF.o.fnd.1 hfb;have:=hd.uniq h.2;omega:¬(b0≠k/\xK (xG E) k (q - 1) b0))
          clear hfb e3;go_wp2_with fail;go_roundw
          case rel=>exact⟨j2+1,by omega,by go_num,rfl,H7.o,R7.o,F7.o,fun c hc=>by
           rcases(zD HY.o).1 hc with hc|rfl
           ·exact HM.o c hc
           ·exact HNB.o,HB7.o⟩
          case measure=>simp[intOf];omega
       ·obtain rfl:j2=mR:=by omega
        exfalso;obtain⟨q',rfl⟩:∃q',q=q'+2:=⟨q - 2,by omega⟩
        obtain⟨b,hb,hbk,hd⟩:=HDX.o.next (by omega)
        refine HM.o b ?_ ⟨hbk,hd⟩;rw[←HMR.o,List.take_length];exact(HRX.o b).2 hb
     ·obtain rfl:q=1:=by omega
      have HC:=qd (HCH.o [] (by unfold Qc;rfl));go_wp2;go_ret;refine⟨_,k::l,rfl,HO.o.base (by omega),.inr ⟨k,m,l,HKN.o,HLeast.o,HDM.o,by simpa using HC.o,rfl⟩,B1.o.trans (HB.o.mono z1)⟩
  ·obtain rfl:j=nN:=by omega
   have HE:Hid (N.take j=N):=qd (by rw[←HNN.o,List.take_length]);go_wp2;go_ret;exact⟨_,[],rfl,qj.nil _ _,.inl ⟨rfl,fun x hx=>HNo.o x (by rw[HE.o];exact hx)⟩,B1.o.trans (HB.o.mono z1)⟩
end
