/- Parts of the proof; the first: Programs that may be: valid, Valid. Conditions: those of each theorem, as typed. -/
import Derived.Test.YtkfhgifhfkcehaaGreatDoorQC02
import Derived.Laws.MakeOwn
import Derived.OwnWalk
import Derived.Test.YtkfhgifhfkcehaaGreatDoorQC01
import Derived.Laws.EntriesVeiled
set_option linter.unusedVariables false
set_option linter.unusedSimpArgs false
set_option linter.unusedSectionVars false
set_option maxRecDepth 100000
set_option maxHeartbeats 4000000
namespace Go.Proofs.YtkfhgifhfkcehaaGreatDoor
open Go.RowKit
section
attribute [local irreducible] xL
abbrev acVal (a:Ac):Value:=.agg #[.int .i64 a.kind,.int .i64 a.cell,.int .i64 a.val]
def numsOf (k:Int):Int:=if k=1 then 1 else if k=2\/k=3 then 2 else 0
theorem p_numbers (k:Int) (w:World):Calls Tryz.prog 88 #[.int .i64 k] w fun e w'=>e=.returned (.int .i64 (numsOf k))/\w'=w:=by
 go_enter Tryz.func88,Tryz.ntmps88;by_cases h1:k=1
 ·subst h1
  go_wp2;go_ret;exact⟨rfl,rfl⟩
 ·by_cases h2:k=2
  ·subst h2
   go_wp2;go_ret;exact⟨rfl,rfl⟩
  ·by_cases h3:k=3
   ·subst h3
    go_wp2;go_ret;exact⟨rfl,rfl⟩
   ·have e1:(k==1)=false:=by simpa using h1
    have e2:(k==2)=false:=by simpa using h2
    have e3:(k==3)=false:=by simpa using h3
    have hn:numsOf k=0:=by unfold numsOf;rw[if_neg h1,if_neg (by omega)]
    rw[hn];clear hn h1 h2 h3;go_wp2;go_ret;exact⟨rfl,rfl⟩
def actOk (a:Ac) (n:Int) (last:Bool):Bool:=
 if numsOf a.kind=0 then(a.kind==4)&&last&&(a.cell==0)&&(a.val==0)
 else if numsOf a.kind=1/\a.val≠0 then false
 else decide (0<=a.cell)&&decide (a.cell < n)&&decide (-1000<=a.val)&&decide (a.val<=1000)
theorem p_valid (a:Ac) (n:Int) (last:Bool) (w:World):Calls Tryz.prog 50 #[acVal a,.int .i64 n,.bool last] w fun e w'=>e=.returned (.bool (actOk a n last))/\Below w.heap.size w w':=by
 obtain⟨ak,al,av⟩:=a;go_enter Tryz.func50,Tryz.ntmps50;go_wp2_with fail;refine(p_numbers _ _).mono ?_;rintro e w1 ⟨rfl,rfl⟩;have hB:=(Below.refl w.heap.size w).alloc (Nat.le_refl _) (.cells #[.int .i64 ak,.int .i64 al,.int .i64 av] 118);have HB:=qj hB;clear hB;by_cases h0:numsOf ak=0
 ·rw [h0]
  cases last <;>
  ·go_wp2
   all_goals
    go_ret;exact⟨by simp_all [actOk];try omega,(Below.refl _ _).alloc (Nat.le_refl _) _⟩
 ·by_cases h1:numsOf ak=1
  ·rw [h1]
   go_wp2
   all_goals
    go_ret;exact⟨by simp_all [actOk];try omega,(Below.refl _ _).alloc (Nat.le_refl _) _⟩
  ·have e0:(numsOf ak==0)=false:=by simpa using h0
   have e1:(numsOf ak==1)=false:=by simpa using h1
   go_wp2
   all_goals
    go_ret;exact⟨by simp_all [actOk];try omega,(Below.refl _ _).alloc (Nat.le_refl _) _⟩
structure xV (P:Pg):Prop where
 nums:1<=P.cells.length/\P.cells.length<=4/\1<=P.threads.length/\P.threads.length<=4
 cell:∀(k:Nat) (c:Int),P.cells[k]?=some c->-1000000<=c/\c<=1000000
 txs:∀(i:Nat) (t:List (List Ac)),P.threads[i]?=some t->t.length<=3
 acts:∀(i:Nat) (t:List (List Ac)),P.threads[i]?=some t->∀(k:Nat) (l:List Ac),t[k]?=some l->1<=l.length/\l.length<=6
 act:∀(i:Nat) (t:List (List Ac)),P.threads[i]?=some t->∀(k:Nat) (l:List Ac),t[k]?=some l->∀(j:Nat) (a:Ac),l[j]?=some a->actOk a P.cells.length ((j:Int)==(l.length:Int) - 1)=true
theorem actOk_iff (a:Ac) (n:Nat) (last:Bool):actOk a n last=true↔(a.kind=4/\last=true/\a.cell=0/\a.val=0)\/((a.kind=1/\a.val=0\/a.kind=2\/a.kind=3)/\0<=a.cell/\a.cell < n/\-1000<=a.val/\a.val<=1000):=by
 unfold actOk numsOf;by_cases h1:a.kind=1
 ·simp [h1];omega
 ·by_cases h2:a.kind=2
  ·simp [h2];omega
  ·by_cases h3:a.kind=3
   ·simp [h3];omega
   ·cases last <;> simp[h1,h2,h3] <;> (try omega)
theorem xV.ok {P:Pg} (h:xV P):PgOk P:=by
 obtain⟨n1,n2,n3,n4⟩:=h.nums;refine⟨⟨n1,n2⟩,fun c hc=>?_,⟨n3,n4⟩,fun t ht=>?_,fun t ht l hl=>?_,fun t ht l hl k a ha=>?_⟩
 ·obtain ⟨k,hk,e⟩:=List.mem_iff_getElem.1 hc
  exact h.cell k c (by rw[←e];exact List.getElem?_eq_getElem hk)
 ·obtain ⟨k,hk,e⟩:=List.mem_iff_getElem.1 ht
  exact h.txs k t (by rw[←e];exact List.getElem?_eq_getElem hk)
 ·obtain ⟨i,hi,e⟩:=List.mem_iff_getElem.1 ht
  obtain⟨k,hk,e2⟩:=List.mem_iff_getElem.1 hl;exact h.acts i t (by rw[←e];exact List.getElem?_eq_getElem hi) k l (by rw[←e2];exact List.getElem?_eq_getElem hk)
 ·obtain ⟨i,hi,e⟩:=List.mem_iff_getElem.1 ht
  obtain⟨j,hj,e2⟩:=List.mem_iff_getElem.1 hl;have h1:=(actOk_iff _ _ _).1 (h.act i t (by rw[←e];exact List.getElem?_eq_getElem hi) j l (by rw[←e2];exact List.getElem?_eq_getElem hj) k a ha);rcases h1 with⟨h1,h2,h3⟩|h1
  ·refine .inl ⟨h1,?_,h3⟩
   have:=(List.getElem?_eq_some_iff.1 ha).1;have h4:(k:Int)=(l.length:Int) - 1:=by simpa using h2
   omega
  ·exact .inr h1
structure PgIs (w:World) (B:Nat) (vc vt:Value) (P:Pg):Prop where
 cells:Sl w B 1 vc P.cells.length (P.cells.map (.int .i64))
 thr:IsThr w B vt P.threads
theorem PgIs.below {w w':World} {B:Nat} {vc vt:Value} {P:Pg} (h:PgIs w B vc vt P) (hb:Below B w w'):PgIs w' B vc vt P:=⟨h.cells.below hb,h.thr.below hb⟩
theorem PgIs.more {w:World} {B B':Nat} {vc vt:Value} {P:Pg} (h:PgIs w B vc vt P) (hb:B<=B'):PgIs w B' vc vt P:=⟨h.cells.more hb,h.thr.more hb⟩
def xK (P:Pg) (ev:Value) (w:World) (e:Ending) (w':World):Prop:=(xV P/\e=.returned .nilIface\/¬xV P/\e=.returned ev)/\Below w.heap.size w w'
theorem xK.no {P:Pg} {ev:Value} {w w':World} {e:Ending} (h:¬xV P) (he:e=.returned ev) (hb:Below w.heap.size w w'):xK P ev w e w':=⟨.inr ⟨h,he⟩,hb⟩
theorem xK.yes {P:Pg} {ev:Value} {w w':World} {e:Ending} (h:xV P) (he:e=.returned .nilIface) (hb:Below w.heap.size w w'):xK P ev w e w':=⟨.inl ⟨h,he⟩,hb⟩
def LOk (n:Nat) (l:List Ac):Prop:=(1<=l.length/\l.length<=6)/\∀(j:Nat) (a:Ac),l[j]?=some a->actOk a n ((j:Int)==(l.length:Int) - 1)=true
def TOk (n:Nat) (t:List (List Ac)):Prop:=t.length<=3/\∀(k:Nat) (l:List Ac),t[k]?=some l->LOk n l
theorem Sl.intAt {w:World} {B n cap:Nat} {a:Option Addr} {l:List Int} (h:Sl w B 1 (.slice a n cap) n (l.map (.int .i64))) {k:Nat} (hk:k < n):∃b off c,a=some ⟨b,off,none⟩/\b < B/\l[k]?=some c/\w.cell? ⟨b,off+k,none⟩=some (.int .i64 c):=by
 obtain⟨b,off,u,rfl,hb,hu,hc⟩:=h.at1 hk;rw[List.getElem?_map] at hu;cases hl:l[k]? with
 |none=>rw[hl] at hu;simp at hu
 |some c=>rw[hl] at hu;simp at hu;subst hu;exact⟨b,off,c,rfl,hb,rfl,hc⟩
theorem p_Valid (vc vt:Value) (P:Pg) (w:World) (h:PgIs w w.heap.size vc vt P) (ev:Value) (hev:w.cell? ⟨2,0,none⟩=some ev) (h10:2 < w.heap.size):
  Calls Tryz.prog 23 #[.agg #[vc,vt]] w (xK P ev w):=by
 obtain⟨ac,cc,rfl,mc⟩:=h.cells.ex;obtain⟨at',ct,rfl,mt⟩:=h.thr.ex;have H:=qj h;clear h;have hB0:=(Below.refl w.heap.size w).alloc (Nat.le_refl _) (.cells #[.slice ac P.cells.length cc,.slice at' P.threads.length ct] 25);have HB0:=qj hB0;have hev:=qu hB0 h10 hev;clear hB0;by_cases h1:1<=P.cells.length/\P.cells.length<=4/\1<=P.threads.length/\P.threads.length<=4
 case neg=>
  have hn:¬xV P:=fun h=>h1 h.nums;have HN:=qj hn;clear hn;generalize hnc:P.cells.length=n at *;generalize hnt:P.threads.length=m at *;go_enter Tryz.func23,Tryz.ntmps23;by_cases a1:1<=n
  ·by_cases a2:n<=4
   ·by_cases a3:1<=m
    ·have a4:¬m<=4:=by omega
     go_wp2;go_ret;exact xK.no HN.o rfl HB0.o
    ·go_wp2
     go_ret;exact xK.no HN.o rfl HB0.o
   ·go_wp2
    go_ret;exact xK.no HN.o rfl HB0.o
  ·go_wp2
   go_ret;exact xK.no HN.o rfl HB0.o
 case pos=>
  have h1':=qj h1;obtain⟨n1,n2,n3,n4⟩:=h1;go_enter Tryz.func23,Tryz.ntmps23;go_wp2_with fail;have r0:=qy w (.cells #[.slice ac P.cells.length cc,.slice at' P.threads.length ct] 25);have z0:w.heap.size < (w.alloc (.cells #[.slice ac P.cells.length cc,.slice at' P.threads.length ct] 25)).heap.size:=by simp
  have H0:=qj ((H.o.below HB0.o).more (Nat.le_of_lt z0));generalize w.alloc (.cells #[.slice ac P.cells.length cc,.slice at' P.threads.length ct] 25)=W0 at *;have d0:W0.cell? ⟨w.heap.size,0,none⟩=some (.slice ac P.cells.length cc):=qg r0 0;have d1:W0.cell? ⟨w.heap.size,1,none⟩=some (.slice at' P.threads.length ct):=qg r0 1;clear r0 H
  go_loop [37] (fun i=>∃k:Nat,k<=P.cells.length/\i=.int .i64 k/\∀(j:Nat) (c:Int),j < k->P.cells[j]?=some c->-1000000<=c/\c<=1000000) (fun i=>P.cells.length - (intOf i).toNat)
  case atStart=>exact⟨0,by omega,by go_num,fun j c hj=>absurd hj (by omega)⟩
  case round=>
   obtain⟨k,hk,rfl,hok⟩:=hrel;have HOK:=qj hok;clear hok;by_cases hlt:k < P.cells.length
   ·obtain ⟨b,off,c,rfl,hb,hc,hcc⟩:=H0.o.cells.intAt hlt
    have HC:=qj hc;clear hc;by_cases c1:-1000000<=c
    ·by_cases c2:c<=1000000
     ·go_wp2_with fail
      go_round
      case rel=>
       refine⟨k+1,by omega,by go_num,fun j c' hj hc'=>?_⟩;rcases Nat.lt_or_eq_of_le (Nat.lt_succ_iff.1 hj) with h|rfl
       ·exact HOK.o j c' h hc'
       ·rw [HC.o] at hc';cases hc';exact⟨c1,c2⟩
      case measure=>simp[intOf];omega
     ·go_wp2
      go_ret;exact xK.no (fun h=>by have:=(h.cell k c HC.o).2;omega) rfl HB0.o
    ·go_wp2
     go_ret;exact xK.no (fun h=>by have:=(h.cell k c HC.o).1;omega) rfl HB0.o
   ·obtain rfl:k=P.cells.length:=by omega
    go_wp2_with fail;have d0':=qj d0;have hev':=qj hev;clear d0 d1 hev
    go_loopw [52] (fun p wr=>∃i:Nat,i<=P.threads.length/\p=.int .i64 i/\Below W0.heap.size W0 wr/\∀(j:Nat) (t:List (List Ac)),j < i->P.threads[j]?=some t->TOk P.cells.length t) (fun p _=>P.threads.length - (intOf p).toNat)
    case atStart=>exact⟨0,by omega,by go_num,Below.refl _ _,fun j t hj=>absurd hj (by omega)⟩
    case round=>
     obtain⟨i,hi,rfl,hbw,htk⟩:=hrel;have HBW:=qj hbw;have HTK:=qj htk;clear hbw htk;by_cases hlt:i < P.threads.length
     ·obtain ⟨b,off,u,t,hat,hb,ht,hu,hut⟩:=H0.o.thr.at rfl hlt
      obtain⟨au,cu,rfl,mu⟩:=hut.ex;have hu:=qu HBW.o hb hu;have hev:=qu HBW.o (by omega) hev'.o;have h10':2 < wr.heap.size:=by have:=HBW.o.size;omega
      have hbz:b < wr.heap.size:=by have:=HBW.o.size;omega
      have HT:=qj ht;have HUT:=qj hut;subst hat;clear ht hut;by_cases c3:t.length<=3
      ·go_wp2_with fail
       clear hu hev
       go_loopw [62] (fun p ws=>∃k:Nat,k<=t.length/\p=.int .i64 k/\Below W0.heap.size W0 ws/\∀(j:Nat) (l:List Ac),j < k->t[j]?=some l->LOk P.cells.length l) (fun p _=>t.length - (intOf p).toNat)
       case atStart=>exact⟨0,by omega,by go_num,HBW.o,fun j t hj=>absurd hj (by omega)⟩
       case round=>
        obtain⟨k,hk,rfl,hbw,hlk⟩:=hrel;have HBX:=qj hbw;have HLK:=qj hlk;clear hbw hlk;by_cases hlk:k < t.length
        ·obtain ⟨b',off',u',l,hal,hb',hl,hu',hul⟩:=HUT.o.at rfl hlk
         obtain⟨al,cl,rfl,ml⟩:=Sl.ex (show Sl W0 W0.heap.size 3 u' l.length (l.flatMap Ac.cells) from hul);have hu':=qu HBX.o hb' hu';have hev:=qu HBX.o (by omega) hev'.o;have h10'':2 < wr.heap.size:=by have:=HBX.o.size;omega
         have hbz':b' < wr.heap.size:=by have:=HBX.o.size;omega
         have HL:=qj hl;have HUL:=qj (show Sl W0 W0.heap.size 3 (.slice al l.length cl) l.length (l.flatMap Ac.cells) from hul);subst hal;clear hl hul;by_cases c4:1<=l.length
         ·by_cases c5:l.length<=6
          ·go_wp2_with fail
           clear hu' hev
           go_loopw [77] (fun p wt=>∃j:Nat,j<=l.length/\p=.int .i64 j/\Below W0.heap.size W0 wt/\∀(q:Nat) (a:Ac),q < j->l[q]?=some a->actOk a P.cells.length ((q:Int)==(l.length:Int) - 1)=true) (fun p _=>l.length - (intOf p).toNat)
           case atStart=>exact⟨0,by omega,by go_num,HBX.o,fun j t hj=>absurd hj (by omega)⟩
           case round=>
            obtain⟨j,hj,rfl,hbw,hact⟩:=hrel;have HBY:=qj hbw;have HAC:=qj hact;clear hbw hact;by_cases hlj:j < l.length
            ·obtain ⟨b3,o3,a,hal,hb3,ha,hc⟩:=HUL.o.atF Ac.len rfl hlj
             have q0:wr.cell? ⟨b3,o3+j*3,none⟩=some (.int .i64 a.kind):=qu HBY.o hb3 (hc 0 (by decide));have q1:wr.cell? ⟨b3,o3+j*3+1,none⟩=some (.int .i64 a.cell):=qu HBY.o hb3 (hc 1 (by decide));have q2:wr.cell? ⟨b3,o3+j*3+2,none⟩=some (.int .i64 a.val):=qu HBY.o hb3 (hc 2 (by decide));have e0:=qu HBY.o z0 d0'.o;have hev:=qu HBY.o (by omega) hev'.o;have h10t:2 < wr.heap.size:=by have:=HBY.o.size;omega
             have hb3z:b3 < wr.heap.size:=by have:=HBY.o.size;omega
             have hz0t:w.heap.size < wr.heap.size:=by have:=HBY.o.size;omega
             have HA:=qj ha;have hwr:wrap64 ((l.length:Int) - 1)=(l.length:Int) - 1:=IntWalk.wrap64_in _ (by omega);subst hal;clear hc ha;go_wp2_with fail;refine(p_valid a _ _ _).mono ?_;rintro e w5 ⟨rfl,q5⟩;have qz:wr.heap.size+1<=w5.heap.size:=by have:=q5.size;simpa using this
             have Q5:=qj ((HBY.o.alloc HBY.o.size (.cells #[.int .i64 a.kind,.int .i64 a.cell,.int .i64 a.val] 118)).trans (q5.mono (by have:=HBY.o.size;simp;omega)));have hev:=qu Q5.o (by omega) hev'.o;have h10t:2 < w5.heap.size:=by have:=Q5.o.size;omega
             clear q5 q0 q1 q2 e0;cases hak:actOk a P.cells.length ((j:Int)==(l.length:Int) - 1) with
             |true=>
              go_wp2_with fail;go_roundw
              case rel=>
               refine⟨j+1,by omega,by go_num,Q5.o,fun q a' hq hqa=>?_⟩;rcases Nat.lt_or_eq_of_le (Nat.lt_succ_iff.1 hq) with h|rfl
               ·exact HAC.o q a' h hqa
               ·rw [HA.o] at hqa;cases hqa;exact hak
              case measure=>simp[intOf];omega
             |false=>
              go_wp2;go_ret;exact xK.no (fun h=>by have:=h.act i t HT.o k l HL.o j a HA.o;rw[hak] at this;cases this) rfl (HB0.o.trans (Q5.o.mono (by omega)))
            ·obtain rfl:j=l.length:=by omega
             go_wp2_with fail;go_roundw
             case rel=>
              refine⟨k+1,by omega,by go_num,HBY.o,fun q l' hq hl'=>?_⟩;rcases Nat.lt_or_eq_of_le (Nat.lt_succ_iff.1 hq) with h|rfl
              ·exact HLK.o q l' h hl'
              ·rw [HL.o] at hl';cases hl';exact⟨⟨c4,c5⟩,fun q a hqa=>HAC.o q a (List.getElem?_eq_some_iff.1 hqa).1 hqa⟩
             case measure=>simp[intOf];omega
          ·go_wp2
           go_ret;exact xK.no (fun h=>by have:=h.acts i t HT.o k l HL.o;omega) rfl (HB0.o.trans (HBX.o.mono (by omega)))
         ·go_wp2
          go_ret;exact xK.no (fun h=>by have:=h.acts i t HT.o k l HL.o;omega) rfl (HB0.o.trans (HBX.o.mono (by omega)))
        ·obtain rfl:k=t.length:=by omega
         go_wp2_with fail;go_roundw
         case rel=>
          refine⟨i+1,by omega,by go_num,HBX.o,fun q t' hq ht'=>?_⟩;rcases Nat.lt_or_eq_of_le (Nat.lt_succ_iff.1 hq) with h|rfl
          ·exact HTK.o q t' h ht'
          ·rw [HT.o] at ht';cases ht';exact⟨c3,fun q l hql=>HLK.o q l (List.getElem?_eq_some_iff.1 hql).1 hql⟩
         case measure=>simp[intOf];omega
      ·go_wp2
       go_ret;exact xK.no (fun h=>by have:=h.txs i t HT.o;omega) rfl (HB0.o.trans (HBW.o.mono (by omega)))
     ·obtain rfl:i=P.threads.length:=by omega
      go_wp2;go_ret;refine xK.yes ⟨h1'.o,fun k c hc=>HOK.o k c (List.getElem?_eq_some_iff.1 hc).1 hc,fun i t ht=>(HTK.o i t (List.getElem?_eq_some_iff.1 ht).1 ht).1,fun i t ht k l hl=>((HTK.o i t (List.getElem?_eq_some_iff.1 ht).1 ht).2 k l hl).1,fun i t ht k l hl=>((HTK.o i t (List.getElem?_eq_some_iff.1 ht).1 ht).2 k l hl).2⟩ rfl (HB0.o.trans (HBW.o.mono (by omega)))
end
section
attribute [local irreducible] xL
section
variable {α:Type} {f:α->List Value} {e:TypeId} {sz B:Nat} {P:Program} {o:Oper} {a:Act} {K:Act->World->Prop} {Q:Exit->Act->World->Prop}
theorem yF (s c:Operand) (t:TypeId) (ho:o.op=.makeSlice t s c) (z:Value) (bytes:Nat) (ht:P.underlying t=some (.slice e)) (hinfo:(P.info? e).map (fun i=>(i.zero,i.size,i.bytes))=some (some z,sz,bytes))
  {w:World} {n:Nat} (hs:a.eval s=.int .i64 0) (hc:a.eval c=.int .i64 n) (hn:n<=9223372036854775807) (hby:bytes*n<=140737488355328) (hB:B<=w.heap.size)
  (hK:∀w',qq f e sz w' B (.slice (some ⟨w.heap.size,0,none⟩) 0 n) []->Below w.heap.size w w'->w.heap.size+1<=w'.heap.size->K (a.put o.dst (.slice (some ⟨w.heap.size,0,none⟩) 0 n)) w'):
  o.wp P a w K Q:=by
 obtain⟨i0,hi,hz0,hz1,hz2⟩:=info_parts hinfo;obtain⟨w',hr,h1,h2⟩:=run_make_own (P:=P) w B t e i0 z sz ht hi hz0 hz1 .i64 .i64 n (by rw[hz2];omega) (by unfold maxLen;omega) hB;unfold Oper.wp execOp;have hr':(Instr.makeSlice t (.int .i64 0) (.int .i64 (n:Int))).run P w=.ok (.slice (some ⟨w.heap.size,0,none⟩) 0 n) w':=hr;simp[ho,hs,hc,hr',Result.andThen];refine hK w' h1 ((Below.refl w.heap.size w).grown h2 (Nat.le_refl _) (fun _ h=>by cases h)) ?_;obtain⟨-,h3⟩:=h1;rcases h3 with⟨h3,-⟩|⟨g,cap,cur,hv,-,hh,-⟩
 ·cases h3
 ·simp only[Value.slice.injEq,Option.some.injEq,Addr.mk.injEq,and_true] at hv
  obtain⟨rfl,-⟩:=hv;exact qh hh
theorem yD {N:Nat} {v u:Value} {l:List α} (s x:Operand) (t:TypeId)
  (ho:o.op=.call {callee:=.builtin .append,args:=#[s,x],argTypes:=#[t,t]})
  (z:Value) (bytes:Nat) (ht:P.underlying t=some (.slice e)) (hinfo:(P.info? e).map (fun i=>(i.zero,i.size,i.bytes))=some (some z,sz,bytes))
  (hzs:z.cells.size=sz) {w:World} (hown:qq f e sz w B v l) (ys:List α) {m:Nat} (hm:ys.length=m) (hsrc:Sl w N sz u m (ys.flatMap f)) (hbase:B<=w.heap.size) (hs:a.eval s=v)
  (hx:a.eval x=u) (hl:∀y,(f y).length=sz) (h1:∀y,∀u ∈ f y,u.oneCell'=true) (hn:l.length+m<=9223372036854775807) (hby:(l.length+m)*bytes<=140737488355328)
  (hK:∀v' w',qq f e sz w' B v' (l++ys)->Grw w w' v v'->K (a.put o.dst v') w'):
  o.wp P a w K Q:=by
 by_cases hm0:0 < m
 ·exact wp_appS s x t ho z bytes ht hinfo hzs hown ys hm hm0 hsrc hbase hs hx hl h1 hn hby fun g cap w' h2 h3=>hK _ w' h2 h3
 ·obtain rfl:m=0:=by omega
  have hys:ys=[]:=List.eq_nil_of_length_eq_zero hm;subst hys;obtain⟨ad,c,rfl,-⟩:=hsrc.ex;obtain⟨i0,hi,hz0,hz1,hz2⟩:=info_parts hinfo;unfold Oper.wp execOp;obtain⟨av,cv,rfl,-⟩:=hown.sl.ex;have hr:(Builtin.append_ #[t,t] o.type #[.slice av l.length cv,.slice ad 0 c]).run P w=.ok (.slice av l.length cv) w:=by
   rcases hown.2 with⟨hv,-⟩|⟨g,cap,cur,hv,_,_,hnc,_⟩
   ·rw [hv]
    cases ad <;> simp[Builtin.append_,run_underlying ht,sizeOf,typeInfo,hi,Builtin.lenOf,Builtin.firstCells,loadCells,loadCellsFrom]
   ·rw [hv]
    cases ad <;> simp[Builtin.append_,run_underlying ht,sizeOf,typeInfo,hi,Builtin.lenOf,Builtin.firstCells,hnc,storeCells,loadCells,loadCellsFrom]
  simp only[ho,resolve,invoke,builtin,Sem.run_bind,Sem.run_pure,Result.andThen_ok,List.map_toArray,List.map_cons,List.map_nil,hs,hx,hr];exact hK _ w (by simpa using hown) (Grw.refl w _)
theorem wpList_makeF {ops:Array Oper} {rest:List Oper} (hgd:o.guard=none) (s c:Operand) (t:TypeId) (ho:o.op=.makeSlice t s c) (z:Value) (bytes:Nat) (ht:P.underlying t=some (.slice e)) (hinfo:(P.info? e).map (fun i=>(i.zero,i.size,i.bytes))=some (some z,sz,bytes))
  {w:World} {n:Nat} (hs:a.eval s=.int .i64 0) (hc:a.eval c=.int .i64 n) (hn:n<=9223372036854775807) (hby:bytes*n<=140737488355328) (hB:B<=w.heap.size)
  (hK:∀w',qq f e sz w' B (.slice (some ⟨w.heap.size,0,none⟩) 0 n) []->Below w.heap.size w w'->w.heap.size+1<=w'.heap.size->wpList P ops Q rest (a.put o.dst (.slice (some ⟨w.heap.size,0,none⟩) 0 n)) w'):
  wpList P ops Q (o::rest) a w:=
 wpList_plain hgd fun _ hK'=>yF s c t ho z bytes ht hinfo hs hc hn hby hB fun w' h1 h2 h3=>hK' _ _ (hK w' h1 h2 h3)
theorem wpList_appA {ops:Array Oper} {rest:List Oper} {N:Nat} {v u:Value} {l:List α} (hgd:o.guard=none) (s x:Operand) (t:TypeId)
  (ho:o.op=.call {callee:=.builtin .append,args:=#[s,x],argTypes:=#[t,t]})
  (z:Value) (bytes:Nat) (ht:P.underlying t=some (.slice e)) (hinfo:(P.info? e).map (fun i=>(i.zero,i.size,i.bytes))=some (some z,sz,bytes))
  (hzs:z.cells.size=sz) {w:World} (hown:qq f e sz w B v l) (ys:List α) {m:Nat} (hm:ys.length=m) (hsrc:Sl w N sz u m (ys.flatMap f)) (hbase:B<=w.heap.size) (hs:a.eval s=v)
  (hx:a.eval x=u) (hl:∀y,(f y).length=sz) (h1:∀y,∀u ∈ f y,u.oneCell'=true) (hn:l.length+m<=9223372036854775807) (hby:(l.length+m)*bytes<=140737488355328)
  (hK:∀v' w',qq f e sz w' B v' (l++ys)->Grw w w' v v'->wpList P ops Q rest (a.put o.dst v') w'):
  wpList P ops Q (o::rest) a w:=
 wpList_plain hgd fun _ hK'=>yD s x t ho z bytes ht hinfo hzs hown ys hm hsrc hbase hs hx hl h1 hn hby fun v' w' h2 h3=>hK' _ _ (hK v' w' h2 h3)
end
section
variable {w:World} {B bW gT:Nat} {vc vt ve:Value} {P:Pg} {S:yk}
theorem wk_events (h:qW w B bW gT vc vt ve P S) (hl:S.evs.length<=100000):
  Calls Tryz.prog 68 #[.pointer (some ⟨bW,0,none⟩)] w fun e w'=>∃v,e=.returned v/\qq Ev.cells 53 8 w' w.heap.size v S.evs/\Below w.heap.size w w':=by
 have hbl:=qh h.row;have d2:w.cell? ⟨bW,3,none⟩=some ve:=qg h.row 3;obtain⟨ae,ce,rfl,hme⟩:=h.evs.form2;have HE:=qj h.evs;clear h;go_enter Tryz.func68,Tryz.ntmps68;go_wp2;refine qT (w.heap.size) [0,0,0,1,0,3,0,0,0,1,2,0] (.fin [0,1,2,3,4,6,7,8,9,5,10,11]) (by kernel_rfl) ?_;simp only[yp,qP,qD,sD,sE,sF,sG]
 repeat first|(refine qC fun K hK=>?_;go_simp;refine hK _ _ ?_;clear hK K)|(apply qJ;(intro w2 hw2;have hk1:=hw2.cell;have hk3:=hw2.1;clear hw2;go_simp;with_reducible rfl);simp only[Act.put,sA,sB,sC])
 refine qI (fun K hK=>?_);refine yF (f:=Ev.cells) (e:=53) (sz:=8) (B:=w.heap.size) _ _ _ rfl _ 64 Tryz.underlying35 infoE rfl rfl (by first|omega|(simp <;> omega)) (by first|omega|(simp <;> omega)) (by first|omega|(simp <;> omega)) ?_;intro w1 o1 b1 z1;refine hK _ _ (RN.KeepsN.of_below b1) ?_;have b1:Below w.heap.size w w1:=(Below.refl _ w).drew.trans b1;have z1:w.heap.size+1<=w1.heap.size:=z1;clear hK K;refine qN (fun K hK=>?_);refine yD _ _ _ rfl _ 64 Tryz.underlying35 infoE rfl o1 S.evs rfl (HE.o.sl.below b1) (by first|omega|(simp <;> omega)) rfl rfl Ev.len ev_one (by first|omega|(simp <;> omega)) (by first|omega|(simp <;> omega)) ?_;intro v' w2 o2 g2;refine hK _ _ ?_;clear hK K;have b2:=b1.trans (g2.below b1.size fun k h=>(o1.lt k h).1);have O2:=qj (show qq Ev.cells 53 8 w2 w.heap.size v' S.evs from o2);have B2:=qj b2;clear o1 b1 g2 o2 b2
 repeat first|(refine qC fun K hK=>?_;go_simp;refine hK _ _ ?_;clear hK K)|refine qA ?_
 go_wp2;go_ret;exact⟨v',rfl,O2.o,B2.o⟩
end
end
section
attribute [local irreducible] xL
theorem infoI:(Tryz.prog.info? 3).map (fun i=>(i.zero,i.size,i.bytes))=some (some (.int .i64 0),1,8):=by kernel_rfl
theorem infoA:(Tryz.prog.info? 118).map (fun i=>(i.zero,i.size,i.bytes))=some (some (.agg #[.int .i64 0,.int .i64 0,.int .i64 0]),3,24):=by kernel_rfl
theorem infoX:(Tryz.prog.info? 80).map (fun i=>(i.zero,i.size,i.bytes))=some (some (.slice none 0 0),1,24):=by kernel_rfl
theorem infoY:(Tryz.prog.info? 79).map (fun i=>(i.zero,i.size,i.bytes))=some (some (.slice none 0 0),1,24):=by kernel_rfl
theorem intC_len (x:Int):(intC x).length=1:=rfl
theorem in_one (x:Int):∀u ∈ intC x,u.oneCell'=true:=by intro u hu;simp[intC] at hu;subst hu;rfl
theorem ac_one (x:Ac):∀u ∈ x.cells,u.oneCell'=true:=by intro u hu;simp[Ac.cells] at hu;rcases hu with rfl|rfl|rfl <;> rfl
theorem val_one (a:Option Addr) {n c:Nat}:∀u ∈ yz (.slice a n c),u.oneCell'=true:=by intro u hu;simp[yz] at hu;subst hu;rfl
theorem PgIs.intC {w:World} {B:Nat} {vc vt:Value} {P:Pg} (h:PgIs w B vc vt P):Sl w B 1 vc P.cells.length (P.cells.flatMap intC):=by rw[flat_int];exact h.cells
theorem qq.box2 {α:Type} {f:α->List Value} {e T:TypeId} {sz B p:Nat} {X:World} {v x y u1 u2:Value} {l:List α} (h:qq f e sz X B v l) (r:X.heap[p]?=some (.cells #[x,y] T (0,0))) (he:T≠e):
  qq f e sz ((X.setCell ⟨p,0,none⟩ u1).setCell ⟨p,1,none⟩ u2) B v l:=
 qq.other (qq.other h (qq.neT h r he) u1) (qq.neT h r he) u2
theorem row2 {X:World} {p:Nat} {x y u1 u2:Value} {T:TypeId} (r:X.heap[p]?=some (.cells #[x,y] T (0,0))):((X.setCell ⟨p,0,none⟩ u1).setCell ⟨p,1,none⟩ u2).heap[p]?=some (.cells #[u1,u2] T (0,0)):=
 qB (qB r 0 u1) 1 u2
theorem qq.grwT {α β:Type} {f:α->List Value} {f1:β->List Value} {e e1:TypeId} {sz sz1 B B1:Nat} {w w':World} {v v1 v2:Value} {l:List α} {l1:List β} (h:qq f e sz w B v l) (h1:qq f1 e1 sz1 w B1 v1 l1) (he:e≠e1) (hb:Grw w w' v1 v2):qq f e sz w' B v l:=
 h.grw hb fun k hk hk1=>by
  obtain⟨c1,r1⟩:=h.keepObj k hk;obtain⟨c2,r2⟩:=h1.keepObj k hk1;rw[r1] at r2;simp only[Option.some.injEq,Obj.cells.injEq] at r2;exact he r2.2.1
theorem xO.map {w w':World} {B:Nat} {v:Value} {l:List (List Ac)} (h:xO w B v l) (h1:∀vs,qq yz 80 1 w B v vs->qq yz 80 1 w' B v vs) (h2:∀u x,OwnActs w B u x->OwnActs w' B u x):xO w' B v l:=
 let ⟨vs,a,b,c⟩:=h;⟨vs,h1 vs a,b,fun k u x hu hx=>h2 u x (c k u x hu hx)⟩
theorem xu.map {w w':World} {B:Nat} {v:Value} {l:List (List (List Ac))} (h:xu w B v l) (h1:∀vs,qq yz 79 1 w B v vs->qq yz 79 1 w' B v vs) (h2:∀u x,xO w B u x->xO w' B u x):xu w' B v l:=
 let ⟨vs,a,b,c⟩:=h;⟨vs,h1 vs a,b,fun k u x hu hx=>h2 u x (c k u x hu hx)⟩
theorem xu.map2 {w w':World} {B B':Nat} {v:Value} {l:List (List (List Ac))} (h:xu w B v l) (_:B'<=B) (h1:∀{v} vs,qq yz 79 1 w B v vs->qq yz 79 1 w' B' v vs) (h2:∀{v} vs,qq yz 80 1 w B v vs->qq yz 80 1 w' B' v vs)
  (h3:∀u x,OwnActs w B u x->OwnActs w' B' u x):xu w' B' v l:=
 let ⟨vs,a,b,c⟩:=h;⟨vs,h1 vs a,b,fun k u x hu hx=>let ⟨vs2,a2,b2,c2⟩:=c k u x hu hx;⟨vs2,h2 vs2 a2,b2,fun k u x hu hx=>h3 u x (c2 k u x hu hx)⟩⟩
theorem xO.alloc {w:World} {B:Nat} {v:Value} {l:List (List Ac)} (h:xO w B v l) (o:Obj):xO (w.alloc o) B v l:=h.map (fun _ h=>h.alloc o) (fun _ _ h=>qq.alloc h o)
theorem xu.alloc {w:World} {B:Nat} {v:Value} {l:List (List (List Ac))} (h:xu w B v l) (o:Obj):xu (w.alloc o) B v l:=h.map (fun _ h=>h.alloc o) (fun _ _ h=>h.alloc o)
theorem xO.below {w w':World} {B:Nat} {v:Value} {l:List (List Ac)} (h:xO w B v l) (hb:Below w.heap.size w w'):xO w' B v l:=h.map (fun _ h=>qq.below h hb) (fun _ _ h=>qq.below h hb)
theorem xu.below {w w':World} {B:Nat} {v:Value} {l:List (List (List Ac))} (h:xu w B v l) (hb:Below w.heap.size w w'):xu w' B v l:=h.map (fun _ h=>qq.below h hb) (fun _ _ h=>h.below hb)
theorem xO.grwT {β:Type} {f1:β->List Value} {e1:TypeId} {sz1 B1 B:Nat} {w w':World} {v v1 v2:Value} {l:List (List Ac)} {l1:List β} (h:xO w B v l) (h1:qq f1 e1 sz1 w B1 v1 l1) (he:80≠e1) (he2:118≠e1) (hb:Grw w w' v1 v2):xO w' B v l:=
 h.map (fun _ h=>h.grwT h1 he hb) (fun _ _ h=>qq.grwT h h1 he2 hb)
theorem xO.snoc {w w':World} {B:Nat} {v v' u:Value} {l:List (List Ac)} {x:List Ac} {vs:List Value} (hv:qq yz 80 1 w B v vs) (hl:vs.length=l.length) (hc:∀(k:Nat) (u:Value) (x:List Ac),vs[k]?=some u->l[k]?=some x->OwnActs w B u x)
  (hu:OwnActs w B u x) (h':qq yz 80 1 w' B v' (vs++[u])) (hb:Grw w w' v v'):xO w' B v' (l++[x]):=by
 refine⟨_,h',by simp[hl],fun k u' x' hu' hx'=>?_⟩;rcases Nat.lt_trichotomy k l.length with h|h|h
 ·rw [List.getElem?_append_left (by omega)] at hu' hx'
  exact qq.grwT (hc k u' x' hu' hx') hv (by decide) hb
 ·subst h
  rw[List.getElem?_append_right (by omega)] at hu' hx';simp[hl] at hu' hx';subst hu' hx';exact qq.grwT hu hv (by decide) hb
 ·rw [List.getElem?_eq_none (by simp;omega)] at hx'
  cases hx'
theorem xu.snoc {w w':World} {B:Nat} {v v' u:Value} {l:List (List (List Ac))} {x:List (List Ac)} {vs:List Value} (hv:qq yz 79 1 w B v vs) (hl:vs.length=l.length) (hc:∀(k:Nat) (u:Value) (x:List (List Ac)),vs[k]?=some u->l[k]?=some x->xO w B u x)
  (hu:xO w B u x) (h':qq yz 79 1 w' B v' (vs++[u])) (hb:Grw w w' v v'):xu w' B v' (l++[x]):=by
 refine⟨_,h',by simp[hl],fun k u' x' hu' hx'=>?_⟩;rcases Nat.lt_trichotomy k l.length with h|h|h
 ·rw [List.getElem?_append_left (by omega)] at hu' hx'
  exact(hc k u' x' hu' hx').grwT hv (by decide) (by decide) hb
 ·subst h
  rw[List.getElem?_append_right (by omega)] at hu' hx';simp[hl] at hu' hx';subst hu' hx';exact hu.grwT hv (by decide) (by decide) hb
 ·rw [List.getElem?_eq_none (by simp;omega)] at hx'
  cases hx'
theorem take_step {α:Type} {l:List α} {k:Nat} {x:α} (h:l[k]?=some x):l.take (k+1)=l.take k++[x]:=by rw[List.take_add_one,h];rfl
def CloneRet (P:Pg) (w:World) (e:Ending) (w':World):Prop:=∃uc ut,e=.returned (.agg #[uc,ut])/\yY w' w.heap.size uc P.cells/\xu w' w.heap.size ut P.threads/\Below w.heap.size w w'
def CloneMid (P:Pg) (w W:World) (ac:Option Addr) (cc:Nat) (at':Option Addr) (ct:Nat):Exit->Act->World->Prop:=fun e a' X=>
 ∃(p3 g:Nat) (uc:Value),e=.normal/\a'={tmps:=#[(.agg #[.slice ac P.cells.length cc,.slice at' P.threads.length ct]),.pointer (some ⟨w.heap.size,0,none⟩),.pointer (some ⟨w.heap.size+1,0,none⟩),.pointer (some ⟨p3,0,none⟩),undef,undef,undef,undef,undef,.pointer (some ⟨w.heap.size,0,none⟩),.slice ac P.cells.length cc,.int .i64 P.cells.length,.slice (some ⟨g,0,none⟩) 0 P.cells.length,.pointer (some ⟨w.heap.size,0,none⟩),.slice ac P.cells.length cc,uc,.agg #[uc,.slice none 0 0],undef,undef,undef,undef,undef,undef,undef,undef,undef,undef,undef,undef,undef,undef,undef,undef,undef,undef,undef,undef,undef,undef,undef,undef,undef,undef,undef,undef,undef,undef,undef,undef,undef],defers:=[]}/\W.heap.size<=p3/\X.heap[p3]?=some (.cells #[uc,.slice none 0 0] 25 (0,0))/\yY X W.heap.size uc P.cells/\Below W.heap.size W X
theorem p_Clone (vc vt:Value) (P:Pg) (w:World) (h:PgIs w w.heap.size vc vt P) (hP:PgOk P):Calls Tryz.prog 59 #[.agg #[vc,vt]] w (CloneRet P w):=by
 obtain⟨ac,cc,rfl,mc⟩:=h.cells.ex;obtain⟨at',ct,rfl,mt⟩:=h.thr.ex;have H:=qj h;have HP:=qj hP;have hc4:=hP.cells;have ht4:=hP.threads;clear h hP;go_enter Tryz.func59,Tryz.ntmps59;go_wp2;have b0:Below w.heap.size w ((w.alloc (.cells #[(.slice ac P.cells.length cc),(.slice at' P.threads.length ct)] 25)).alloc (.cells #[.slice none 0 0,.slice none 0 0] 25)):=((Below.refl _ w).alloc (Nat.le_refl _) _).alloc (by simp) _;have r1:=qF (o:=.cells #[.slice none 0 0,.slice none 0 0] 25) (qy w (.cells #[(.slice ac P.cells.length cc),(.slice at' P.threads.length ct)] 25));have r2:=qL (w:=w.alloc (.cells #[(.slice ac P.cells.length cc),(.slice at' P.threads.length ct)] 25)) (o:=.cells #[.slice none 0 0,.slice none 0 0] 25) (g:=w.heap.size+1) (by simp);have z0:w.heap.size+2<=((w.alloc (.cells #[(.slice ac P.cells.length cc),(.slice at' P.threads.length ct)] 25)).alloc (.cells #[.slice none 0 0,.slice none 0 0] 25)).heap.size:=by simp
 generalize (w.alloc (.cells #[(.slice ac P.cells.length cc),(.slice at' P.threads.length ct)] 25)).alloc (.cells #[.slice none 0 0,.slice none 0 0] 25)=W at *;have d0:W.cell? ⟨w.heap.size,0,none⟩=some (.slice ac P.cells.length cc):=qg r1 0;have R2:=qj r2;have R1:=qj r1;have B0:=qj b0;have lw:w.heap.size < W.heap.size:=by omega
 clear r1 r2 b0;refine wp_mono (Q:=CloneMid P w W ac cc at' ct) ?_ ?_
 ·
  refine qT (W.heap.size) [0,1,0,3,0,1,2,0,3,2] (.frk [0,1,2,4,5] (.frk [3] (.fin [6,7,8,9]) (.fin [8,6,7,9])) (.fin [8,3,6,7,9])) (by kernel_rfl) ?_;simp only[yp,qP,qD,sD,sE,sF,sG]
  repeat first|(refine qC fun K hK=>?_;go_simp;refine hK _ _ ?_;clear hK K)|(apply qJ;(intro w2 hw2;have hk1:=hw2.cell;have hk3:=hw2.1;clear hw2;go_simp;with_reducible rfl);simp only[Act.put,sA,sB,sC])|refine qA ?_
  refine⟨?_,?_⟩
  ·
   refine qI (fun K hK=>?_);refine yF (f:=intC) (e:=3) (sz:=1) (B:=W.heap.size) _ _ _ rfl _ 8 Tryz.underlying22 infoI rfl rfl (by first|omega|(simp <;> omega)) (by first|omega|(simp <;> omega)) (by first|omega|(simp <;> omega)) ?_;intro w1 o1 b1 z1;refine hK _ _ (RN.KeepsN.of_below b1) ?_;clear hK K;have b1:Below W.heap.size W w1:=(Below.refl _ W).drew.trans b1;have z1:W.heap.size+1<=w1.heap.size:=z1
   repeat refine qA ?_
   refine⟨?_,?_⟩
   ·
    refine qN (fun K hK=>?_);refine yD _ _ _ rfl _ 8 Tryz.underlying22 infoI rfl o1 P.cells rfl ((H.o.below B0.o).below (b1.mono (by omega))).intC (by first|omega|(simp <;> omega)) rfl rfl intC_len in_one (by first|omega|(simp <;> omega)) (by first|omega|(simp <;> omega)) ?_;intro v' w2 o2 g2;refine hK _ _ ?_;clear hK K;obtain⟨ua,uk,rfl,-⟩:=qq.form2 (show yY w2 W.heap.size v' P.cells from o2);have b2:=b1.trans (g2.below b1.size fun k h=>(o1.lt k h).1);have O2:=qj (show yY w2 W.heap.size (.slice ua P.cells.length uk) P.cells from o2);have B2:=qj b2;have z2:=b2.size;clear o1 b1 g2 o2 b2
    repeat (refine qC fun K hK=>?_;go_simp;refine hK _ _ ?_;clear hK K)
    refine qI (fun K hK=>?_);go_simp;refine hK _ _ (RN.KeepsN.alloc _ _ (by first|omega|exact Nat.le_refl _)) ?_;clear hK K;refine qN (fun K hK=>?_);go_simp;refine hK _ _ ?_;clear hK K
    repeat refine qA ?_
    exact⟨w2.heap.size,W.heap.size,_,rfl,rfl,by omega,qy w2 _,O2.o.alloc _,B2.o.alloc z2 _⟩
   ·
    refine qI (fun K hK=>?_);go_simp;refine hK _ _ (RN.KeepsN.alloc _ _ (by first|omega|exact Nat.le_refl _)) ?_;clear hK K;have b3:=b1.alloc (by omega) (.cells #[.slice none 0 0,.slice none 0 0] 25);have r3:=qy w1 (.cells #[.slice none 0 0,.slice none 0 0] 25);have o3:=o1.alloc (.cells #[.slice none 0 0,.slice none 0 0] 25);have z3:w1.heap.size+1<=(w1.alloc (.cells #[.slice none 0 0,.slice none 0 0] 25)).heap.size:=by simp
    generalize hX:w1.alloc (.cells #[.slice none 0 0,.slice none 0 0] 25)=X3 at *;refine qN (fun K hK=>?_);refine yD _ _ _ rfl _ 8 Tryz.underlying22 infoI rfl o3 P.cells rfl ((H.o.below B0.o).below (b3.mono (by omega))).intC (by first|omega|(simp <;> omega)) rfl rfl intC_len in_one (by first|omega|(simp <;> omega)) (by first|omega|(simp <;> omega)) ?_;intro v' w2 o2 g2;refine hK _ _ ?_;clear hK K;obtain⟨ua,uk,rfl,-⟩:=qq.form2 (show yY w2 W.heap.size v' P.cells from o2);have b2:=b3.trans (g2.below b3.size fun k h=>(o3.lt k h).1);have r2:=qQ r3 g2 (by simp[Value.ownBlock];omega);have O2:=qj (show yY w2 W.heap.size (.slice ua P.cells.length uk) P.cells from o2);have B2:=qj b2;have z2:=b2.size;have z4:=g2.size;clear o1 o3 b1 b3 g2 o2 b2 r3;have y0:w2.cell? ⟨w1.heap.size,0,none⟩=some (.slice none 0 0):=qg r2 0;have y1:w2.cell? ⟨w1.heap.size,1,none⟩=some (.slice none 0 0):=qg r2 1;have yf:∀j,w2.frozen? ⟨w1.heap.size,j,none⟩=false:=fun j=>qx r2 j;have R3:=qj r2;clear r2
    repeat (refine qC fun K hK=>?_;go_simp;refine hK _ _ ?_;clear hK K)
    refine qN (fun K hK=>?_);go_simp;refine hK _ _ ?_;clear hK K
    repeat refine qA ?_
    exact⟨w1.heap.size,W.heap.size,_,rfl,rfl,by omega,row2 R3.o,qq.box2 O2.o R3.o (by decide),
     (B2.o.setCell (p:=⟨w1.heap.size,0,none⟩) (by show W.heap.size<=w1.heap.size;omega) _).setCell (p:=⟨w1.heap.size,1,none⟩) (by show W.heap.size<=w1.heap.size;omega) _⟩
  ·
   refine qI (fun K hK=>?_);go_simp;refine hK _ _ (RN.KeepsN.alloc _ _ (by first|omega|exact Nat.le_refl _)) ?_;clear hK K;have b3:Below W.heap.size W (W.alloc (.cells #[.slice none 0 0,.slice none 0 0] 25)).drew:=((Below.refl _ W).alloc (Nat.le_refl _) _).drew;have r3:(W.alloc (.cells #[.slice none 0 0,.slice none 0 0] 25)).drew.heap[W.heap.size]?=some (.cells #[.slice none 0 0,.slice none 0 0] 25 (0,0)):=qy W _;have z3:W.heap.size+1<=(W.alloc (.cells #[.slice none 0 0,.slice none 0 0] 25)).drew.heap.size:=by show _<=(W.alloc _).heap.size;simp
   generalize hX:(W.alloc (.cells #[.slice none 0 0,.slice none 0 0] 25)).drew=X3 at *;refine qI (fun K hK=>?_);refine yF (f:=intC) (e:=3) (sz:=1) (B:=W.heap.size) _ _ _ rfl _ 8 Tryz.underlying22 infoI rfl rfl (by first|omega|(simp <;> omega)) (by first|omega|(simp <;> omega)) (by first|omega|(simp <;> omega)) ?_;intro w1 o1 b1 z1;refine hK _ _ (RN.KeepsN.of_below (b1.mono (by omega))) ?_;clear hK K;have b5:=b3.trans (b1.mono (by omega));have r5:=qp r3 b1 (by omega);refine qN (fun K hK=>?_);refine yD _ _ _ rfl _ 8 Tryz.underlying22 infoI rfl o1 P.cells rfl ((H.o.below B0.o).below (b5.mono (by omega))).intC (by first|omega|(simp <;> omega)) rfl rfl intC_len in_one (by first|omega|(simp <;> omega)) (by first|omega|(simp <;> omega)) ?_;intro v' w2 o2 g2;refine hK _ _ ?_;clear hK K;obtain⟨ua,uk,rfl,-⟩:=qq.form2 (show yY w2 W.heap.size v' P.cells from o2);have b2:=b5.trans (g2.below b5.size fun k h=>(o1.lt k h).1);have r2:=qQ r5 g2 (by simp[Value.ownBlock];omega);have O2:=qj (show yY w2 W.heap.size (.slice ua P.cells.length uk) P.cells from o2);have B2:=qj b2;have z2:=b2.size;have z4:=g2.size;clear o1 b1 b3 b5 g2 o2 b2 r3 r5;have y0:w2.cell? ⟨W.heap.size,0,none⟩=some (.slice none 0 0):=qg r2 0;have y1:w2.cell? ⟨W.heap.size,1,none⟩=some (.slice none 0 0):=qg r2 1;have yf:∀j,w2.frozen? ⟨W.heap.size,j,none⟩=false:=fun j=>qx r2 j;have R3:=qj r2;have y2:W.heap.size < w2.heap.size:=by omega
   clear r2
   repeat (refine qC fun K hK=>?_;go_simp;refine hK _ _ ?_;clear hK K)
   refine qN (fun K hK=>?_);go_simp;refine hK _ _ ?_;clear hK K
   repeat refine qA ?_
   exact⟨W.heap.size,X3.heap.size,_,rfl,rfl,Nat.le_refl _,row2 R3.o,qq.box2 O2.o R3.o (by decide),
    (B2.o.setCell (p:=⟨W.heap.size,0,none⟩) (Nat.le_refl _) _).setCell (p:=⟨W.heap.size,1,none⟩) (Nat.le_refl _) _⟩
 ·rintro e a' X ⟨p3,g,uc,rfl,rfl,hp3,r3,O3,B3⟩
  dsimp only
  have z3:=B3.size;have lp3:=qh r3;have d1:X.cell? ⟨w.heap.size,1,none⟩=some (.slice at' P.threads.length ct):=qu B3 lw (qg R1.o 1);have HX:=qj (((H.o.below B0.o).below (B3.mono (by omega))));have BX:=qj (B0.o.trans (B3.mono (by omega)));have lwX:w.heap.size < X.heap.size:=by omega
  have R3:=qj r3;have O3:=qj O3;have HW:=qj (H.o.below B0.o);clear r3 d0 R1 H HX;go_wp2_with fail
  go_loopw [20] (fun p wr=>∃(i:Nat) (ut:Value),i<=P.threads.length/\p=.int .i64 i/\Below W.heap.size W wr/\wr.heap[p3]?=some (.cells #[uc,ut] 25 (0,0))/\yY wr W.heap.size uc P.cells/\xu wr W.heap.size ut (P.threads.take i)) (fun p _=>P.threads.length - (intOf p).toNat)
  case atStart=>exact⟨0,.slice none 0 0,by omega,by go_num,B3,R3.o,O3.o,[],qq.nil _ _,rfl,fun k u x hu=>by simp at hu⟩
  case round=>
   obtain⟨i,ut,hi,rfl,hB,r3,hO,hT⟩:=hrel;have zB:=hB.size;by_cases hlt:i < P.threads.length
   ·obtain ⟨b,off,u,t,hat,hb,ht,hu,hut⟩:=HW.o.thr.at rfl hlt
    have hu:=qu (hB.mono (show w.heap.size<=W.heap.size by omega)) hb hu;obtain⟨au,cu,rfl,mu⟩:=hut.ex;have ht3:=HP.o.txs t (List.mem_of_getElem? ht);have hal:=HP.o.acts t (List.mem_of_getElem? ht);have HAL:=qj hal;have HT0:=qj ht;have HUT:=qj hut;have R3:=qj r3;have HO:=qj hO;have HTT:=qj hT;have HB:=qj hB;have hbz:b < wr.heap.size:=by omega
    subst hat;clear r3 hO hT hB ht hut hal O3 B3;obtain⟨wo,rfl⟩:∃wo,wo=wr:=⟨_,rfl⟩
    go_wp2_with (at_make;refine wpList_makeF (f:=yz) (e:=80) (sz:=1) (B:=wo.heap.size) rfl _ _ _ rfl _ 24 Tryz.underlying79 infoX rfl rfl (by first|omega|(simp <;> omega)) (by first|omega|(simp <;> omega)) (by first|omega|(simp <;> omega)) ?_;refine xt.halt ?_)
    refine xt.go ?_;intro w1 o1 b1 z1;have B1:=qj b1;have O1:=qj o1;clear o1 b1 hu;go_wp2_with fail
    go_loopw [6,29] (fun q p wr=>∃(k:Nat),k<=t.length/\p=.int .i64 k/\Below wo.heap.size wo wr/\xO wr wo.heap.size q (t.take k)) (fun _ p _=>t.length - (intOf p).toNat)
    case atStart=>exact⟨0,by omega,by go_num,B1.o,[],O1.o,rfl,fun k u x hu=>by simp at hu⟩
    case round=>
     obtain⟨k,hk,rfl,hB,hQ⟩:=hrel;have zo:=hB.size;by_cases hlk:k < t.length
     ·obtain ⟨vs,hv,hvl,hvc⟩:=hQ
      obtain⟨aq,cq,rfl,-⟩:=hv.form2;have hvk:vs.length=k:=by rw[hvl,List.length_take];omega
      have hvk3:vs.length<=3:=by omega
      rw[hvk];rw[hvk] at hv;have hB0:=HB.o.trans (hB.mono zB);have B:=qj hB;have HV:=qj hv;have HVC:=qj hvc;have HVL:=qj hvl;obtain⟨b',off',u',l,hal',hb',hl,hu',hul⟩:=HUT.o.at rfl hlk;obtain⟨al,cl,rfl,ml⟩:=Sl.ex (show Sl W w.heap.size 3 u' l.length (l.flatMap Ac.cells) from hul);have hu':=qu (hB0.mono (show w.heap.size<=W.heap.size by omega)) hb' hu';have hbz':b' < wr.heap.size:=by omega
      have HUL:=qj (show Sl wr w.heap.size 3 (.slice al l.length cl) l.length (l.flatMap Ac.cells) from Sl.below (show Sl W w.heap.size 3 (.slice al l.length cl) l.length (l.flatMap Ac.cells) from hul) (hB0.mono (by omega)));have hll:=HAL.o l (List.mem_of_getElem? hl);have HL:=qj hl;subst hal';clear hl hul hv hvc hvl hB hvk hB0 O1 B1;go_wp2_with (at_make;refine wpList_makeF (f:=Ac.cells) (e:=118) (sz:=3) (B:=wr.heap.size) rfl _ _ _ rfl _ 24 Tryz.underlying80 infoA rfl rfl (by first|omega|(simp <;> omega)) (by first|omega|(simp <;> omega)) (by first|omega|(simp <;> omega)) ?_;refine xt.halt ?_)
      refine xt.go ?_;intro w2 o2 b2 z2;have B2:=qj b2;have O2:=qj o2;clear o2 b2 hu';go_wp2_with (at_builtin;refine wpList_appA rfl _ _ _ rfl _ 24 Tryz.underlying80 infoA rfl O2.o l rfl (HUL.o.below (B2.o.mono (by omega))) (by first|omega|(simp <;> omega)) rfl rfl Ac.len ac_one (by first|omega|(simp <;> omega)) (by first|omega|(simp <;> omega)) ?_;refine xt.halt ?_)
      refine xt.go ?_;intro va w3 o3 g3;obtain⟨ga,ka,rfl,-⟩:=qq.form2 (show OwnActs w3 wr.heap.size va l from o3);have z2':=B2.o.size;have b3:=B2.o.trans (g3.below z2' fun q h=>(O2.o.lt q h).1);have O3:=qj (qq.base (show OwnActs w3 wr.heap.size (.slice ga l.length ka) l from o3) zo);have V3:=qj (qq.below HV.o b3);have VC3:=qj (fun(q:Nat) (u:Value) (x:List Ac) (h1:vs[q]?=some u) (h2:(t.take k)[q]?=some x)=>qq.below (HVC.o q u x h1 h2) b3);have B3:=qj (B.o.trans (b3.mono zo));have z3:=b3.size;clear o3 g3 B2 O2 b3 HV HVC B;go_wp2_with (at_builtin;refine qU rfl _ _ _ rfl _ 24 Tryz.underlying79 infoX rfl V3.o (.slice ga l.length ka) (by first|omega|(simp <;> omega)) (by rfl) (by rfl) (by first|rfl|simp) rfl (val_one _) (by first|omega|(simp only[List.length_append,List.length_cons,List.length_nil,List.length_replicate];omega)) (by first|omega|(simp only[List.length_append,List.length_cons,List.length_nil,List.length_replicate];omega)) ?_;refine xt.halt ?_)
      refine xt.go ?_;intro g4 c4 w4 o4 G4;have T4:=qj (xO.snoc V3.o HVL.o VC3.o O3.o o4 G4);have B4:=qj (B3.o.trans (G4.below B3.o.size fun q h=>(V3.o.lt q h).1));clear o4 G4;go_wp2_with fail;go_roundw
      case rel=>exact⟨k+1,by omega,by go_num,B4.o,by rw[take_step HL.o];exact T4.o⟩
      case measure=>simp[intOf];omega
     ·obtain rfl:k=t.length:=by omega
      rw[List.take_length] at hQ;have hB0:=HB.o.trans (hB.mono zB);have r5:=qp R3.o hB (qh R3.o);have O5:=qj (qq.below HO.o hB);have T5:=HTT.o.below hB;obtain⟨vs,hv,hvl,hvc⟩:=hQ;obtain⟨aq,cq,rfl,-⟩:=hv.form2;have Q5:=qj (show xO wr W.heap.size (.slice aq vs.length cq) t from⟨vs,hv.base zB,hvl,fun q u x h1 h2=>qq.base (hvc q u x h1 h2) zB⟩);obtain⟨ts,ht1,ht2,ht3⟩:=T5;obtain⟨at5,ct5,rfl,-⟩:=ht1.form2;have htk:ts.length=i:=by rw[ht2,List.length_take];omega
      have htk4:ts.length<=4:=by omega
      rw[htk] at ht1 r5;have H1:=qj ht1;have H2:=qj ht2;have H3:=qj ht3;have R5:=qj r5;have B5:=qj hB0;have e1:=qg r5 1;have l5:=qh r5;have ef:=qx r5 1;have hvt:vs.length<=3:=by omega
      clear hv hvl hvc ht1 ht2 ht3 r5 hB hB0 R3 HO HTT HB B1 O1 htk;go_wp2_with (at_builtin;refine qU rfl _ _ _ rfl _ 24 Tryz.underlying23 infoY rfl H1.o (.slice aq vs.length cq) (by first|omega|(simp <;> omega)) (by rfl) (by rfl) (by first|rfl|simp) rfl (val_one _) (by first|omega|(simp only[List.length_append,List.length_cons,List.length_nil,List.length_replicate];omega)) (by first|omega|(simp only[List.length_append,List.length_cons,List.length_nil,List.length_replicate];omega)) ?_;refine xt.halt ?_)
      refine xt.go ?_;intro g4 c4 w4 o4 G4;have T6:=xu.snoc H1.o H2.o H3.o Q5.o o4 G4;have B6:=B5.o.trans (G4.below B5.o.size fun q h=>(H1.o.lt q h).1);have R6:=qQ R5.o G4 (qq.neT H1.o R5.o (by decide));have O6:=O5.o.grwT H1.o (by decide) G4;have f6:=qx R6 1;have y6:=qg R6 1;have l6:=qh R6;have T6:=qj T6;have B6:=qj B6;have R6:=qj R6;have O6:=qj O6;clear o4 G4 e1 ef;go_wp2_with fail;go_roundw
      case rel=>
       refine⟨i+1,_,by omega,by go_num,B6.o.setCell (p:=⟨p3,1,none⟩) hp3 _,qB R6.o 1 _,qq.other O6.o (qq.neT O6.o R6.o (by decide)) _,?_⟩;rw[take_step HT0.o];exact T6.o.map (fun vs h=>qq.other h (qq.neT h R6.o (by decide)) _) (fun u x h=>h.map (fun vs h=>qq.other h (qq.neT h R6.o (by decide)) _) (fun u x h=>qq.other h (qq.neT h R6.o (by decide)) _))
      case measure=>simp[intOf];omega
   ·obtain rfl:i=P.threads.length:=by omega
    rw[List.take_length] at hT;have r2:=qp R2.o hB (by omega);obtain⟨aq,cq,hut,-⟩:∃a c,ut=.slice a P.threads.length c/\True:=by
     obtain⟨ts,h1,h2,-⟩:=hT;obtain⟨a,c,e,-⟩:=h1.form2;exact⟨a,c,by rw[e,h2],trivial⟩
    subst hut;obtain⟨a6,c6,rfl,-⟩:=hO.form2;have e0:wr.cell? ⟨p3,0,none⟩=some (.slice a6 P.cells.length c6):=qg r3 0;have e1:wr.cell? ⟨p3,1,none⟩=some (.slice aq P.threads.length cq):=qg r3 1;have y0:wr.cell? ⟨w.heap.size+1,0,none⟩=some (.slice none 0 0):=qg r2 0;have y1:wr.cell? ⟨w.heap.size+1,1,none⟩=some (.slice none 0 0):=qg r2 1;have yf:∀j,wr.frozen? ⟨w.heap.size+1,j,none⟩=false:=fun j=>qx r2 j;have l3:=qh r3;have l2:=qh r2;have HB:=qj hB;have HO:=qj hO;have HTT:=qj hT;have R4:=qj r2;clear hB hO hT r2 r3 O3 B3 BX R2;go_wp2;have r4:=row2 (u1:=.slice a6 P.cells.length c6) (u2:=.slice aq P.threads.length cq) R4.o;have c0:=qg r4 0;have c1:=qg r4 1;simp only[List.getElem?_toArray,List.getElem?_cons_zero,List.getElem?_cons_succ] at c0 c1;refine bodyPost_ret (v:=.agg #[.slice a6 P.cells.length c6,.slice aq P.threads.length cq]) (by simp[results,Tryz.results59,go_sem,c0,c1]) rfl ⟨_,_,rfl,?_,?_,?_⟩
    ·exact qq.base (qq.box2 HO.o R4.o (by decide)) (by omega)
    ·exact HTT.o.map2 (by omega) (fun vs h=>qq.base (qq.box2 h R4.o (by decide)) (by omega)) (fun vs h=>qq.base (qq.box2 h R4.o (by decide)) (by omega)) (fun u x h=>qq.base (qq.box2 h R4.o (by decide)) (by omega))
    ·exact ((B0.o.trans (HB.o.mono (by omega))).setCell (p:=⟨w.heap.size+1,0,none⟩) (by show w.heap.size<=w.heap.size+1;omega) _).setCell (p:=⟨w.heap.size+1,1,none⟩) (by show w.heap.size<=w.heap.size+1;omega) _
end
