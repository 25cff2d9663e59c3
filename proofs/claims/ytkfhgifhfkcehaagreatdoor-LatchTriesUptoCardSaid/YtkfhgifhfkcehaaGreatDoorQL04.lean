/- Parts of the proof, merged by program out of 3 texts (EnA, EnB, EmD): the first: Programs that may be: valid, Valid. Conditions: those of each theorem, as typed. -/
import Derived.Test.YtkfhgifhfkcehaaGreatDoorQL03
import Derived.Laws.MakeOwn
import Derived.OwnWalk
import Derived.Test.YtkfhgifhfkcehaaGreatDoorQL01
import Derived.Laws.EntriesVeiled
set_option linter.unusedVariables false
set_option linter.unusedSimpArgs false
set_option linter.unusedSectionVars false
set_option maxRecDepth 100000
set_option maxHeartbeats 4000000
namespace Go.Proofs.YtkfhgifhfkcehaaGreatDoor
open Go.RowKit
section
attribute [local irreducible] wpL
abbrev acVal (a:Ac):Value:=.agg #[.int .i64 a.kind,.int .i64 a.cell,.int .i64 a.val]
def numsOf (k:Int):Int:=if k=1 then 1 else if k=2∨k=3 then 2 else 0
theorem p_numbers (k:Int) (w:World):Calls Tryz.prog 88 #[.int .i64 k] w fun e w'=>e=.returned (.int .i64 (numsOf k))∧w'=w:=by
 go_enter Tryz.func88,Tryz.ntmps88
 by_cases h1:k=1
 ·subst h1
  go_wp2
  go_ret
  exact⟨rfl,rfl⟩
 ·by_cases h2:k=2
  ·subst h2
   go_wp2
   go_ret
   exact⟨rfl,rfl⟩
  ·by_cases h3:k=3
   ·subst h3
    go_wp2
    go_ret
    exact⟨rfl,rfl⟩
   ·have e1:(k==1)=false:=by simpa using h1
    have e2:(k==2)=false:=by simpa using h2
    have e3:(k==3)=false:=by simpa using h3
    have hn:numsOf k=0:=by unfold numsOf;rw[if_neg h1,if_neg (by omega)]
    rw[hn]
    clear hn h1 h2 h3
    go_wp2
    go_ret
    exact⟨rfl,rfl⟩
def actOk (a:Ac) (n:Int) (last:Bool):Bool:=
 if numsOf a.kind=0 then(a.kind==4)&&last&&(a.cell==0)&&(a.val==0)
 else if numsOf a.kind=1∧a.val≠0 then false
 else decide (0≤a.cell)&&decide (a.cell < n)&&decide (-1000≤a.val)&&decide (a.val≤1000)
theorem p_valid (a:Ac) (n:Int) (last:Bool) (w:World):Calls Tryz.prog 50 #[acVal a,.int .i64 n,.bool last] w fun e w'=>e=.returned (.bool (actOk a n last))∧Below w.heap.size w w':=by
 obtain⟨ak,al,av⟩:=a
 go_enter Tryz.func50,Tryz.ntmps50
 go_wp2_with fail
 refine(p_numbers _ _).mono ?_
 rintro e w1 ⟨rfl,rfl⟩
 have hB:=(Below.refl w.heap.size w).alloc (Nat.le_refl _) (.cells #[.int .i64 ak,.int .i64 al,.int .i64 av] 118)
 have HB:=hid hB
 clear hB
 by_cases h0:numsOf ak=0
 ·rw [h0]
  cases last <;>
  ·go_wp2
   all_goals
    go_ret
    exact⟨by simp_all [actOk];try omega,(Below.refl _ _).alloc (Nat.le_refl _) _⟩
 ·by_cases h1:numsOf ak=1
  ·rw [h1]
   go_wp2
   all_goals
    go_ret
    exact⟨by simp_all [actOk];try omega,(Below.refl _ _).alloc (Nat.le_refl _) _⟩
  ·have e0:(numsOf ak==0)=false:=by simpa using h0
   have e1:(numsOf ak==1)=false:=by simpa using h1
   go_wp2
   all_goals
    go_ret
    exact⟨by simp_all [actOk];try omega,(Below.refl _ _).alloc (Nat.le_refl _) _⟩
structure ValidIs (P:Pg):Prop where
 nums:1≤P.cells.length∧P.cells.length≤4∧1≤P.threads.length∧P.threads.length≤4
 cell:∀(k:Nat) (c:Int),P.cells[k]?=some c→-1000000≤c∧c≤1000000
 txs:∀(i:Nat) (t:List (List Ac)),P.threads[i]?=some t→t.length≤3
 acts:∀(i:Nat) (t:List (List Ac)),P.threads[i]?=some t→∀(k:Nat) (l:List Ac),t[k]?=some l→1≤l.length∧l.length≤6
 act:∀(i:Nat) (t:List (List Ac)),P.threads[i]?=some t→∀(k:Nat) (l:List Ac),t[k]?=some l→∀(j:Nat) (a:Ac),l[j]?=some a→actOk a P.cells.length ((j:Int)==(l.length:Int) - 1)=true
theorem actOk_iff (a:Ac) (n:Nat) (last:Bool):actOk a n last=true↔(a.kind=4∧last=true∧a.cell=0∧a.val=0)∨((a.kind=1∧a.val=0∨a.kind=2∨a.kind=3)∧0≤a.cell∧a.cell < n∧-1000≤a.val∧a.val≤1000):=by
 unfold actOk numsOf
 by_cases h1:a.kind=1
 ·simp [h1];omega
 ·by_cases h2:a.kind=2
  ·simp [h2];omega
  ·by_cases h3:a.kind=3
   ·simp [h3];omega
   ·cases last <;> simp[h1,h2,h3] <;> (try omega)
theorem ValidIs.ok {P:Pg} (h:ValidIs P):PgOk P:=by
 obtain⟨n1,n2,n3,n4⟩:=h.nums
 refine⟨⟨n1,n2⟩,fun c hc=>?_,⟨n3,n4⟩,fun t ht=>?_,fun t ht l hl=>?_,fun t ht l hl k a ha=>?_⟩
 ·obtain ⟨k,hk,e⟩:=List.mem_iff_getElem.1 hc
  exact h.cell k c (by rw[←e];exact List.getElem?_eq_getElem hk)
 ·obtain ⟨k,hk,e⟩:=List.mem_iff_getElem.1 ht
  exact h.txs k t (by rw[←e];exact List.getElem?_eq_getElem hk)
 ·obtain ⟨i,hi,e⟩:=List.mem_iff_getElem.1 ht
  obtain⟨k,hk,e2⟩:=List.mem_iff_getElem.1 hl
  exact h.acts i t (by rw[←e];exact List.getElem?_eq_getElem hi) k l (by rw[←e2];exact List.getElem?_eq_getElem hk)
 ·obtain ⟨i,hi,e⟩:=List.mem_iff_getElem.1 ht
  obtain⟨j,hj,e2⟩:=List.mem_iff_getElem.1 hl
  have h1:=(actOk_iff _ _ _).1 (h.act i t (by rw[←e];exact List.getElem?_eq_getElem hi) j l (by rw[←e2];exact List.getElem?_eq_getElem hj) k a ha)
  rcases h1 with⟨h1,h2,h3⟩|h1
  ·refine .inl ⟨h1,?_,h3⟩
   have:=(List.getElem?_eq_some_iff.1 ha).1
   have h4:(k:Int)=(l.length:Int) - 1:=by simpa using h2
   omega
  ·exact .inr h1
structure PgIs (w:World) (B:Nat) (vc vt:Value) (P:Pg):Prop where
 cells:Sl w B 1 vc P.cells.length (P.cells.map (.int .i64))
 thr:IsThr w B vt P.threads
theorem PgIs.below {w w':World} {B:Nat} {vc vt:Value} {P:Pg} (h:PgIs w B vc vt P) (hb:Below B w w'):PgIs w' B vc vt P:=⟨h.cells.below hb,h.thr.below hb⟩
theorem PgIs.more {w:World} {B B':Nat} {vc vt:Value} {P:Pg} (h:PgIs w B vc vt P) (hb:B≤B'):PgIs w B' vc vt P:=⟨h.cells.more hb,h.thr.more hb⟩
def ValidPost (P:Pg) (ev:Value) (w:World) (e:Ending) (w':World):Prop:=(ValidIs P∧e=.returned .nilIface∨¬ValidIs P∧e=.returned ev)∧Below w.heap.size w w'
theorem ValidPost.no {P:Pg} {ev:Value} {w w':World} {e:Ending} (h:¬ValidIs P) (he:e=.returned ev) (hb:Below w.heap.size w w'):ValidPost P ev w e w':=⟨.inr ⟨h,he⟩,hb⟩
theorem ValidPost.yes {P:Pg} {ev:Value} {w w':World} {e:Ending} (h:ValidIs P) (he:e=.returned .nilIface) (hb:Below w.heap.size w w'):ValidPost P ev w e w':=⟨.inl ⟨h,he⟩,hb⟩
def LOk (n:Nat) (l:List Ac):Prop:=(1≤l.length∧l.length≤6)∧∀(j:Nat) (a:Ac),l[j]?=some a→actOk a n ((j:Int)==(l.length:Int) - 1)=true
def TOk (n:Nat) (t:List (List Ac)):Prop:=t.length≤3∧∀(k:Nat) (l:List Ac),t[k]?=some l→LOk n l
theorem ValidIs.tok {P:Pg} (h:ValidIs P) {i:Nat} {t:List (List Ac)} (ht:P.threads[i]?=some t):TOk P.cells.length t:=⟨h.txs i t ht,fun k l hl=>⟨h.acts i t ht k l hl,h.act i t ht k l hl⟩⟩
theorem Sl.intAt {w:World} {B n cap:Nat} {a:Option Addr} {l:List Int} (h:Sl w B 1 (.slice a n cap) n (l.map (.int .i64))) {k:Nat} (hk:k < n):∃b off c,a=some ⟨b,off,none⟩∧b < B∧l[k]?=some c∧w.cell? ⟨b,off+k,none⟩=some (.int .i64 c):=by
 obtain⟨b,off,u,rfl,hb,hu,hc⟩:=h.at1 hk
 rw[List.getElem?_map] at hu
 cases hl:l[k]? with
 |none=>rw[hl] at hu;simp at hu
 |some c=>rw[hl] at hu;simp at hu;subst hu;exact⟨b,off,c,rfl,hb,rfl,hc⟩
theorem p_Valid (vc vt:Value) (P:Pg) (w:World) (h:PgIs w w.heap.size vc vt P) (ev:Value) (hev:w.cell? ⟨2,0,none⟩=some ev) (h10:2 < w.heap.size):
  Calls Tryz.prog 23 #[.agg #[vc,vt]] w (ValidPost P ev w):=by
 obtain⟨ac,cc,rfl,mc⟩:=h.cells.ex
 obtain⟨at',ct,rfl,mt⟩:=h.thr.ex
 have H:=hid h
 clear h
 have hB0:=(Below.refl w.heap.size w).alloc (Nat.le_refl _) (.cells #[.slice ac P.cells.length cc,.slice at' P.threads.length ct] 25)
 have HB0:=hid hB0
 have hev:=cell_below hB0 h10 hev
 clear hB0
 by_cases h1:1≤P.cells.length∧P.cells.length≤4∧1≤P.threads.length∧P.threads.length≤4
 case neg=>
  have hn:¬ValidIs P:=fun h=>h1 h.nums
  have HN:=hid hn
  clear hn
  generalize hnc:P.cells.length=n at *
  generalize hnt:P.threads.length=m at *
  go_enter Tryz.func23,Tryz.ntmps23
  by_cases a1:1≤n
  ·by_cases a2:n≤4
   ·by_cases a3:1≤m
    ·have a4:¬m≤4:=by omega
     go_wp2
     go_ret
     exact ValidPost.no HN.out rfl HB0.out
    ·go_wp2
     go_ret
     exact ValidPost.no HN.out rfl HB0.out
   ·go_wp2
    go_ret
    exact ValidPost.no HN.out rfl HB0.out
  ·go_wp2
   go_ret
   exact ValidPost.no HN.out rfl HB0.out
 case pos=>
  have h1':=hid h1
  obtain⟨n1,n2,n3,n4⟩:=h1
  go_enter Tryz.func23,Tryz.ntmps23
  go_wp2_with fail
  have r0:=row_new w (.cells #[.slice ac P.cells.length cc,.slice at' P.threads.length ct] 25)
  have z0:w.heap.size < (w.alloc (.cells #[.slice ac P.cells.length cc,.slice at' P.threads.length ct] 25)).heap.size:=by simp
  have H0:=hid ((H.out.below HB0.out).more (Nat.le_of_lt z0))
  generalize w.alloc (.cells #[.slice ac P.cells.length cc,.slice at' P.threads.length ct] 25)=W0 at *
  have d0:W0.cell? ⟨w.heap.size,0,none⟩=some (.slice ac P.cells.length cc):=row_cell r0 0
  have d1:W0.cell? ⟨w.heap.size,1,none⟩=some (.slice at' P.threads.length ct):=row_cell r0 1
  clear r0 H
  go_loop [37] (fun i=>∃k:Nat,k≤P.cells.length∧i=.int .i64 k∧∀(j:Nat) (c:Int),j < k→P.cells[j]?=some c→-1000000≤c∧c≤1000000) (fun i=>P.cells.length - (intOf i).toNat)
  case atStart=>exact⟨0,by omega,by go_num,fun j c hj=>absurd hj (by omega)⟩
  case round=>
   obtain⟨k,hk,rfl,hok⟩:=hrel
   have HOK:=hid hok
   clear hok
   by_cases hlt:k < P.cells.length
   ·obtain ⟨b,off,c,rfl,hb,hc,hcc⟩:=H0.out.cells.intAt hlt
    have HC:=hid hc
    clear hc
    by_cases c1:-1000000≤c
    ·by_cases c2:c≤1000000
     ·go_wp2_with fail
      go_round
      case rel=>
       refine⟨k+1,by omega,by go_num,fun j c' hj hc'=>?_⟩
       rcases Nat.lt_or_eq_of_le (Nat.lt_succ_iff.1 hj) with h|rfl
       ·exact HOK.out j c' h hc'
       ·rw [HC.out] at hc';cases hc';exact⟨c1,c2⟩
      case measure=>simp[intOf];omega
     ·go_wp2
      go_ret
      exact ValidPost.no (fun h=>by have:=(h.cell k c HC.out).2;omega) rfl HB0.out
    ·go_wp2
     go_ret
     exact ValidPost.no (fun h=>by have:=(h.cell k c HC.out).1;omega) rfl HB0.out
   ·obtain rfl:k=P.cells.length:=by omega
    go_wp2_with fail
    have d0':=hid d0
    have hev':=hid hev
    clear d0 d1 hev
    go_loopw [52] (fun p wr=>∃i:Nat,i≤P.threads.length∧p=.int .i64 i∧Below W0.heap.size W0 wr∧∀(j:Nat) (t:List (List Ac)),j < i→P.threads[j]?=some t→TOk P.cells.length t) (fun p _=>P.threads.length - (intOf p).toNat)
    case atStart=>exact⟨0,by omega,by go_num,Below.refl _ _,fun j t hj=>absurd hj (by omega)⟩
    case round=>
     obtain⟨i,hi,rfl,hbw,htk⟩:=hrel
     have HBW:=hid hbw
     have HTK:=hid htk
     clear hbw htk
     by_cases hlt:i < P.threads.length
     ·obtain ⟨b,off,u,t,hat,hb,ht,hu,hut⟩:=H0.out.thr.at rfl hlt
      obtain⟨au,cu,rfl,mu⟩:=hut.ex
      have hu:=cell_below HBW.out hb hu
      have hev:=cell_below HBW.out (by omega) hev'.out
      have h10':2 < wr.heap.size:=by have:=HBW.out.size;omega
      have hbz:b < wr.heap.size:=by have:=HBW.out.size;omega
      have HT:=hid ht
      have HUT:=hid hut
      subst hat
      clear ht hut
      by_cases c3:t.length≤3
      ·go_wp2_with fail
       clear hu hev
       go_loopw [62] (fun p ws=>∃k:Nat,k≤t.length∧p=.int .i64 k∧Below W0.heap.size W0 ws∧∀(j:Nat) (l:List Ac),j < k→t[j]?=some l→LOk P.cells.length l) (fun p _=>t.length - (intOf p).toNat)
       case atStart=>exact⟨0,by omega,by go_num,HBW.out,fun j t hj=>absurd hj (by omega)⟩
       case round=>
        obtain⟨k,hk,rfl,hbw,hlk⟩:=hrel
        have HBX:=hid hbw
        have HLK:=hid hlk
        clear hbw hlk
        by_cases hlk:k < t.length
        ·obtain ⟨b',off',u',l,hal,hb',hl,hu',hul⟩:=HUT.out.at rfl hlk
         obtain⟨al,cl,rfl,ml⟩:=Sl.ex (show Sl W0 W0.heap.size 3 u' l.length (l.flatMap Ac.cells) from hul)
         have hu':=cell_below HBX.out hb' hu'
         have hev:=cell_below HBX.out (by omega) hev'.out
         have h10'':2 < wr.heap.size:=by have:=HBX.out.size;omega
         have hbz':b' < wr.heap.size:=by have:=HBX.out.size;omega
         have HL:=hid hl
         have HUL:=hid (show Sl W0 W0.heap.size 3 (.slice al l.length cl) l.length (l.flatMap Ac.cells) from hul)
         subst hal
         clear hl hul
         by_cases c4:1≤l.length
         ·by_cases c5:l.length≤6
          ·go_wp2_with fail
           clear hu' hev
           go_loopw [77] (fun p wt=>∃j:Nat,j≤l.length∧p=.int .i64 j∧Below W0.heap.size W0 wt∧∀(q:Nat) (a:Ac),q < j→l[q]?=some a→actOk a P.cells.length ((q:Int)==(l.length:Int) - 1)=true) (fun p _=>l.length - (intOf p).toNat)
           case atStart=>exact⟨0,by omega,by go_num,HBX.out,fun j t hj=>absurd hj (by omega)⟩
           case round=>
            obtain⟨j,hj,rfl,hbw,hact⟩:=hrel
            have HBY:=hid hbw
            have HAC:=hid hact
            clear hbw hact
            by_cases hlj:j < l.length
            ·obtain ⟨b3,o3,a,hal,hb3,ha,hc⟩:=HUL.out.atF Ac.len rfl hlj
             have q0:wr.cell? ⟨b3,o3+j*3,none⟩=some (.int .i64 a.kind):=cell_below HBY.out hb3 (hc 0 (by decide))
             have q1:wr.cell? ⟨b3,o3+j*3+1,none⟩=some (.int .i64 a.cell):=cell_below HBY.out hb3 (hc 1 (by decide))
             have q2:wr.cell? ⟨b3,o3+j*3+2,none⟩=some (.int .i64 a.val):=cell_below HBY.out hb3 (hc 2 (by decide))
             have e0:=cell_below HBY.out z0 d0'.out
             have hev:=cell_below HBY.out (by omega) hev'.out
             have h10t:2 < wr.heap.size:=by have:=HBY.out.size;omega
             have hb3z:b3 < wr.heap.size:=by have:=HBY.out.size;omega
             have hz0t:w.heap.size < wr.heap.size:=by have:=HBY.out.size;omega
             have HA:=hid ha
             have hwr:wrap64 ((l.length:Int) - 1)=(l.length:Int) - 1:=IntWalk.wrap64_in _ (by omega)
             subst hal
             clear hc ha
             go_wp2_with fail
             refine(p_valid a _ _ _).mono ?_
             rintro e w5 ⟨rfl,q5⟩
             have qz:wr.heap.size+1≤w5.heap.size:=by have:=q5.size;simpa using this
             have Q5:=hid ((HBY.out.alloc HBY.out.size (.cells #[.int .i64 a.kind,.int .i64 a.cell,.int .i64 a.val] 118)).trans (q5.mono (by have:=HBY.out.size;simp;omega)))
             have hev:=cell_below Q5.out (by omega) hev'.out
             have h10t:2 < w5.heap.size:=by have:=Q5.out.size;omega
             clear q5 q0 q1 q2 e0
             cases hak:actOk a P.cells.length ((j:Int)==(l.length:Int) - 1) with
             |true=>
              go_wp2_with fail
              go_roundw
              case rel=>
               refine⟨j+1,by omega,by go_num,Q5.out,fun q a' hq hqa=>?_⟩
               rcases Nat.lt_or_eq_of_le (Nat.lt_succ_iff.1 hq) with h|rfl
               ·exact HAC.out q a' h hqa
               ·rw [HA.out] at hqa;cases hqa;exact hak
              case measure=>simp[intOf];omega
             |false=>
              go_wp2
              go_ret
              exact ValidPost.no (fun h=>by have:=h.act i t HT.out k l HL.out j a HA.out;rw[hak] at this;cases this) rfl (HB0.out.trans (Q5.out.mono (by omega)))
            ·obtain rfl:j=l.length:=by omega
             go_wp2_with fail
             go_roundw
             case rel=>
              refine⟨k+1,by omega,by go_num,HBY.out,fun q l' hq hl'=>?_⟩
              rcases Nat.lt_or_eq_of_le (Nat.lt_succ_iff.1 hq) with h|rfl
              ·exact HLK.out q l' h hl'
              ·rw [HL.out] at hl';cases hl';exact⟨⟨c4,c5⟩,fun q a hqa=>HAC.out q a (List.getElem?_eq_some_iff.1 hqa).1 hqa⟩
             case measure=>simp[intOf];omega
          ·go_wp2
           go_ret
           exact ValidPost.no (fun h=>by have:=h.acts i t HT.out k l HL.out;omega) rfl (HB0.out.trans (HBX.out.mono (by omega)))
         ·go_wp2
          go_ret
          exact ValidPost.no (fun h=>by have:=h.acts i t HT.out k l HL.out;omega) rfl (HB0.out.trans (HBX.out.mono (by omega)))
        ·obtain rfl:k=t.length:=by omega
         go_wp2_with fail
         go_roundw
         case rel=>
          refine⟨i+1,by omega,by go_num,HBX.out,fun q t' hq ht'=>?_⟩
          rcases Nat.lt_or_eq_of_le (Nat.lt_succ_iff.1 hq) with h|rfl
          ·exact HTK.out q t' h ht'
          ·rw [HT.out] at ht';cases ht';exact⟨c3,fun q l hql=>HLK.out q l (List.getElem?_eq_some_iff.1 hql).1 hql⟩
         case measure=>simp[intOf];omega
      ·go_wp2
       go_ret
       exact ValidPost.no (fun h=>by have:=h.txs i t HT.out;omega) rfl (HB0.out.trans (HBW.out.mono (by omega)))
     ·obtain rfl:i=P.threads.length:=by omega
      go_wp2
      go_ret
      refine ValidPost.yes ⟨h1'.out,fun k c hc=>HOK.out k c (List.getElem?_eq_some_iff.1 hc).1 hc,fun i t ht=>(HTK.out i t (List.getElem?_eq_some_iff.1 ht).1 ht).1,fun i t ht k l hl=>((HTK.out i t (List.getElem?_eq_some_iff.1 ht).1 ht).2 k l hl).1,fun i t ht k l hl=>((HTK.out i t (List.getElem?_eq_some_iff.1 ht).1 ht).2 k l hl).2⟩ rfl (HB0.out.trans (HBW.out.mono (by omega)))
end
section
attribute [local irreducible] wpL
section
variable {α:Type} {f:α→List Value} {e:TypeId} {sz B:Nat} {P:Program} {o:Oper} {a:Act} {K:Act→World→Prop} {Q:Exit→Act→World→Prop}
theorem wp_makeF (s c:Operand) (t:TypeId) (ho:o.op=.makeSlice t s c) (z:Value) (bytes:Nat) (ht:P.underlying t=some (.slice e)) (hinfo:(P.info? e).map (fun i=>(i.zero,i.size,i.bytes))=some (some z,sz,bytes))
  {w:World} {n:Nat} (hs:a.eval s=.int .i64 0) (hc:a.eval c=.int .i64 n) (hn:n≤9223372036854775807) (hby:bytes*n≤140737488355328) (hB:B≤w.heap.size)
  (hK:∀w',OwnF f e sz w' B (.slice (some ⟨w.heap.size,0,none⟩) 0 n) []→Below w.heap.size w w'→w.heap.size+1≤w'.heap.size→K (a.put o.dst (.slice (some ⟨w.heap.size,0,none⟩) 0 n)) w'):
  o.wp P a w K Q:=by
 obtain⟨i0,hi,hz0,hz1,hz2⟩:=info_parts hinfo
 obtain⟨w',hr,h1,h2⟩:=run_make_own (P:=P) w B t e i0 z sz ht hi hz0 hz1 .i64 .i64 n (by rw[hz2];omega) (by unfold maxLen;omega) hB
 unfold Oper.wp execOp
 have hr':(Instr.makeSlice t (.int .i64 0) (.int .i64 (n:Int))).run P w=.ok (.slice (some ⟨w.heap.size,0,none⟩) 0 n) w':=hr
 simp[ho,hs,hc,hr',Result.andThen]
 refine hK w' h1 ((Below.refl w.heap.size w).grown h2 (Nat.le_refl _) (fun _ h=>by cases h)) ?_
 obtain⟨-,h3⟩:=h1
 rcases h3 with⟨h3,-⟩|⟨g,cap,cur,hv,-,hh,-⟩
 ·cases h3
 ·simp only[Value.slice.injEq,Option.some.injEq,Addr.mk.injEq,and_true] at hv
  obtain⟨rfl,-⟩:=hv
  exact row_lt hh
theorem wp_appA {N:Nat} {v u:Value} {l:List α} (s x:Operand) (t:TypeId)
  (ho:o.op=.call {callee:=.builtin .append,args:=#[s,x],argTypes:=#[t,t]})
  (z:Value) (bytes:Nat) (ht:P.underlying t=some (.slice e)) (hinfo:(P.info? e).map (fun i=>(i.zero,i.size,i.bytes))=some (some z,sz,bytes))
  (hzs:z.cells.size=sz) {w:World} (hown:OwnF f e sz w B v l) (ys:List α) {m:Nat} (hm:ys.length=m) (hsrc:Sl w N sz u m (ys.flatMap f)) (hbase:B≤w.heap.size) (hs:a.eval s=v)
  (hx:a.eval x=u) (hl:∀y,(f y).length=sz) (h1:∀y,∀u ∈ f y,u.oneCell'=true) (hn:l.length+m≤9223372036854775807) (hby:(l.length+m)*bytes≤140737488355328)
  (hK:∀v' w',OwnF f e sz w' B v' (l++ys)→Grw w w' v v'→K (a.put o.dst v') w'):
  o.wp P a w K Q:=by
 by_cases hm0:0 < m
 ·exact wp_appS s x t ho z bytes ht hinfo hzs hown ys hm hm0 hsrc hbase hs hx hl h1 hn hby fun g cap w' h2 h3=>hK _ w' h2 h3
 ·obtain rfl:m=0:=by omega
  have hys:ys=[]:=List.eq_nil_of_length_eq_zero hm
  subst hys
  obtain⟨ad,c,rfl,-⟩:=hsrc.ex
  obtain⟨i0,hi,hz0,hz1,hz2⟩:=info_parts hinfo
  unfold Oper.wp execOp
  obtain⟨av,cv,rfl,-⟩:=hown.sl.ex
  have hr:(Builtin.append_ #[t,t] o.type #[.slice av l.length cv,.slice ad 0 c]).run P w=.ok (.slice av l.length cv) w:=by
   rcases hown.2 with⟨hv,-⟩|⟨g,cap,cur,hv,_,_,hnc,_⟩
   ·rw [hv]
    cases ad <;> simp[Builtin.append_,run_underlying ht,sizeOf,typeInfo,hi,Builtin.lenOf,Builtin.firstCells,loadCells,loadCellsFrom]
   ·rw [hv]
    cases ad <;> simp[Builtin.append_,run_underlying ht,sizeOf,typeInfo,hi,Builtin.lenOf,Builtin.firstCells,hnc,storeCells,loadCells,loadCellsFrom]
  simp only[ho,resolve,invoke,builtin,Sem.run_bind,Sem.run_pure,Result.andThen_ok,List.map_toArray,List.map_cons,List.map_nil,hs,hx,hr]
  exact hK _ w (by simpa using hown) (Grw.refl w _)
theorem wpList_makeF {ops:Array Oper} {rest:List Oper} (hgd:o.guard=none) (s c:Operand) (t:TypeId) (ho:o.op=.makeSlice t s c) (z:Value) (bytes:Nat) (ht:P.underlying t=some (.slice e)) (hinfo:(P.info? e).map (fun i=>(i.zero,i.size,i.bytes))=some (some z,sz,bytes))
  {w:World} {n:Nat} (hs:a.eval s=.int .i64 0) (hc:a.eval c=.int .i64 n) (hn:n≤9223372036854775807) (hby:bytes*n≤140737488355328) (hB:B≤w.heap.size)
  (hK:∀w',OwnF f e sz w' B (.slice (some ⟨w.heap.size,0,none⟩) 0 n) []→Below w.heap.size w w'→w.heap.size+1≤w'.heap.size→wpList P ops Q rest (a.put o.dst (.slice (some ⟨w.heap.size,0,none⟩) 0 n)) w'):
  wpList P ops Q (o::rest) a w:=
 wpList_plain hgd fun _ hK'=>wp_makeF s c t ho z bytes ht hinfo hs hc hn hby hB fun w' h1 h2 h3=>hK' _ _ (hK w' h1 h2 h3)
theorem wpList_appA {ops:Array Oper} {rest:List Oper} {N:Nat} {v u:Value} {l:List α} (hgd:o.guard=none) (s x:Operand) (t:TypeId)
  (ho:o.op=.call {callee:=.builtin .append,args:=#[s,x],argTypes:=#[t,t]})
  (z:Value) (bytes:Nat) (ht:P.underlying t=some (.slice e)) (hinfo:(P.info? e).map (fun i=>(i.zero,i.size,i.bytes))=some (some z,sz,bytes))
  (hzs:z.cells.size=sz) {w:World} (hown:OwnF f e sz w B v l) (ys:List α) {m:Nat} (hm:ys.length=m) (hsrc:Sl w N sz u m (ys.flatMap f)) (hbase:B≤w.heap.size) (hs:a.eval s=v)
  (hx:a.eval x=u) (hl:∀y,(f y).length=sz) (h1:∀y,∀u ∈ f y,u.oneCell'=true) (hn:l.length+m≤9223372036854775807) (hby:(l.length+m)*bytes≤140737488355328)
  (hK:∀v' w',OwnF f e sz w' B v' (l++ys)→Grw w w' v v'→wpList P ops Q rest (a.put o.dst v') w'):
  wpList P ops Q (o::rest) a w:=
 wpList_plain hgd fun _ hK'=>wp_appA s x t ho z bytes ht hinfo hzs hown ys hm hsrc hbase hs hx hl h1 hn hby fun v' w' h2 h3=>hK' _ _ (hK v' w' h2 h3)
end
section
variable {w:World} {B bW gT:Nat} {vc vt ve:Value} {P:Pg} {S:Wst}
theorem wk_events (h:WkAt w B bW gT vc vt ve P S) (hl:S.evs.length≤100000):
  Calls Tryz.prog 68 #[.pointer (some ⟨bW,0,none⟩)] w fun e w'=>∃v,e=.returned v∧OwnF Ev.cells 53 8 w' w.heap.size v S.evs∧Below w.heap.size w w':=by
 have hbl:=row_lt h.row
 have d2:w.cell? ⟨bW,3,none⟩=some ve:=row_cell h.row 3
 obtain⟨ae,ce,rfl,hme⟩:=h.evs.form2
 have HE:=hid h.evs
 clear h
 go_enter Tryz.func68,Tryz.ntmps68
 go_wp2
 refine wp_rN (w.heap.size) [0,0,0,1,0,3,0,0,0,1,2,0] (.fin [0,1,2,3,4,6,7,8,9,5,10,11]) (by kernel_rfl) ?_
 simp only[wpT,selX,guardAt,sD,sE,sF,sG]
 repeat first|(refine wpL_p fun K hK=>?_;go_simp;refine hK _ _ ?_;clear hK K)|(apply wpL_s;(intro w2 hw2;have hk1:=hw2.cell;have hk3:=hw2.1;clear hw2;go_simp;with_reducible rfl);simp only[Act.put,sA,sB,sC])
 refine wpL_k (fun K hK=>?_)
 refine wp_makeF (f:=Ev.cells) (e:=53) (sz:=8) (B:=w.heap.size) _ _ _ rfl _ 64 Tryz.underlying35 infoE rfl rfl (by first|omega|(simp <;> omega)) (by first|omega|(simp <;> omega)) (by first|omega|(simp <;> omega)) ?_
 intro w1 o1 b1 z1
 refine hK _ _ (RN.KeepsN.of_below b1) ?_
 have b1:Below w.heap.size w w1:=(Below.refl _ w).drew.trans b1
 have z1:w.heap.size+1≤w1.heap.size:=z1
 clear hK K
 refine wpL_e (fun K hK=>?_)
 refine wp_appA _ _ _ rfl _ 64 Tryz.underlying35 infoE rfl o1 S.evs rfl (HE.out.sl.below b1) (by first|omega|(simp <;> omega)) rfl rfl Ev.len ev_one (by first|omega|(simp <;> omega)) (by first|omega|(simp <;> omega)) ?_
 intro v' w2 o2 g2
 refine hK _ _ ?_
 clear hK K
 have b2:=b1.trans (g2.below b1.size fun k h=>(o1.lt k h).1)
 have O2:=hid (show OwnF Ev.cells 53 8 w2 w.heap.size v' S.evs from o2)
 have B2:=hid b2
 clear o1 b1 g2 o2 b2
 repeat first|(refine wpL_p fun K hK=>?_;go_simp;refine hK _ _ ?_;clear hK K)|refine wpL_nil ?_
 go_wp2
 go_ret
 exact⟨v',rfl,O2.out,B2.out⟩
end
end
section
attribute [local irreducible] wpL
theorem ownsRow_set {w:World} {B sz n g cap:Nat} {e:TypeId} {xs:List Value} (h:w.ownsRow B e sz (.slice (some ⟨g,0,none⟩) n cap) n xs) (j:Nat) (u:Value):
  (w.setCell ⟨g,j,none⟩ u).ownsRow B e sz (.slice (some ⟨g,0,none⟩) n cap) n (xs.set j u):=by
 obtain⟨h1,h2⟩:=h
 refine⟨by simpa using h1,?_⟩
 rcases h2 with⟨h2,-⟩|⟨g',cap',cur,hv,hg,hh,hnc,hcm,hs,ht⟩
 ·cases h2
 ·simp only[Value.slice.injEq,Option.some.injEq,Addr.mk.injEq,and_true,true_and] at hv
  obtain⟨rfl,rfl⟩:=hv
  refine .inr ⟨g,cap,cur.setIfInBounds j u,rfl,hg,row_set hh j u,hnc,hcm,by simpa using hs,?_⟩
  rw[←ht,Array.toList_setIfInBounds,List.take_set]
def Th.put (t:Th):Nat→Th→Th
 |0,u=>{t with tx:=u.tx}
 |1,u=>{t with act:=u.act}
 |2,u=>{t with begun:=u.begun}
 |3,u=>{t with adding:=u.adding}
 |4,u=>{t with read:=u.read}
 |_,u=>{t with waits:=u.waits}
theorem th_set:∀(l:List Th) (i j:Nat) (t u:Th),l[i]?=some t→j < 6→∀v,u.cells[j]?=some v→(l.flatMap Th.cells).set (i*6+j) v=(l.set i (t.put j u)).flatMap Th.cells
 |[],i,j,t,u,h,_,_,_=>by simp at h
 |x::l,0,j,t,u,h,hj,v,hv=>by
  simp only[List.getElem?_cons_zero,Option.some.injEq] at h
  subst h
  match j,hj with
  |0,_=>simp[Th.cells] at hv;subst hv;simp[Th.put,Th.cells]
  |1,_=>simp[Th.cells] at hv;subst hv;simp[Th.put,Th.cells]
  |2,_=>simp[Th.cells] at hv;subst hv;simp[Th.put,Th.cells]
  |3,_=>simp[Th.cells] at hv;subst hv;simp[Th.put,Th.cells]
  |4,_=>simp[Th.cells] at hv;subst hv;simp[Th.put,Th.cells]
  |5,_=>simp[Th.cells] at hv;subst hv;simp[Th.put,Th.cells]
 |x::l,i+1,j,t,u,h,hj,v,hv=>by
  have ih:=th_set l i j t u (by simpa using h) hj v hv
  rw[show (i+1)*6+j=i*6+j+6 by omega]
  simp only[List.flatMap_cons,List.set_cons_succ,Th.cells,List.cons_append,List.nil_append]
  rw[ih]
section
variable {w:World} {B gT n c:Nat} {l:List Th}
theorem ths_set (h:OwnF Th.cells 283 6 w B (.slice (some ⟨gT,0,none⟩) n c) l) {i j:Nat} {t u:Th} (ht:l[i]?=some t) (hj:j < 6) {v:Value} (hv:u.cells[j]?=some v):
  OwnF Th.cells 283 6 (w.setCell ⟨gT,i*6+j,none⟩ v) B (.slice (some ⟨gT,0,none⟩) n c) (l.set i (t.put j u)):=by
 have hn:=h.len
 subst hn
 have:=ownsRow_set h (i*6+j) v
 rw[th_set l i j t u ht hj v hv] at this
 unfold OwnF
 rw[List.length_set]
 exact this
theorem ths_all (h:OwnF Th.cells 283 6 w B (.slice (some ⟨gT,0,none⟩) n c) l) {i:Nat} {t:Th} (ht:l[i]?=some t) (u:Th):
  OwnF Th.cells 283 6 ((((((w.setCell ⟨gT,i*6,none⟩ (.int .i64 u.tx)).setCell ⟨gT,i*6+1,none⟩ (.int .i64 u.act)).setCell ⟨gT,i*6+2,none⟩ (.bool u.begun)).setCell ⟨gT,i*6+3,none⟩ (.bool u.adding)).setCell ⟨gT,i*6+4,none⟩ (.int .i64 u.read)).setCell ⟨gT,i*6+5,none⟩ (.int .i64 u.waits)) B (.slice (some ⟨gT,0,none⟩) n c) (l.set i u):=by
 have hi:=(List.getElem?_eq_some_iff.1 ht).1
 have g:∀(l:List Th) (x:Th),i < l.length→(l.set i x)[i]?=some x:=fun l x h=>List.getElem?_set_self h
 have h0:=ths_set (j:=0) h (u:=u) ht (by decide) (by rfl)
 have h1:=ths_set (j:=1) h0 (u:=u) (g _ _ hi) (by decide) (by rfl)
 have h2:=ths_set (j:=2) h1 (u:=u) (g _ _ (by simpa using hi)) (by decide) (by rfl)
 have h3:=ths_set (j:=3) h2 (u:=u) (g _ _ (by simpa using hi)) (by decide) (by rfl)
 have h4:=ths_set (j:=4) h3 (u:=u) (g _ _ (by simpa using hi)) (by decide) (by rfl)
 have h5:=ths_set (j:=5) h4 (u:=u) (g _ _ (by simpa using hi)) (by decide) (by rfl)
 simp only[List.set_set] at h5
 exact h5
end
theorem ThOk.zero {P:Pg} {i k:Nat} (hk:k≤(P.txs i).length):ThOk P i {Th.zero with tx:=k}:=⟨hk,Nat.zero_le _,.inl rfl,by simp[Th.zero]⟩
theorem WkAt.ths_put {w w':World} {B bW gT:Nat} {vc vt ve:Value} {P:Pg} {S:Wst} (h:WkAt w B bW gT vc vt ve P S) {i:Nat} (hi:i < P.threads.length) {u:Th} (hu:ThOk P i u) (hk:Kp Mw ve w w') (hr:w'.heap[bW]?=w.heap[bW]?)
  (ht:OwnF Th.cells 283 6 w' B (.slice (some ⟨gT,0,none⟩) P.threads.length P.threads.length) (S.ths.set i u)) (he:OwnF Ev.cells 53 8 w' B ve S.evs):WkAt w' B bW gT vc vt ve P ⟨S.ths.set i u,S.evs⟩:=by
 refine h.turn hk (hr.trans h.row) ht he fun j x hj=>?_
 by_cases e:i=j
 ·subst e
  rw[List.getElem?_set_self (by rw[h.ths.len];exact hi)] at hj
  rw[←Option.some.inj hj]
  exact hu
 ·rw [List.getElem?_set_ne e] at hj
  exact h.tok j x hj
theorem Kp.wrT {M:TypeId→Prop} {ev:Value} {w w':World} {g:Nat} {cs cs':Array Value} {t:TypeId} {fz:Nat×Nat} (hg:w.heap[g]?=some (.cells cs t fz)) (ht:M t) (hw:Wr g cs' t w w'):Kp M ev w w':=
 ⟨hw.below (Nat.zero_le _),fun k c ty f hk hm _=>(hw.other k (by
  rintro rfl
  rw[hg] at hk
  simp only[Option.some.injEq,Obj.cells.injEq] at hk
  exact hm (hk.2.1▸ht))).trans hk,fun k es c hk=>(hw.other k (by
  rintro rfl
  rw[hg] at hk
  cases hk)).trans hk⟩
section
variable {w:World} {B bW gT:Nat} {vc vt ve:Value} {P:Pg} {S:Wst}
theorem wk_ends (h:WkAt w B bW gT vc vt ve P S) (hBw:B≤w.heap.size) (i:Nat) (hi:i < P.threads.length) {t:Th} (ht:S.ths[i]?=some t) (hd:thDone P i t=false) (k:Int) (hl:S.evs.length≤100000):
  Calls Tryz.prog 197 #[.pointer (some ⟨bW,0,none⟩),.int .i64 i,.int .i64 k] w fun x w'=>
  x=.returned (.tuple #[evV (withTx (ev0 k) (idOf i t.tx)),.bool true])∧∃ve',WkAt w' B bW gT vc vt ve' P ⟨S.ths.set i {Th.zero with tx:=t.tx+1},S.evs++[withTx (ev0 k) (idOf i t.tx)]⟩∧Kp Mw ve w w'∧Below B w w'∧∀k,ve'.ownBlock=some k→ve.ownBlock=some k∨w.heap.size≤k:=by
 obtain⟨t',ht',htk,hgl,-⟩:=h.at hi
 rw[ht] at ht'
 obtain rfl:=Option.some.inj ht'
 have htx:=tx_lt h.ok hi htk hd
 have ht3:=Pg.tx3 h.ok hi
 have hm:P.threads.length≤4:=h.ok.threads.2
 have H:=hid h
 have HT:=hid ht
 have hB':=hid hBw
 clear h ht ht'
 have ba:Below w.heap.size w (w.alloc (.cells #[.int .i64 0,.int .i64 0,.int .i64 0,.int .i64 0,.int .i64 0,.int .i64 0,.int .i64 0,.int .i64 0] 53)):=(Below.refl _ _).alloc (Nat.le_refl _) _
 have RZ:=hid (row_new w (.cells #[.int .i64 0,.int .i64 0,.int .i64 0,.int .i64 0,.int .i64 0,.int .i64 0,.int .i64 0,.int .i64 0] 53))
 go_enter Tryz.func197,Tryz.ntmps197
 go_wp2_with fail
 obtain⟨W,hW⟩:∃W,W=w.alloc (.cells #[.int .i64 0,.int .i64 0,.int .i64 0,.int .i64 0,.int .i64 0,.int .i64 0,.int .i64 0,.int .i64 0] 53):=⟨_,rfl⟩
 have zW:W.heap.size=w.heap.size+1:=by rw[hW];simp
 rw[←hW] at ba RZ ⊢
 have BA:=hid ba
 have HW:=hid (H.out.below ba)
 clear ba hW
 refine(wk_happens HW.out (by omega) i hi HT.out (by omega) (ev0 k) hl).mono ?_
 rintro x w1 ⟨rfl,ve1,h1,kp1,b1,ow1⟩
 have rq:w1.heap[w.heap.size]?=some (.cells #[.int .i64 0,.int .i64 0,.int .i64 0,.int .i64 0,.int .i64 0,.int .i64 0,.int .i64 0,.int .i64 0] 53 (0,0)):=by
  refine kp1.cells _ _ _ _ RZ.out (fun hM=>?_) fun _ e=>?_
  ·rcases hM with h|h <;> exact absurd h (by decide)
  ·have:=(H.out.evs.lt _ e).2;omega
 have RQ:=hid rq
 have H1:=hid h1
 have KP1:=hid kp1
 have B1:=hid b1
 have OW1:=hid ow1
 have z1:w.heap.size+1≤w1.heap.size:=by have:=kp1.size;omega
 generalize hE:withTx (ev0 k) (idOf i t.tx)=E at *
 obtain⟨k1,k2,k3,k4,k5,k6,k7,k8⟩:=E
 clear h1 kp1 b1 ow1 rq
 go_wp2_with fail
 have bX:Below w1.heap.size w1 (w1.alloc (.cells #[.int .i64 k1,.int .i64 k2,.int .i64 k3,.int .i64 k4,.int .i64 k5,.int .i64 k6,.int .i64 k7,.int .i64 k8] 53)):=(Below.refl _ _).alloc (Nat.le_refl _) _
 have RX:=row_new w1 (.cells #[.int .i64 k1,.int .i64 k2,.int .i64 k3,.int .i64 k4,.int .i64 k5,.int .i64 k6,.int .i64 k7,.int .i64 k8] 53)
 obtain⟨X,hX⟩:∃X,X=w1.alloc (.cells #[.int .i64 k1,.int .i64 k2,.int .i64 k3,.int .i64 k4,.int .i64 k5,.int .i64 k6,.int .i64 k7,.int .i64 k8] 53):=⟨_,rfl⟩
 have zX:X.heap.size=w1.heap.size+1:=by rw[hX];simp
 rw[←hX] at bX RX ⊢
 have zX':w1.heap.size+1≤X.heap.size:=Nat.le_of_eq zX.symm
 have BX:=hid bX
 have RX:=hid RX
 have HX:=hid (H1.out.below bX)
 have RQX:=hid (row_below RQ.out bX (by omega))
 have rX:=row_cell HX.out.row
 have d2:X.cell? ⟨bW,2,none⟩=some (.slice (some ⟨gT,0,none⟩) P.threads.length P.threads.length):=rX 2
 obtain⟨csT,rT⟩:=OwnF.keepObj HX.out.ths gT rfl
 have zT:=row_lt rT
 have fT:∀j,X.frozen? ⟨gT,j,none⟩=false:=fun j=>row_free rT j
 obtain⟨t2,ht2,-,-,hc⟩:=HX.out.at hi
 rw[HT.out] at ht2
 obtain rfl:=Option.some.inj ht2
 have c0:X.cell? ⟨gT,i*6,none⟩=some (.int .i64 t.tx):=hc 0 (by decide)
 have c1:X.cell? ⟨gT,i*6+1,none⟩=some (.int .i64 t.act):=hc 1 (by decide)
 have c2:X.cell? ⟨gT,i*6+2,none⟩=some (.bool t.begun):=hc 2 (by decide)
 have c3:X.cell? ⟨gT,i*6+3,none⟩=some (.bool t.adding):=hc 3 (by decide)
 have c4:X.cell? ⟨gT,i*6+4,none⟩=some (.int .i64 t.read):=hc 4 (by decide)
 have c5:X.cell? ⟨gT,i*6+5,none⟩=some (.int .i64 t.waits):=hc 5 (by decide)
 have RT:=hid rT
 clear bX hX rX rT hc HW RZ zX htk
 refine wp_region_x [0,0,0,1,0,0,0,0,1,0,0,0,1,0,0,0,2] [0,1,2,3,4,5,6,7,8,9,10,11,12,13,14,15,16] (by kernel_rfl) ?_
 simp only[selX,guardAt,sD,sE,sF,sG]
 repeat first|(refine wpL_p fun K hK=>?_;go_simp;refine hK _ _ ?_;clear hK K)|(apply wpL_s;(intro w2 hw2;have hk1:=hw2.cell;have hk3:=hw2.heap;clear hw2;go_simp;with_reducible rfl);simp only[Act.put,sA,sB,sC])
 refine wpL_e (fun K hK=>?_)
 clear d2
 go_simp
 refine hK _ _ ?_
 clear hK K
 repeat refine wpL_nil ?_
 have hwr:IntKind.i64.wrap ((t.tx:Int)+1)=(t.tx:Int)+1:=IntWalk.i64_in _ (by omega)
 rw[hwr]
 have WR5:=((((((Wr.start RT.out).set (i*6) (.int .i64 ((t.tx:Int)+1))).set (i*6+1) (.int .i64 0)).set (i*6+2) (.bool false)).set (i*6+3) (.bool false)).set (i*6+4) (.int .i64 0)).set (i*6+5) (.int .i64 0)
 have T5:OwnF Th.cells 283 6 (((((((X).setCell ⟨gT,i*6,none⟩ (.int .i64 ((t.tx:Int)+1))).setCell ⟨gT,i*6+1,none⟩ (.int .i64 0)).setCell ⟨gT,i*6+2,none⟩ (.bool false)).setCell ⟨gT,i*6+3,none⟩ (.bool false)).setCell ⟨gT,i*6+4,none⟩ (.int .i64 0)).setCell ⟨gT,i*6+5,none⟩ (.int .i64 0)) B (.slice (some ⟨gT,0,none⟩) P.threads.length P.threads.length) (S.ths.set i {Th.zero with tx:=t.tx+1}):=ths_all (w:=X) HX.out.ths HT.out {Th.zero with tx:=t.tx+1}
 generalize hW5:((((((X).setCell ⟨gT,i*6,none⟩ (.int .i64 ((t.tx:Int)+1))).setCell ⟨gT,i*6+1,none⟩ (.int .i64 0)).setCell ⟨gT,i*6+2,none⟩ (.bool false)).setCell ⟨gT,i*6+3,none⟩ (.bool false)).setCell ⟨gT,i*6+4,none⟩ (.int .i64 0)).setCell ⟨gT,i*6+5,none⟩ (.int .i64 0)=W5 at *
 clear hW5 hwr
 have RQ5:=(WR5.other w.heap.size (by omega)).trans RQX.out
 have RX5:=(WR5.other w1.heap.size (by omega)).trans RX.out
 have bD:Below W5.heap.size W5 W5.drew:=(Below.refl _ _).drew
 have RQ5:W5.drew.heap[w.heap.size]?=_:=RQ5
 have RX5:W5.drew.heap[w1.heap.size]?=_:=RX5
 have BD:=hid bD
 have zD:W5.drew.heap.size=W5.heap.size:=rfl
 obtain⟨W8,hW8⟩:∃W8,W8=W5.drew:=⟨_,rfl⟩
 rw[←hW8] at RQ5 RX5 BD zD ⊢
 clear bD hW8
 have RQ5':=hid RQ5
 have WR5:=hid WR5
 have T5:=hid T5
 have e0:=row_cell RX5
 have q0:W8.cell? ⟨w1.heap.size,0,none⟩=some (.int .i64 k1):=e0 0
 have q1:W8.cell? ⟨w1.heap.size,1,none⟩=some (.int .i64 k2):=e0 1
 have q2:W8.cell? ⟨w1.heap.size,2,none⟩=some (.int .i64 k3):=e0 2
 have q3:W8.cell? ⟨w1.heap.size,3,none⟩=some (.int .i64 k4):=e0 3
 have q4:W8.cell? ⟨w1.heap.size,4,none⟩=some (.int .i64 k5):=e0 4
 have q5:W8.cell? ⟨w1.heap.size,5,none⟩=some (.int .i64 k6):=e0 5
 have q6:W8.cell? ⟨w1.heap.size,6,none⟩=some (.int .i64 k7):=e0 6
 have q7:W8.cell? ⟨w1.heap.size,7,none⟩=some (.int .i64 k8):=e0 7
 have zf:∀j,W8.frozen? ⟨w.heap.size,j,none⟩=false:=fun j=>row_free RQ5 j
 have zc:=row_cell RQ5
 have y0:W8.cell? ⟨w.heap.size,0,none⟩=some (.int .i64 0):=zc 0
 have y1:W8.cell? ⟨w.heap.size,1,none⟩=some (.int .i64 0):=zc 1
 have y2:W8.cell? ⟨w.heap.size,2,none⟩=some (.int .i64 0):=zc 2
 have y3:W8.cell? ⟨w.heap.size,3,none⟩=some (.int .i64 0):=zc 3
 have y4:W8.cell? ⟨w.heap.size,4,none⟩=some (.int .i64 0):=zc 4
 have y5:W8.cell? ⟨w.heap.size,5,none⟩=some (.int .i64 0):=zc 5
 have y6:W8.cell? ⟨w.heap.size,6,none⟩=some (.int .i64 0):=zc 6
 have y7:W8.cell? ⟨w.heap.size,7,none⟩=some (.int .i64 0):=zc 7
 have z5:w1.heap.size+1≤W8.heap.size:=by have:=WR5.out.size;omega
 clear e0 zc RX5 RQ5 c0 c1 c2 c3 c4 c5 fT zD
 go_wp2
 have RQ5:=RQ5'.out
 have WR6:=((((((((Wr.start RQ5).set 0 (.int .i64 k1)).set 1 (.int .i64 k2)).set 2 (.int .i64 k3)).set 3 (.int .i64 k4)).set 4 (.int .i64 k5)).set 5 (.int .i64 k6)).set 6 (.int .i64 k7)).set 7 (.int .i64 k8)
 generalize ((((((((W8).setCell ⟨w.heap.size,0,none⟩ (.int .i64 k1)).setCell ⟨w.heap.size,1,none⟩ (.int .i64 k2)).setCell ⟨w.heap.size,2,none⟩ (.int .i64 k3)).setCell ⟨w.heap.size,3,none⟩ (.int .i64 k4)).setCell ⟨w.heap.size,4,none⟩ (.int .i64 k5)).setCell ⟨w.heap.size,5,none⟩ (.int .i64 k6)).setCell ⟨w.heap.size,6,none⟩ (.int .i64 k7)).setCell ⟨w.heap.size,7,none⟩ (.int .i64 k8)=W6 at *
 have KT:Kp Mw ve w W6:=Kp.wr (((((Kp.of_below BA.out).trans KP1.out fun _ h=>.inl h).trans (Kp.of_below BX.out) fun _ h=>.inl h).trans (Kp.wrT (ev:=ve) RT.out (.inr rfl) WR5.out) fun _ h=>.inl h).trans (Kp.of_below BD.out) fun _ h=>.inl h) WR6 (Nat.le_refl _)
 have cc:=row_cell WR6.row
 have cc0:=cc 0
 have cc1:=cc 1
 have cc2:=cc 2
 have cc3:=cc 3
 have cc4:=cc 4
 have cc5:=cc 5
 have cc6:=cc 6
 have cc7:=cc 7
 simp at cc0 cc1 cc2 cc3 cc4 cc5 cc6 cc7
 refine bodyPost_ret (v:=.tuple #[evV ⟨k1,k2,k3,k4,k5,k6,k7,k8⟩,.bool true]) (by simp[results,Tryz.results197,go_sem,cc0,cc1,cc2,cc3,cc4,cc5,cc6,cc7]) rfl ⟨by first|rfl|rw[hE],ve1,?_,?_,?_,?_⟩
 ·have hbw:=row_lt H.out.row
  have neR:bW≠gT:=by
   rintro rfl
   have h1:=HX.out.row
   rw[RT.out] at h1
   simp only[Option.some.injEq,Obj.cells.injEq] at h1
   exact absurd h1.2.1 (by decide)
  refine H.out.turn KT ((WR6.other bW (by omega)).trans ((row_below (HX.out.row |> (WR5.out.other bW neR).trans) BD.out (by have:=WR5.out.size;have:=row_lt HX.out.row;omega)))) (OwnF.wr (OwnF.below T5.out BD.out) WR6 fun e=>?_) ?_ fun j x hj=>?_
  ·simp only[Value.ownBlock,Option.some.injEq] at e
   omega
  ·try rw[hE]
   refine OwnF.wr (OwnF.below (OwnF.wr HX.out.evs WR5.out (OwnF.neT HX.out.evs RT.out (by decide))) BD.out) WR6 fun e=>?_
   rcases OW1.out _ e with h|h
   ·have:=(H.out.evs.lt _ h).2;omega
   ·omega
  ·by_cases e:i=j
   ·subst e
    rw[List.getElem?_set_self (by rw[H.out.ths.len];exact hi)] at hj
    rw[←Option.some.inj hj]
    exact ThOk.zero htx
   ·rw [List.getElem?_set_ne e] at hj
    exact H.out.tok j x hj
 ·exact KT
 ·refine ((((BA.out.mono hB'.out).trans B1.out).trans (BX.out.mono (by have:=B1.out.size;omega))).trans ((WR5.out.below ?_).trans (BD.out.mono ?_))).trans (WR6.below hB'.out)
  ·exact (H.out.ths.lt gT rfl).1
  ·have:=B1.out.size
   have:=WR5.out.size
   have:=hB'.out
   omega
 ·intro j hj
  rcases OW1.out j hj with h|h
  ·exact .inl h
  ·exact .inr (by omega)
end
end
