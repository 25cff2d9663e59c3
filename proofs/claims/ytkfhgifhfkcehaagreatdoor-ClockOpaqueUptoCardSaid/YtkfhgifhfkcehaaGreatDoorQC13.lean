/- Parts of the proof; the first: Events: the map of the fields. Conditions: those of each theorem, as typed. -/
import Derived.Test.YtkfhgifhfkcehaaGreatDoorQC12
import Derived.Test.YtkfhgifhfkcehaaGreatDoorQC10
set_option linter.unusedVariables false
set_option linter.unusedSimpArgs false
set_option linter.unusedSectionVars false
set_option maxRecDepth 100000
set_option maxHeartbeats 4000000
namespace Go.Proofs.YtkfhgifhfkcehaaGreatDoor
open Go.Maps Go.RowKit
section
attribute [local irreducible] xL
theorem xb {w w':World} {b g:Nat} {cs:Array Value} {t:TypeId} {fz:Nat×Nat} (h:w.mapTurned w' b) (hg:w.heap[g]?=some (.cells cs t fz)):w'.heap[g]?=w.heap[g]?:=xH h (by
 rintro rfl;obtain⟨es,c,es',c',hb,-⟩:=h;rw[hb] at hg;cases hg)
def fdsOf (k:Int):List Fd:=if k=1 then[qM,xz] else[qM]
def ClAt (w:World) (B:Nat) (v:Value) (l:List Fd):Prop:=∃(bl:Nat) (sv:Value),v=.func (.func 162) #[] #[.pointer (some ⟨bl,0,none⟩)]/\w.heap[bl]?=some (.cells #[sv] 297 (0,0))/\qq Fd.cells 233 4 w B sv l
theorem ClAt.below {w w':World} {B:Nat} {v:Value} {l:List Fd} (h:ClAt w B v l) (hb:Below w.heap.size w w'):ClAt w' B v l:=let ⟨bl,sv,h1,h2,h3⟩:=h;⟨bl,sv,h1,qp h2 hb (qh h2),qq.below h3 hb⟩
theorem ClAt.turned {w w':World} {B b:Nat} {v:Value} {l:List Fd} (h:ClAt w B v l) (ht:w.mapTurned w' b):ClAt w' B v l:=let ⟨bl,sv,h1,h2,h3⟩:=h;⟨bl,sv,h1,(xb ht h2).trans h2,qq.kd h3 (Kd.turned (T:=fun _=>False) ht) fun h=>h⟩
def FldInv (w:World) (B bm:Nat) (K:Int->Prop):Prop:=∃M,xp w bm M/\∀k,K k->∃v,M k=some v/\ClAt w B v (fdsOf k)
theorem FldInv.below {w w':World} {B bm:Nat} {K:Int->Prop} (h:FldInv w B bm K) (hb:Below w.heap.size w w'):FldInv w' B bm K:=let ⟨M,h1,h2⟩:=h;⟨M,h1.below hb h1.lt,fun k hk=>let ⟨v,h3,h4⟩:=h2 k hk;⟨v,h3,h4.below hb⟩⟩
def FldsAt (w:World) (B bm:Nat):Prop:=∃(M:Int->Option Value) (bq:Nat),xp w bm M/\(∀k:Int,k=1\/4<=k/\k < 8->∃v,M k=some v/\ClAt w B v (fdsOf k))/\M 2=some (.func (.func 165) #[] #[.pointer (some ⟨bq,0,none⟩)])/\M 3=some (.func (.func 170) #[] #[.pointer (some ⟨bq,0,none⟩)])/\LstAt w bq/\B<=bm
def FldRet (w:World) (e:Ending) (w':World):Prop:=∃bm,e=.returned (.map (some bm))/\FldsAt w' w.heap.size bm/\Below w.heap.size w w'
def FldMid (w W:World):Exit->Act->World->Prop:=fun e a' X=>∃bm bl gs:Nat,e=.normal/\a'={tmps:=#[.map none,.pointer (some ⟨w.heap.size,0,none⟩),.map (some bm),undef,undef,.map (some bm),.func (.func 161) #[] #[],qM.val,xz.val,.slice (some ⟨gs,0,none⟩) 2 2,.func (.func 162) #[] #[.pointer (some ⟨bl,0,none⟩)],.map (some bm),undef,undef,undef,undef,undef,undef,undef,undef,undef,undef,undef,undef,undef,undef,undef,undef,undef,undef],defers:=[]}/\xp X bm (rup (fun _=>none) 1 (some (.func (.func 162) #[] #[.pointer (some ⟨bl,0,none⟩)])))/\X.heap[bl]?=some (.cells #[.slice (some ⟨gs,0,none⟩) 2 2] 297 (0,0))/\qq Fd.cells 233 4 X W.heap.size (.slice (some ⟨gs,0,none⟩) 2 2) [qM,xz]/\Below W.heap.size W X/\W.heap.size<=bm
theorem e_fields (w:World):Calls Tryz.prog 120 #[] w (FldRet w):=by
 go_enter Tryz.func120,Tryz.ntmps120;go_wp2_with fail;have b0:Below w.heap.size w (w.alloc (.cells #[.func (.func 161) #[] #[]] 298)):=(Below.refl _ w).alloc (Nat.le_refl _) _;have r0:=qy w (.cells #[.func (.func 161) #[] #[]] 298);generalize w.alloc (.cells #[.func (.func 161) #[] #[]] 298)=W at *;have y0:=qg r0 0;have l0:=qh r0;have hmk:∀X:World,Sem.run Tryz.prog (Instr.makeMap 229 none) X=.ok (.map (some X.heap.size)) (X.alloc (.map #[] 0)):=fun X=>by kernel_rfl
 refine wp_mono (Q:=FldMid w W) ?_ ?_
 ·
  refine qT (W.heap.size) [3,1,3,3,3,3,2,0,0] (.frk [1] (.fin [0,2,3,4,5,6,7,8]) (.frk [2] (.fin [0,3,4,5,6,7,8]) (.frk [3] (.fin [0,4,5,6,7,8]) (.frk [4] (.fin [0,5,6,7,8]) (.fin [5,0,6,7,8]))))) (by kernel_rfl) ?_;simp only[yp,qP,qD,sD,sE,sF,sG]
  repeat first|(apply qJ;(intro w2 hw2;have hk1:=hw2.cell;have hk3:=hw2.1;clear hw2;go_simp;with_reducible rfl);simp only[Act.put,sA,sB,sC])|refine qA ?_
  have bb:=Below.refl W.heap.size W;refine⟨?_,?_⟩
  ·
   have bb:=Below.refl W.heap.size W;refine qI (fun K hK=>?_);go_simp;refine hK _ _ (RN.KeepsN.alloc _ _ (by have:=bb.size;first|omega|exact this)) ?_;clear hK K;obtain⟨W1,hW1⟩:∃X,X=W.drew.alloc (.map #[] 0):=⟨_,rfl⟩
   change xL _ _ _ _ _ (W.drew.alloc (.map #[] 0));rw[←hW1];have hbm:W.heap.size<=W.heap.size:=bb.size;have bs:Below W.heap.size W W1:=by rw[hW1];exact(Below.refl _ W).drew.alloc (Nat.le_refl _) _
   have rm:W1.heap[W.heap.size]?=some (.map #[] 0):=by rw[hW1];exact qy W.drew _
   clear hW1;have bb:=bb.trans (bs.mono bb.size);clear bs;refine qI (fun K hK=>?_);go_simp;refine(e_tx _).mono ?_;rintro e W2 ⟨rfl,bs⟩;refine hK _ _ (RN.KeepsN.of_below (bs.mono (by have:=bb.size;first|omega|exact this))) ?_;clear hK K;have bs:Below W1.heap.size W1 W2:=(Below.refl _ W1).trans bs;have rm:=qp rm bs (qh rm);have bb:=bb.trans (bs.mono bb.size);clear bs;refine qI (fun K hK=>?_);go_simp;refine(e_thread _).mono ?_;rintro e W3 ⟨rfl,bs⟩;refine hK _ _ (RN.KeepsN.of_below (bs.mono (by have:=bb.size;first|omega|exact this))) ?_;clear hK K;have bs:Below W2.heap.size W2 W3:=(Below.refl _ W2).trans bs;have rm:=qp rm bs (qh rm);have bb:=bb.trans (bs.mono bb.size);clear bs;refine qI (fun K hK=>?_);go_simp;refine hK _ _ (RN.KeepsN.alloc _ _ (by have:=bb.size;first|omega|exact this)) ?_;clear hK K;have os:qq Fd.cells 233 4 (W3.alloc (.cells #[.func (.func qM.f) #[] #[],.int .i64 qM.tb,.int .i64 qM.lo,.int .i64 qM.hi,.func (.func xz.f) #[] #[],.int .i64 xz.tb,.int .i64 xz.lo,.int .i64 xz.hi] 233)) W.heap.size (.slice (some ⟨W3.heap.size,0,none⟩) 2 2) [qM,xz]:=qq.lit (f:=Fd.cells) W3 W.heap.size bb.size [qM,xz] Fd.len (by decide);have bs:Below W3.heap.size W3 (W3.alloc (.cells #[.func (.func qM.f) #[] #[],.int .i64 qM.tb,.int .i64 qM.lo,.int .i64 qM.hi,.func (.func xz.f) #[] #[],.int .i64 xz.tb,.int .i64 xz.lo,.int .i64 xz.hi] 233)):=(Below.refl _ _).alloc (Nat.le_refl _) _;have rm:=qp rm bs (qh rm);generalize W3.alloc (.cells #[.func (.func qM.f) #[] #[],.int .i64 qM.tb,.int .i64 qM.lo,.int .i64 qM.hi,.func (.func xz.f) #[] #[],.int .i64 xz.tb,.int .i64 xz.lo,.int .i64 xz.hi] 233)=W4 at *;have bb:=bb.trans (bs.mono bb.size);clear bs;refine qI (fun K hK=>?_);go_simp;refine(e_list _ ⟨_,_,_,rfl⟩ _).mono ?_;rintro e W5 ⟨rfl,hW5⟩;have bs:Below W4.heap.size W4 W5:=by rw[hW5];exact(Below.refl _ W4).alloc (Nat.le_refl _) _
   have rl:=qy W4 (.cells #[.slice (some ⟨W3.heap.size,0,none⟩) 2 2] 297);rw[←hW5] at rl;refine hK _ _ (RN.KeepsN.of_below (bs.mono (by have:=bb.size;first|omega|exact this))) ?_;clear hK K hW5;have rm:=qp rm bs (qh rm);have os:=qq.below os bs;have bb:=bb.trans (bs.mono bb.size);clear bs;refine qN (fun K hK=>?_);refine(xp.made rm).wp_store Tryz.underlying3 Tryz.underlying229 (a:=1) (.inr rfl) (by rfl) (by rfl) (by rfl) ?_;intro X h1 t1;refine hK _ _ ?_;clear hK K;have hne:=xb t1 rl
   repeat first|(refine qC fun K hK=>?_;go_simp;refine hK _ _ ?_;clear hK K)|refine qA ?_
   exact⟨_,_,_,rfl,rfl,h1,hne.trans rl,qq.kd os (Kd.turned (T:=fun _=>False) t1) (fun h=>h),bb.trans (Below.turned t1 (by exact hbm)),by exact hbm⟩
  ·
   have bb:=Below.refl W.heap.size W;refine qI (fun K hK=>?_);go_simp;refine(e_tx _).mono ?_;rintro e W1 ⟨rfl,bs⟩;refine hK _ _ (RN.KeepsN.of_below (bs.mono (by have:=bb.size;first|omega|exact this))) ?_;clear hK K;have bs:Below W.heap.size W W1:=(Below.refl _ W).drew.trans bs;have bb:=bb.trans (bs.mono bb.size);clear bs
   repeat refine qA ?_
   refine⟨?_,?_⟩
   ·
    refine qI (fun K hK=>?_);go_simp;refine hK _ _ (RN.KeepsN.alloc _ _ (by have:=bb.size;first|omega|exact this)) ?_;clear hK K;obtain⟨W2,hW2⟩:∃X,X=W1.alloc (.map #[] 0):=⟨_,rfl⟩
    change xL _ _ _ _ _ (W1.alloc (.map #[] 0));rw[←hW2];have hbm:W.heap.size<=W1.heap.size:=bb.size;have bs:Below W1.heap.size W1 W2:=by rw[hW2];exact(Below.refl _ W1).alloc (Nat.le_refl _) _
    have rm:W2.heap[W1.heap.size]?=some (.map #[] 0):=by rw[hW2];exact qy W1 _
    clear hW2;have bb:=bb.trans (bs.mono bb.size);clear bs;refine qI (fun K hK=>?_);go_simp;refine(e_thread _).mono ?_;rintro e W3 ⟨rfl,bs⟩;refine hK _ _ (RN.KeepsN.of_below (bs.mono (by have:=bb.size;first|omega|exact this))) ?_;clear hK K;have bs:Below W2.heap.size W2 W3:=(Below.refl _ W2).trans bs;have rm:=qp rm bs (qh rm);have bb:=bb.trans (bs.mono bb.size);clear bs;refine qI (fun K hK=>?_);go_simp;refine hK _ _ (RN.KeepsN.alloc _ _ (by have:=bb.size;first|omega|exact this)) ?_;clear hK K;have os:qq Fd.cells 233 4 (W3.alloc (.cells #[.func (.func qM.f) #[] #[],.int .i64 qM.tb,.int .i64 qM.lo,.int .i64 qM.hi,.func (.func xz.f) #[] #[],.int .i64 xz.tb,.int .i64 xz.lo,.int .i64 xz.hi] 233)) W.heap.size (.slice (some ⟨W3.heap.size,0,none⟩) 2 2) [qM,xz]:=qq.lit (f:=Fd.cells) W3 W.heap.size bb.size [qM,xz] Fd.len (by decide);have bs:Below W3.heap.size W3 (W3.alloc (.cells #[.func (.func qM.f) #[] #[],.int .i64 qM.tb,.int .i64 qM.lo,.int .i64 qM.hi,.func (.func xz.f) #[] #[],.int .i64 xz.tb,.int .i64 xz.lo,.int .i64 xz.hi] 233)):=(Below.refl _ _).alloc (Nat.le_refl _) _;have rm:=qp rm bs (qh rm);generalize W3.alloc (.cells #[.func (.func qM.f) #[] #[],.int .i64 qM.tb,.int .i64 qM.lo,.int .i64 qM.hi,.func (.func xz.f) #[] #[],.int .i64 xz.tb,.int .i64 xz.lo,.int .i64 xz.hi] 233)=W4 at *;have bb:=bb.trans (bs.mono bb.size);clear bs;refine qI (fun K hK=>?_);go_simp;refine(e_list _ ⟨_,_,_,rfl⟩ _).mono ?_;rintro e W5 ⟨rfl,hW5⟩;have bs:Below W4.heap.size W4 W5:=by rw[hW5];exact(Below.refl _ W4).alloc (Nat.le_refl _) _
    have rl:=qy W4 (.cells #[.slice (some ⟨W3.heap.size,0,none⟩) 2 2] 297);rw[←hW5] at rl;refine hK _ _ (RN.KeepsN.of_below (bs.mono (by have:=bb.size;first|omega|exact this))) ?_;clear hK K hW5;have rm:=qp rm bs (qh rm);have os:=qq.below os bs;have bb:=bb.trans (bs.mono bb.size);clear bs;refine qN (fun K hK=>?_);refine(xp.made rm).wp_store Tryz.underlying3 Tryz.underlying229 (a:=1) (.inr rfl) (by rfl) (by rfl) (by rfl) ?_;intro X h1 t1;refine hK _ _ ?_;clear hK K;have hne:=xb t1 rl
    repeat first|(refine qC fun K hK=>?_;go_simp;refine hK _ _ ?_;clear hK K)|refine qA ?_
    exact⟨_,_,_,rfl,rfl,h1,hne.trans rl,qq.kd os (Kd.turned (T:=fun _=>False) t1) (fun h=>h),bb.trans (Below.turned t1 (by exact hbm)),by exact hbm⟩
   ·
    refine qI (fun K hK=>?_);go_simp;refine(e_thread _).mono ?_;rintro e W2 ⟨rfl,bs⟩;refine hK _ _ (RN.KeepsN.of_below (bs.mono (by have:=bb.size;first|omega|exact this))) ?_;clear hK K;have bs:Below W1.heap.size W1 W2:=(Below.refl _ W1).trans bs;have bb:=bb.trans (bs.mono bb.size);clear bs
    repeat refine qA ?_
    refine⟨?_,?_⟩
    ·
     refine qI (fun K hK=>?_);go_simp;refine hK _ _ (RN.KeepsN.alloc _ _ (by have:=bb.size;first|omega|exact this)) ?_;clear hK K;obtain⟨W3,hW3⟩:∃X,X=W2.alloc (.map #[] 0):=⟨_,rfl⟩
     change xL _ _ _ _ _ (W2.alloc (.map #[] 0));rw[←hW3];have hbm:W.heap.size<=W2.heap.size:=bb.size;have bs:Below W2.heap.size W2 W3:=by rw[hW3];exact(Below.refl _ W2).alloc (Nat.le_refl _) _
     have rm:W3.heap[W2.heap.size]?=some (.map #[] 0):=by rw[hW3];exact qy W2 _
     clear hW3;have bb:=bb.trans (bs.mono bb.size);clear bs;refine qI (fun K hK=>?_);go_simp;refine hK _ _ (RN.KeepsN.alloc _ _ (by have:=bb.size;first|omega|exact this)) ?_;clear hK K;have os:qq Fd.cells 233 4 (W3.alloc (.cells #[.func (.func qM.f) #[] #[],.int .i64 qM.tb,.int .i64 qM.lo,.int .i64 qM.hi,.func (.func xz.f) #[] #[],.int .i64 xz.tb,.int .i64 xz.lo,.int .i64 xz.hi] 233)) W.heap.size (.slice (some ⟨W3.heap.size,0,none⟩) 2 2) [qM,xz]:=qq.lit (f:=Fd.cells) W3 W.heap.size bb.size [qM,xz] Fd.len (by decide);have bs:Below W3.heap.size W3 (W3.alloc (.cells #[.func (.func qM.f) #[] #[],.int .i64 qM.tb,.int .i64 qM.lo,.int .i64 qM.hi,.func (.func xz.f) #[] #[],.int .i64 xz.tb,.int .i64 xz.lo,.int .i64 xz.hi] 233)):=(Below.refl _ _).alloc (Nat.le_refl _) _;have rm:=qp rm bs (qh rm);generalize W3.alloc (.cells #[.func (.func qM.f) #[] #[],.int .i64 qM.tb,.int .i64 qM.lo,.int .i64 qM.hi,.func (.func xz.f) #[] #[],.int .i64 xz.tb,.int .i64 xz.lo,.int .i64 xz.hi] 233)=W4 at *;have bb:=bb.trans (bs.mono bb.size);clear bs;refine qI (fun K hK=>?_);go_simp;refine(e_list _ ⟨_,_,_,rfl⟩ _).mono ?_;rintro e W5 ⟨rfl,hW5⟩;have bs:Below W4.heap.size W4 W5:=by rw[hW5];exact(Below.refl _ W4).alloc (Nat.le_refl _) _
     have rl:=qy W4 (.cells #[.slice (some ⟨W3.heap.size,0,none⟩) 2 2] 297);rw[←hW5] at rl;refine hK _ _ (RN.KeepsN.of_below (bs.mono (by have:=bb.size;first|omega|exact this))) ?_;clear hK K hW5;have rm:=qp rm bs (qh rm);have os:=qq.below os bs;have bb:=bb.trans (bs.mono bb.size);clear bs;refine qN (fun K hK=>?_);refine(xp.made rm).wp_store Tryz.underlying3 Tryz.underlying229 (a:=1) (.inr rfl) (by rfl) (by rfl) (by rfl) ?_;intro X h1 t1;refine hK _ _ ?_;clear hK K;have hne:=xb t1 rl
     repeat first|(refine qC fun K hK=>?_;go_simp;refine hK _ _ ?_;clear hK K)|refine qA ?_
     exact⟨_,_,_,rfl,rfl,h1,hne.trans rl,qq.kd os (Kd.turned (T:=fun _=>False) t1) (fun h=>h),bb.trans (Below.turned t1 (by exact hbm)),by exact hbm⟩
    ·
     refine qI (fun K hK=>?_);go_simp;refine hK _ _ (RN.KeepsN.alloc _ _ (by have:=bb.size;first|omega|exact this)) ?_;clear hK K;have os:qq Fd.cells 233 4 (W2.alloc (.cells #[.func (.func qM.f) #[] #[],.int .i64 qM.tb,.int .i64 qM.lo,.int .i64 qM.hi,.func (.func xz.f) #[] #[],.int .i64 xz.tb,.int .i64 xz.lo,.int .i64 xz.hi] 233)) W.heap.size (.slice (some ⟨W2.heap.size,0,none⟩) 2 2) [qM,xz]:=qq.lit (f:=Fd.cells) W2 W.heap.size bb.size [qM,xz] Fd.len (by decide);have bs:Below W2.heap.size W2 (W2.alloc (.cells #[.func (.func qM.f) #[] #[],.int .i64 qM.tb,.int .i64 qM.lo,.int .i64 qM.hi,.func (.func xz.f) #[] #[],.int .i64 xz.tb,.int .i64 xz.lo,.int .i64 xz.hi] 233)):=(Below.refl _ _).alloc (Nat.le_refl _) _;generalize W2.alloc (.cells #[.func (.func qM.f) #[] #[],.int .i64 qM.tb,.int .i64 qM.lo,.int .i64 qM.hi,.func (.func xz.f) #[] #[],.int .i64 xz.tb,.int .i64 xz.lo,.int .i64 xz.hi] 233)=W3 at *;have bb:=bb.trans (bs.mono bb.size);clear bs
     repeat refine qA ?_
     refine⟨?_,?_⟩
     ·
      refine qI (fun K hK=>?_);go_simp;refine hK _ _ (RN.KeepsN.alloc _ _ (by have:=bb.size;first|omega|exact this)) ?_;clear hK K;obtain⟨W4,hW4⟩:∃X,X=W3.alloc (.map #[] 0):=⟨_,rfl⟩
      change xL _ _ _ _ _ (W3.alloc (.map #[] 0));rw[←hW4];have hbm:W.heap.size<=W3.heap.size:=bb.size;have bs:Below W3.heap.size W3 W4:=by rw[hW4];exact(Below.refl _ W3).alloc (Nat.le_refl _) _
      have rm:W4.heap[W3.heap.size]?=some (.map #[] 0):=by rw[hW4];exact qy W3 _
      have os:=qq.below os bs;clear hW4;have bb:=bb.trans (bs.mono bb.size);clear bs;refine qI (fun K hK=>?_);go_simp;refine(e_list _ ⟨_,_,_,rfl⟩ _).mono ?_;rintro e W5 ⟨rfl,hW5⟩;have bs:Below W4.heap.size W4 W5:=by rw[hW5];exact(Below.refl _ W4).alloc (Nat.le_refl _) _
      have rl:=qy W4 (.cells #[.slice (some ⟨W2.heap.size,0,none⟩) 2 2] 297);rw[←hW5] at rl;refine hK _ _ (RN.KeepsN.of_below (bs.mono (by have:=bb.size;first|omega|exact this))) ?_;clear hK K hW5;have rm:=qp rm bs (qh rm);have os:=qq.below os bs;have bb:=bb.trans (bs.mono bb.size);clear bs;refine qN (fun K hK=>?_);refine(xp.made rm).wp_store Tryz.underlying3 Tryz.underlying229 (a:=1) (.inr rfl) (by rfl) (by rfl) (by rfl) ?_;intro X h1 t1;refine hK _ _ ?_;clear hK K;have hne:=xb t1 rl
      repeat first|(refine qC fun K hK=>?_;go_simp;refine hK _ _ ?_;clear hK K)|refine qA ?_
      exact⟨_,_,_,rfl,rfl,h1,hne.trans rl,qq.kd os (Kd.turned (T:=fun _=>False) t1) (fun h=>h),bb.trans (Below.turned t1 (by exact hbm)),by exact hbm⟩
     ·
      refine qI (fun K hK=>?_);go_simp;refine(e_list _ ⟨_,_,_,rfl⟩ _).mono ?_;rintro e W4 ⟨rfl,hW4⟩;have bs:Below W3.heap.size W3 W4:=by rw[hW4];exact(Below.refl _ W3).alloc (Nat.le_refl _) _
      have rl:=qy W3 (.cells #[.slice (some ⟨W2.heap.size,0,none⟩) 2 2] 297);rw[←hW4] at rl;refine hK _ _ (RN.KeepsN.of_below (bs.mono (by have:=bb.size;first|omega|exact this))) ?_;clear hK K hW4;have os:=qq.below os bs;have bb:=bb.trans (bs.mono bb.size);clear bs;refine qI (fun K hK=>?_);go_simp;refine hK _ _ (RN.KeepsN.alloc _ _ (by have:=bb.size;first|omega|exact this)) ?_;clear hK K;obtain⟨W5,hW5⟩:∃X,X=W4.alloc (.map #[] 0):=⟨_,rfl⟩
      change xL _ _ _ _ _ (W4.alloc (.map #[] 0));rw[←hW5];have hbm:W.heap.size<=W4.heap.size:=bb.size;have bs:Below W4.heap.size W4 W5:=by rw[hW5];exact(Below.refl _ W4).alloc (Nat.le_refl _) _
      have rm:W5.heap[W4.heap.size]?=some (.map #[] 0):=by rw[hW5];exact qy W4 _
      have os:=qq.below os bs;have rl:=qp rl bs (qh rl);clear hW5;have bb:=bb.trans (bs.mono bb.size);clear bs;refine qN (fun K hK=>?_);refine(xp.made rm).wp_store Tryz.underlying3 Tryz.underlying229 (a:=1) (.inr rfl) (by rfl) (by rfl) (by rfl) ?_;intro X h1 t1;refine hK _ _ ?_;clear hK K;have hne:=xb t1 rl
      repeat first|(refine qC fun K hK=>?_;go_simp;refine hK _ _ ?_;clear hK K)|refine qA ?_
      exact⟨_,_,_,rfl,rfl,h1,hne.trans rl,qq.kd os (Kd.turned (T:=fun _=>False) t1) (fun h=>h),bb.trans (Below.turned t1 (by exact hbm)),by exact hbm⟩
 ·rintro e a' X ⟨bm,bl,gs,rfl,rfl,hm,hl,hs,hb,hbm⟩
  have HM:FldInv X W.heap.size bm (fun k=>k=1):=⟨_,hm,fun k hk=>⟨_,by rw[hk];exact yi,bl,_,rfl,hl,by rw[hk];exact hs⟩⟩
  have bX:=b0.trans (hb.mono b0.size);have rX:=qp r0 hb l0;have hWX:=hb.size;have bW0:=b0.size;clear hm hl hs hb y0 hmk r0;have y0:=qg rX 0;go_wp2_with fail;clear y0;have rg:=qy X (.cells #[.int .i64 4,.int .i64 5,.int .i64 6,.int .i64 7] 3);have bg:=(Below.refl X.heap.size X).alloc (Nat.le_refl _) (.cells #[.int .i64 4,.int .i64 5,.int .i64 6,.int .i64 7] 3);have rX:=qp rX bg (qh rX);have HM:=HM.below bg;have bX:=bX.trans (bg.mono bX.size);have hWX:=Nat.le_trans hWX bg.size;generalize X.alloc (.cells #[.int .i64 4,.int .i64 5,.int .i64 6,.int .i64 7] 3)=Y at *;obtain⟨g,hg⟩:∃g,g=X.heap.size:=⟨_,rfl⟩
  rw[←hg] at rg ⊢;clear hg bg
  go_loopw [14] (fun p wr=>∃i:Nat,i<=4/\p=.int .i64 i/\Below w.heap.size w wr/\W.heap.size<=wr.heap.size/\wr.heap[w.heap.size]?=some (.cells #[.func (.func 161) #[] #[]] 298 (0,0))/\wr.heap[g]?=some (.cells #[.int .i64 4,.int .i64 5,.int .i64 6,.int .i64 7] 3 (0,0))/\FldInv wr W.heap.size bm (fun k=>k=1\/4<=k/\k < 4+i)) (fun p _=>4 - (intOf p).toNat)
  case atStart=>exact⟨0,by omega,by go_num,bX,hWX,rX,rg,let ⟨M,h1,h2⟩:=HM;⟨M,h1,fun k hk=>h2 k (by simp only at hk;omega)⟩⟩
  case round=>
   obtain⟨i,hi,rfl,hB,hsz,r0,r1,hF⟩:=hrel;have lg:=qh r1;have l1:=qh r0;have HB:=qj hB;have HF:=qj hF;clear hB hF bX rX rg HM;by_cases hlt:i < 4
   ·have hk:wr.cell? ⟨g,i,none⟩=some (.int .i64 (4+i)):=by
     have c0:=qg r1 i;rcases(show i=0\/i=1\/i=2\/i=3 by omega) with rfl|rfl|rfl|rfl <;> (rw[c0];rfl)
    have y0:=qg r0 0;have R0:=qj r0;have R1:=qj r1;clear r0 r1;obtain⟨wo,rfl⟩:∃wo,wo=wr:=⟨_,rfl⟩
    go_wp2_with fail;have b0:=Below.refl wo.heap.size wo;refine qT (wo.heap.size) [0,0,1,3,3,3,2] (.fin [0,1,2,3,4,5,6]) (by kernel_rfl) ?_;simp only[yp,qP,qD,sD,sE,sF,sG]
    repeat first|(refine qC fun K hK=>?_;go_simp;refine hK _ _ ?_;clear hK K)|(apply qJ;(intro w2 hw2;have hk1:=hw2.cell;have hk3:=hw2.1;clear hw2;go_simp;with_reducible rfl);simp only[Act.put,sA,sB,sC])
    refine qI (fun K hK=>?_);go_simp;refine(e_tx _).mono ?_;rintro e W1 ⟨rfl,b1⟩;refine hK _ _ (RN.KeepsN.of_below b1) ?_;clear hK K;have b1:Below wo.heap.size wo W1:=b0.drew.trans b1;have z1:=b1.size;refine qI (fun K hK=>?_);go_simp;refine hK _ _ (RN.KeepsN.alloc _ _ z1) ?_;clear hK K;have os:qq Fd.cells 233 4 (W1.alloc (.cells #[.func (.func qM.f) #[] #[],.int .i64 qM.tb,.int .i64 qM.lo,.int .i64 qM.hi] 233)) W.heap.size (.slice (some ⟨W1.heap.size,0,none⟩) 1 1) [qM]:=qq.lit (f:=Fd.cells) W1 W.heap.size (by omega) [qM] Fd.len (by decide);have b2:=(Below.refl W1.heap.size W1).alloc (Nat.le_refl _) (.cells #[.func (.func qM.f) #[] #[],.int .i64 qM.tb,.int .i64 qM.lo,.int .i64 qM.hi] 233);generalize W1.alloc (.cells #[.func (.func qM.f) #[] #[],.int .i64 qM.tb,.int .i64 qM.lo,.int .i64 qM.hi] 233)=W2 at *;have z2:=b2.size;refine qI (fun K hK=>?_);go_simp;refine(e_list _ ⟨_,_,_,rfl⟩ _).mono ?_;rintro e W3 ⟨rfl,hW3⟩;have b3:Below W2.heap.size W2 W3:=by rw[hW3];exact(Below.refl _ W2).alloc (Nat.le_refl _) _
    have rl:=qy W2 (.cells #[.slice (some ⟨W1.heap.size,0,none⟩) 1 1] 297);rw[←hW3] at rl;refine hK _ _ (RN.KeepsN.of_below (b3.mono (by omega))) ?_;clear hK K hW3;have os:=qq.below os b3;have b4:=(b1.trans (b2.mono z1)).trans (b3.mono (by omega));have hF:=HF.o.below b4;clear b1 b2 b3;obtain⟨M,hM,hv⟩:=hF;have z4:=b4.size;refine qN (fun K hK=>?_);refine hM.wp_store Tryz.underlying3 Tryz.underlying229 (a:=4+i) (.inl rfl) (by rfl) (by rfl) (by rfl) ?_;intro X1 h1 t1;refine hK _ _ ?_;clear hK K;have n0:=xb t1 (qp R0.o b4 l1);have n1:=xb t1 (qp R1.o b4 lg);have n2:=xb t1 rl;have zt:=turned_size t1;have F1:FldInv X1 W.heap.size bm (fun k=>k=1\/4<=k/\k < 4+((i+1:Nat):Int)):=by
     refine⟨_,h1,fun k hk=>?_⟩;by_cases e:k=4+(i:Int)
     ·subst e
      exact⟨_,yi,_,_,rfl,n2.trans rl,by
       have:fdsOf (4+(i:Int))=[qM]:=by unfold fdsOf;rw[if_neg (by omega)]
       rw[this];exact qq.kd os (Kd.turned (T:=fun _=>False) t1) fun h=>h⟩
     ·obtain ⟨v,h3,h4⟩:=hv k (by have hk:k=1\/4<=k/\k < 4+((i+1:Nat):Int):=hk;show k=1\/4<=k/\k < 4+(i:Int);omega)
      exact⟨v,by rw[xI e];exact h3,h4.turned t1⟩
    have B1:=qj ((HB.o.trans (b4.mono HB.o.size)).trans (Below.turned t1 (by have:=b0.size;have:=hbm;have:=bW0;omega)));have RR0:=qj (n0.trans (qp R0.o b4 l1));have RR1:=qj (n1.trans (qp R1.o b4 lg));have FF:=qj F1;have zz:W.heap.size<=X1.heap.size:=by omega
    clear n0 n1 n2 zt F1 h1 t1 hM hv os rl b4
    repeat refine qA ?_
    go_wp2;go_roundw
    case rel=>exact⟨i+1,by omega,by go_num,B1.o,zz,RR0.o,RR1.o,FF.o⟩
    case measure=>simp[intOf];omega
   ·obtain rfl:i=4:=by omega
    obtain⟨M,hM,hv⟩:=HF.o;have R0:=qj r0;have HV:=qj hv;clear r0 r1 HF hv;go_wp2_with (at_mapUpdate;refine xt.halt ?_)
    refine xt.go ?_;refine hM.wpList_store Tryz.underlying3 Tryz.underlying229 rfl (.inl rfl) (by rfl) (by rfl) (by rfl) ?_;intro X1 h1 t1;have z1:=turned_size t1;go_wp2_with (at_mapUpdate;refine xt.halt ?_)
    refine xt.go ?_;refine h1.wpList_store Tryz.underlying3 Tryz.underlying229 rfl (.inl rfl) (by rfl) (by rfl) (by rfl) ?_;intro X2 h2 t2;have HH:=qj h2;have T1:=qj t1;have T2:=qj t2;clear h1 t1 t2 h2 z1 hM;go_wp2;go_ret;have r1:=(xb T1.o R0.o).trans R0.o;have r2:=(xb T2.o r1).trans r1;refine⟨bm,rfl,⟨_,w.heap.size,HH.o,fun k hk=>?_,?_,?_,r2,by omega⟩,?_⟩
    ·obtain ⟨v,h3,h4⟩:=HV.o k (by show k=1\/4<=k/\k < 4+((4:Nat):Int);omega)
     refine⟨v,?_,?_⟩
     ·rw [xI (by omega),xI (by omega)];exact h3
     ·obtain ⟨bl,sv,h5,h6,h7⟩:=h4
      exact ClAt.turned (ClAt.turned ⟨bl,sv,h5,h6,qq.base h7 bW0⟩ T1.o) T2.o
    ·rw [xI (by decide)];exact yi
    ·exact yi
    ·exact (HB.o.trans (Below.turned T1.o (by omega))).trans (Below.turned T2.o (by omega))
end
def VB (k:Nat):Int:=1000000+1000*k
def inB (k:Nat) (v:Int):Prop:=-VB k<=v/\v<=VB k
theorem inB.more {k k':Nat} {v:Int} (h:inB k v) (hk:k<=k'):inB k' v:=by unfold inB VB at *;omega
theorem xS {α:Type} {l:List α} {i:Nat} {x:α} (h:l[i]?=some x):l.set i x=l:=by
 apply List.ext_getElem?;intro j;by_cases e:i=j
 ·subst e;rw[List.getElem?_set_self (List.getElem?_eq_some_iff.1 h).1,h]
 ·rw [List.getElem?_set_ne e]
theorem xd {α:Type} {l:List α} {i j:Nat} {x y:α} (h:(l.set i x)[j]?=some y):(i=j/\y=x)\/(i≠j/\l[j]?=some y):=by
 by_cases e:i=j
 ·subst e
  have hl:i < l.length:=by have:=(List.getElem?_eq_some_iff.1 h).1;simpa using this
  rw[List.getElem?_set_self hl] at h;exact .inl ⟨rfl,(Option.some.inj h).symm⟩
 ·rw [List.getElem?_set_ne e] at h
  exact .inr ⟨e,h⟩
def isWr (t:Th) (a:Ac):Prop:=a.kind=2\/a.kind=3/\t.adding=true
def isRd (t:Th) (a:Ac):Prop:=a.kind=1\/a.kind=3/\t.adding=false
def wrVal (t:Th) (a:Ac):Int:=if a.kind=2 then a.val else a.val+t.read
def rdTh (t:Th) (a:Ac) (v:Int):Th:=if a.kind=3 then {t with waits:=0,adding:=true,read:=v} else {t with waits:=0,act:=t.act+1}
def wrTh (t:Th):Th:={t with waits:=0,adding:=false,act:=t.act+1}
def xw (t:Th):Th:={Th.zero with tx:=t.tx+1}
section
variable {P:Pg}
theorem wDone_th {S:yk} {i:Nat} {t:Th} (ht:S.ths[i]?=some t):ye P S i=qR P i t:=by
 unfold ye;rw[if_neg (by omega)];simp only[Int.toNat_natCast,ht]
theorem ThOk.begun {i:Nat} {t:Th} (h:ThOk P i t) (hw:t.waits≠0):t.begun=true:=by
 rcases h.waits with h|⟨h,-⟩
 ·exact absurd h hw
 ·exact h
theorem acts_le (h:PgOk P) {i:Nat} (hi:i < P.threads.length) (k:Nat):(P.acts i k).length<=6:=by
 unfold Pg.acts Pg.txs;obtain⟨x,hx⟩:∃x,P.threads[i]?=some x:=⟨_,List.getElem?_eq_getElem hi⟩
 simp only[List.getD_eq_getElem?_getD,hx,Option.getD_some];cases hl:x[k]? with
 |none=>simp
 |some l=>exact(h.acts x (List.mem_of_getElem? hx) l (List.mem_of_getElem? hl)).2
theorem bput {S:yk} {i:Nat} {t':Th} {e:Ev} (hB:∀(i:Nat) (t:Th),S.ths[i]?=some t->t.begun=true->t.tx < (P.txs i).length) (h1:t'.begun=true->t'.tx < (P.txs i).length):∀(j:Nat) (u:Th),(S.put i (t',e)).ths[j]?=some u->u.begun=true->u.tx < (P.txs j).length:=by
 intro j u hu hb;rcases xd (l:=S.ths) (i:=i) (x:=t') (by simpa[yk.put] using hu) with⟨rfl,rfl⟩|⟨hne,hu⟩
 ·exact h1 hb
 ·exact hB j u hu hb
end
structure Dd where
 obj:Int
 op:Int
 key:Int
 val:Int
 ret:Int
 got:Int
 at_:Int
 back:Int
def Dd.cells (d:Dd):List Value:=[.int .i64 d.obj,.int .i64 d.op,.int .i64 d.key,.int .i64 d.val,.int .i64 d.ret,.int .i64 d.got,.int .i64 d.at_,.int .i64 d.back]
theorem Dd.len (d:Dd):d.cells.length=8:=rfl
structure St where
 id:Int
 thread:Int
 status:Int
 beg:Int
 fin:Int
 tri:Int
 deeds:List Dd
 stand:Int
def newDd (e:Ev) (n:Nat):Dd:=⟨e.obj,e.op,e.key,e.val,0,0,n,-1⟩
def yE (e:Ev) (n:Nat):St:=⟨e.tx,e.thread,1,n,-1,-1,[],1⟩
def fitsR (op ret:Int):Prop:=op=2/\ret=1\/op=1/\ret=3
instance (op ret:Int):Decidable (fitsR op ret):=by unfold fitsR;infer_instance
def xJ (n:Nat) (e:Ev) (s:St):Option St:=
 if e.kind=2 then(if s.stand=1 then some {s with stand:=2,deeds:=s.deeds++[newDd e n]} else none)
 else if e.kind=3 then(if s.stand=2 then match s.deeds.getLast? with
  |some d=>if fitsR d.op e.ret then some {s with stand:=1,deeds:=s.deeds.dropLast++[{d with ret:=e.ret,got:=e.val,back:=n}]} else none
  |none=>none
  else none)
 else if e.kind=4 then(if s.stand=1 then some {s with stand:=3,tri:=n,status:=2} else none)
 else if e.kind=5 then(if s.stand=3 then some {s with stand:=5,fin:=n,status:=3} else none)
 else if e.kind=6 then(if s.stand=1\/s.stand=2\/s.stand=3\/s.stand=4 then some {s with stand:=5,fin:=n,status:=4} else none)
 else if e.kind=7 then(if s.stand=1 then some {s with stand:=4} else none)
 else none
abbrev Au:=List St
def hasId (x:Int) (A:Au):Prop:=∃s ∈ A,s.id=x
def isBusy (x:Int) (A:Au):Prop:=∃s ∈ A,s.thread=x/\s.stand≠5
inductive Feed (A:Au) (n:Nat) (e:Ev):Au->Prop
 |begin (hk:e.kind=1) (hi:¬hasId e.tx A) (hb:¬isBusy e.thread A):Feed A n e (A++[yE e n])
 |move (k:Nat) (s s':St) (hk:e.kind≠1) (hs:A[k]?=some s) (hi:s.id=e.tx) (hm:xJ n e s=some s'):Feed A n e (A.set k s')
inductive Fed:List Ev->Au->Prop
 |nil:Fed [] []
 |snoc {l:List Ev} {A A':Au} {e:Ev} (h:Fed l A) (hf:Feed A l.length e A'):Fed (l++[e]) A'
structure EvOk (m:Nat) (e:Ev):Prop where
 tx:1<=e.tx/\e.tx<=1000
 form:(∃i:Int,0<=i/\i<=7/\e=⟨1,e.tx,i,0,0,0,0,0⟩)\/(∃c:Nat,c < m/\c<=7/\e=⟨2,e.tx,0,c,1,0,0,0⟩)\/(∃(c:Nat) (v:Int),c < m/\c<=7/\-1000000000<=v/\v<=1000000000/\e=⟨2,e.tx,0,c,2,0,v,0⟩)\/
  e=⟨3,e.tx,0,0,0,0,0,1⟩\/(∃v:Int,-1000000000<=v/\v<=1000000000/\e=⟨3,e.tx,0,0,0,0,v,3⟩)\/(∃k:Int,(k=4\/k=5\/k=6\/k=7)/\e=⟨k,e.tx,0,0,0,0,0,0⟩)
def xg (t:Th):Int:=if t.waits=0 then 1 else if t.waits=2 then 2 else if t.waits=4 then 3 else 4
def hTh (t:Th):Nat:=27*t.tx+(if t.begun then 1 else 0)+4*t.act+(if t.adding then 2 else 0)+(if t.waits=0 then 0 else 1)
def sumTh (l:List Th):Nat:=(l.map hTh).sum
def PendOk (t:Th) (a:Ac) (d:Dd):Prop:=(isWr t a->d.op=2/\d.val=wrVal t a)/\(isRd t a->d.op=1)/\d.obj=a.cell
structure JInv (P:Pg) (S:yk) (A:Au):Prop where
 fed:Fed S.evs A
 evs:∀e ∈ S.evs,EvOk P.cells.length e
 cnt:S.evs.length<=sumTh S.ths
 old:∀(i:Nat) (t:Th),S.ths[i]?=some t->∀k,k < t.tx->∃s ∈ A,s.id=qG i k
 cur:∀(i:Nat) (t:Th),S.ths[i]?=some t->t.begun=true->∃(j:Nat) (s:St),A[j]?=some s/\s.id=qG i t.tx/\s.thread=i/\s.stand=xg t
 all:∀s ∈ A,∃(i:Nat) (t:Th) (k:Nat),S.ths[i]?=some t/\s.id=qG i k/\s.thread=i/\(k < t.tx/\s.stand=5/\0<=s.fin\/k=t.tx/\t.begun=true/\s.stand=xg t)
 ids:(A.map (·.id)).Nodup
 wt:∀(i:Nat) (t:Th),S.ths[i]?=some t->(t.waits=0\/t.begun=true/\(t.waits=2\/t.waits=4\/t.waits=7))/\(t.begun=false->t.act=0/\t.adding=false)/\(t.adding=true->∃a,(P.acts i t.tx)[t.act]?=some a/\a.kind=3)
 bt:∀(i:Nat) (t:Th),S.ths[i]?=some t->t.tx<=3/\(t.begun=true->t.tx < 3)
 dd:∀s ∈ A,s.stand=2->∃d,s.deeds.getLast?=some d
 pend:∀(i:Nat) (t:Th) (s:St) (d:Dd) (a:Ac),S.ths[i]?=some t->s ∈ A->s.id=qG i t.tx->t.waits=2->(P.acts i t.tx)[t.act]?=some a->s.deeds.getLast?=some d->PendOk t a d
inductive Wk1 (P:Pg) (S:yk) (i:Nat) (t:Th):yk->Prop
 |same:Wk1 P S i t S
 |begin (hw:t.waits=0) (hb:t.begun=false):Wk1 P S i t (S.put i ({t with begun:=true},qE {xG 1 with thread:=i} (qG i t.tx)))
 |call (a:Ac) (hw:t.waits=0) (hb:t.begun=true) (ha:(P.acts i t.tx)[t.act]?=some a) (hk:a.kind≠4):Wk1 P S i t (S.put i ({t with waits:=2},qE (qY t a) (qG i t.tx)))
 |cancel (a:Ac) (hw:t.waits=0) (hb:t.begun=true) (ha:(P.acts i t.tx)[t.act]?=some a) (hk:a.kind=4):Wk1 P S i t (S.put i ({t with waits:=7},qE (xG 7) (qG i t.tx)))
 |try_ (hw:t.waits=0) (hb:t.begun=true) (ha:(P.acts i t.tx)[t.act]?=none):Wk1 P S i t (S.put i ({t with waits:=4},qE (xG 4) (qG i t.tx)))
 |wrote (a:Ac) (hw:t.waits=2) (hb:t.begun=true) (ha:(P.acts i t.tx)[t.act]?=some a) (hk:isWr t a):Wk1 P S i t (S.put i (wrTh t,qE {xG 3 with ret:=1} (qG i t.tx)))
 |read (a:Ac) (v:Int) (hw:t.waits=2) (hb:t.begun=true) (ha:(P.acts i t.tx)[t.act]?=some a) (hk:isRd t a) (hv:-1000000000<=v/\v<=1000000000):Wk1 P S i t (S.put i (rdTh t a v,qE {xG 3 with ret:=3,val:=v} (qG i t.tx)))
 |abort (hw:t.waits=2\/t.waits=4\/t.waits=7) (hb:t.begun=true):Wk1 P S i t (S.put i (xw t,qE (xG 6) (qG i t.tx)))
 |commit (hw:t.waits=4) (hb:t.begun=true):Wk1 P S i t (S.put i (xw t,qE (xG 5) (qG i t.tx)))
section
variable {P:Pg} {S S':yk} {A:Au}
theorem idOf_inj {i j k l:Nat} (hk:k < 3) (hl:l < 3) (h:qG i k=qG j l):i=j/\k=l:=by unfold qG at h;omega
theorem sum_set:∀(l:List Th) (i:Nat) (t t':Th),l[i]?=some t->sumTh (l.set i t')+hTh t=sumTh l+hTh t'
 |[],i,t,t',h=>by simp at h
 |y::l,0,t,t',h=>by
  simp only[List.getElem?_cons_zero,Option.some.injEq] at h;subst h;simp[sumTh];omega
 |y::l,i+1,t,t',h=>by
  have:=sum_set l i t t' (by simpa using h);simp only[sumTh,List.set_cons_succ,List.map_cons,List.sum_cons] at this ⊢;omega
theorem ids_unique (h:(A.map (·.id)).Nodup) {s s':St} (hs:s ∈ A) (hs':s' ∈ A) (he:s.id=s'.id):s=s':=by
 obtain⟨j,hj⟩:=List.mem_iff_getElem?.1 hs;obtain⟨k,hk⟩:=List.mem_iff_getElem?.1 hs';have hl:j < (A.map (·.id)).length:=by have:=(List.getElem?_eq_some_iff.1 hj).1;simpa using this
 have:=(List.getElem?_inj hl h (j:=k)).1 (by simp[hj,hk,he]);subst this;rw[hj] at hk;exact Option.some.inj hk
theorem mem_set {A:Au} {k:Nat} {s s' x:St} (hs:A[k]?=some s) (h:x ∈ A.set k s') (hn:(A.map (·.id)).Nodup):x=s'\/(x ∈ A/\x.id≠s.id):=by
 obtain⟨j,hj⟩:=List.mem_iff_getElem?.1 h;rcases xd hj with⟨rfl,rfl⟩|⟨hne,hj⟩
 ·exact .inl rfl
 ·refine .inr ⟨List.mem_of_getElem? hj,fun he=>hne ?_⟩
  have hl:j < (A.map (·.id)).length:=by have:=(List.getElem?_eq_some_iff.1 hj).1;simpa using this
  exact((List.getElem?_inj hl hn (j:=k)).1 (by simp[hj,hs,he])).symm
theorem set_mem {A:Au} {k:Nat} {s s' x:St} (hs:A[k]?=some s) (h:x ∈ A) (hne:x.id≠s.id):x ∈ A.set k s':=by
 obtain⟨j,hj⟩:=List.mem_iff_getElem?.1 h;refine List.mem_iff_getElem?.2 ⟨j,?_⟩;rw[List.getElem?_set_ne (by
  rintro rfl;rw[hs] at hj;exact hne (by rw[Option.some.inj hj]))]
 exact hj
theorem zg {A:Au} {k:Nat} {s s':St} (hs:A[k]?=some s):s' ∈ A.set k s':=List.mem_iff_getElem?.2 ⟨k,List.getElem?_set_self (List.getElem?_eq_some_iff.1 hs).1⟩
theorem ids_set {A:Au} {k:Nat} {s s':St} (hs:A[k]?=some s) (he:s'.id=s.id):(A.set k s').map (·.id)=A.map (·.id):=by
 apply List.ext_getElem?;intro j;rw[List.getElem?_map,List.getElem?_map];by_cases e:k=j
 ·subst e
  rw[List.getElem?_set_self (List.getElem?_eq_some_iff.1 hs).1,hs];simp[he]
 ·rw [List.getElem?_set_ne e]
theorem JInv.moved (h:JInv P S A) {i:Nat} {t t':Th} {e:Ev} (ht:S.ths[i]?=some t) (hb:t.begun=true)
  (he1:e.tx=qG i t.tx) (hk:e.kind≠1) (hok:EvOk P.cells.length e) (hc:hTh t+1<=hTh t')
  (hwt:(t'.waits=0\/t'.begun=true/\(t'.waits=2\/t'.waits=4\/t'.waits=7))/\(t'.begun=false->t'.act=0/\t'.adding=false)/\(t'.adding=true->∃a,(P.acts i t'.tx)[t'.act]?=some a/\a.kind=3))
  (hm:∀s:St,s.id=qG i t.tx->s.stand=xg t->(s.stand=2->∃d,s.deeds.getLast?=some d/\∀a,(P.acts i t.tx)[t.act]?=some a->PendOk t a d)->∃s',xJ S.evs.length e s=some s'/\s'.id=s.id/\s'.thread=s.thread/\(s'.stand=2->∃d,s'.deeds.getLast?=some d)/\
   (t'.tx=t.tx/\t'.begun=true/\s'.stand=xg t'/\(t'.waits=2->∀d a,(P.acts i t'.tx)[t'.act]?=some a->s'.deeds.getLast?=some d->PendOk t' a d)\/t'.tx=t.tx+1/\t'.begun=false/\s'.stand=5/\0<=s'.fin)):
  ∃(k:Nat) (s s':St),A[k]?=some s/\s.id=qG i t.tx/\s.thread=i/\s.stand=xg t/\xJ S.evs.length e s=some s'/\Feed A S.evs.length e (A.set k s')/\JInv P (S.put i (t',e)) (A.set k s'):=by
 obtain⟨k,s,hs,qj,hth,hst⟩:=h.cur i t ht hb;have hsA:=List.mem_of_getElem? hs;have htx3:=(h.bt i t ht).2 hb;have hst2:s.stand=2->t.waits=2:=fun e2=>by
  rw[hst] at e2;unfold xg at e2;by_cases e0:t.waits=0
  ·rw [if_pos e0] at e2;omega
  ·rw [if_neg e0] at e2
   by_cases e3:t.waits=2
   ·exact e3
   ·rw [if_neg e3] at e2
    split at e2 <;> omega
 obtain⟨s',hmv,hid',hth',hdd,hcase⟩:=hm s qj hst fun h2=>by
  obtain⟨d,hd⟩:=h.dd s hsA h2;exact⟨d,hd,fun a ha=>h.pend i t s d a ht hsA qj (hst2 h2) ha hd⟩
 have hf:Feed A S.evs.length e (A.set k s'):=.move k s s' hk hs (by rw[he1,qj]) hmv;have hil:=(List.getElem?_eq_some_iff.1 ht).1;have ne_of:∀x ∈ A,x.id≠s.id->∀(j:Nat) (u:Th) (l:Nat),S.ths[j]?=some u->x.id=qG j l->(l < u.tx\/l=u.tx)->j=i->l≠t.tx:=fun x hx hne j u l hu hxl hl hji hlt=>hne (by rw[hxl,qj,hji,hlt]);refine⟨k,s,s',hs,qj,hth,hst,hmv,hf,⟨?_,?_,?_,?_,?_,?_,?_,?_,?_,?_,?_⟩⟩
 ·exact .snoc h.fed hf
 ·intro e' he'
  simp only[yk.put,List.mem_append,List.mem_singleton] at he';rcases he' with he'|rfl
  ·exact h.evs e' he'
  ·exact hok
 ·have h1:=sum_set S.ths i t t' ht
  have h2:=h.cnt;simp only[yk.put,List.length_append,List.length_cons,List.length_nil];omega
 ·intro j u hu l hl
  have keep:∀x ∈ A,∃y ∈ A.set k s',y.id=x.id:=fun x hx=>by
   by_cases hxs:x.id=s.id
   ·exact ⟨s',zg hs,by rw[hid',hxs]⟩
   ·exact ⟨x,set_mem hs hx hxs,rfl⟩
  rcases xd (l:=S.ths) (i:=i) (x:=t') (by simpa[yk.put] using hu) with⟨rfl,rfl⟩|⟨hne,hu⟩
  ·by_cases hlt:l < t.tx
   ·obtain ⟨x,hx,hxi⟩:=h.old i t ht l hlt
    obtain⟨y,hy,hyi⟩:=keep x hx;exact⟨y,hy,by rw[hyi,hxi]⟩
   ·have:l=t.tx:=by
     rcases hcase with⟨h1,-⟩|⟨h1,-⟩ <;> omega
    subst this;exact⟨s',zg hs,by rw[hid',qj]⟩
  ·obtain ⟨x,hx,hxi⟩:=h.old j u hu l hl
   obtain⟨y,hy,hyi⟩:=keep x hx;exact⟨y,hy,by rw[hyi,hxi]⟩
 ·intro j u hu hub
  rcases xd (l:=S.ths) (i:=i) (x:=t') (by simpa[yk.put] using hu) with⟨rfl,rfl⟩|⟨hne,hu⟩
  ·rcases hcase with⟨h1,h2,h4,-⟩|⟨h1,h2,-⟩
   ·exact ⟨k,s',List.getElem?_set_self (List.getElem?_eq_some_iff.1 hs).1,by rw[hid',qj,h1],by rw[hth',hth],h4⟩
   ·rw [h2] at hub;cases hub
  ·obtain ⟨l,x,hx,hxi,hxt,hxs⟩:=h.cur j u hu hub
   have hkl:k≠l:=by
    rintro rfl;rw[hs] at hx;obtain rfl:=Option.some.inj hx;rw[hth] at hxt;exact hne (by omega)
   exact⟨l,x,by rw[List.getElem?_set_ne hkl];exact hx,hxi,hxt,hxs⟩
 ·intro x hx
  rcases mem_set hs hx h.ids with rfl|⟨hx,hxn⟩
  ·refine ⟨i,t',t.tx,by simp[yk.put,hil],by rw[hid',qj],by rw[hth',hth],?_⟩
   rcases hcase with⟨h1,h2,h4,-⟩|⟨h1,h2,h4,h5⟩
   ·exact .inr ⟨h1.symm,h2,h4⟩
   ·exact .inl ⟨by omega,h4,h5⟩
  ·obtain ⟨j,u,l,hu,hxl,hxt,hc'⟩:=h.all x hx
   by_cases hji:i=j
   ·subst hji
    rw[ht] at hu;obtain rfl:=Option.some.inj hu;have hlt:l≠t.tx:=fun e=>hxn (by rw[hxl,qj,e]);refine⟨i,t',l,by simp[yk.put,hil],hxl,hxt,.inl ?_⟩;rcases hc' with⟨h1,h2,h4⟩|⟨h1,-⟩
    ·refine ⟨?_,h2,h4⟩
     rcases hcase with⟨h5,-⟩|⟨h5,-⟩ <;> omega
    ·exact absurd h1 hlt
   ·exact ⟨j,u,l,by simp[yk.put,List.getElem?_set_ne hji,hu],hxl,hxt,hc'⟩
 ·rw [ids_set hs hid'];exact h.ids
 ·intro j u hu
  rcases xd (l:=S.ths) (i:=i) (x:=t') (by simpa[yk.put] using hu) with⟨rfl,rfl⟩|⟨hne,hu⟩
  ·exact hwt
  ·exact h.wt j u hu
 ·intro j u hu
  rcases xd (l:=S.ths) (i:=i) (x:=t') (by simpa[yk.put] using hu) with⟨rfl,rfl⟩|⟨hne,hu⟩
  ·rcases hcase with⟨h1,h2,-⟩|⟨h1,h2,-⟩
   ·exact ⟨by omega,fun _=>by omega⟩
   ·exact ⟨by omega,fun h=>by rw[h2] at h;cases h⟩
  ·exact h.bt j u hu
 ·intro x hx
  rcases mem_set hs hx h.ids with rfl|⟨hx,hxn⟩
  ·exact hdd
  ·exact h.dd x hx
 ·intro j u x d a hu hx hxi huw ha hd
  rcases xd (l:=S.ths) (i:=i) (x:=t') (by simpa[yk.put] using hu) with⟨rfl,rfl⟩|⟨hne,hu⟩
  ·rcases hcase with⟨h1,h2,h4,h5⟩|⟨h1,h2,h4,-⟩
   ·rcases mem_set hs hx h.ids with rfl|⟨hx,hxn⟩
    ·exact h5 huw d a ha hd
    ·exact absurd (by rw[hxi,qj,h1]) hxn
   ·exfalso
    rcases hwt.1 with h6|⟨h6,-⟩
    ·omega
    ·rw [h2] at h6;cases h6
  ·rcases mem_set hs hx h.ids with rfl|⟨hx,hxn⟩
   ·exfalso
    have hub:u.begun=true:=by
     rcases(h.wt j u hu).1 with h6|⟨h6,-⟩
     ·omega
     ·exact h6
    have h7:=hid'.symm.trans hxi;rw[qj] at h7;obtain⟨l,y,hy,hyi,hyt,-⟩:=h.cur j u hu hub;have:=ids_unique h.ids hsA (List.mem_of_getElem? hy) (by rw[qj,h7,hyi]);subst this;rw[hth] at hyt;exact hne (by omega)
   ·exact h.pend j u x d a hu hx hxi huw ha hd
theorem JInv.begun (h:JInv P S A) {i:Nat} {t:Th} (ht:S.ths[i]?=some t) (hb:t.begun=false) (h3:t.tx < 3) (hi:i<=7) (hw:t.waits=0):
  Feed A S.evs.length (qE {xG 1 with thread:=i} (qG i t.tx)) (A++[yE (qE {xG 1 with thread:=i} (qG i t.tx)) S.evs.length])/\JInv P (S.put i ({t with begun:=true},qE {xG 1 with thread:=i} (qG i t.tx))) (A++[yE (qE {xG 1 with thread:=i} (qG i t.tx)) S.evs.length]):=by
 have hil:=(List.getElem?_eq_some_iff.1 ht).1;have hact:=(h.wt i t ht).2.1 hb;have lt3:∀(j:Nat) (u:Th) (l:Nat),S.ths[j]?=some u->(l < u.tx\/l=u.tx/\u.begun=true)->l < 3:=fun j u l hu hl=>by
  have:=h.bt j u hu;rcases hl with h1|⟨h1,h2⟩
  ·omega
  ·have:=this.2 h2;omega
 have hno:¬hasId (qG i t.tx) A:=by
  rintro⟨s,hs,he⟩;obtain⟨j,u,l,hu,hl,-,hc⟩:=h.all s hs;have hl3:=lt3 j u l hu (hc.imp (fun h=>h.1) fun h=>⟨h.1,h.2.1⟩);obtain⟨rfl,rfl⟩:=idOf_inj h3 hl3 (he.symm.trans hl);rw[ht] at hu;obtain rfl:=Option.some.inj hu;rcases hc with⟨h1,-⟩|⟨-,h2,-⟩
  ·omega
  ·rw [hb] at h2;cases h2
 have hnb:¬isBusy (i:Int) A:=by
  rintro⟨s,hs,hth,hst⟩;obtain⟨j,u,l,hu,-,hxt,hc⟩:=h.all s hs;have:i=j:=by rw[hth] at hxt;omega
  subst this;rw[ht] at hu;obtain rfl:=Option.some.inj hu;rcases hc with⟨-,h1,-⟩|⟨-,h2,-⟩
  ·exact hst h1
  ·rw [hb] at h2;cases h2
 have hf:Feed A S.evs.length (qE {xG 1 with thread:=i} (qG i t.tx)) (A++[yE (qE {xG 1 with thread:=i} (qG i t.tx)) S.evs.length]):=.begin rfl hno hnb;have hnm:yE (qE {xG 1 with thread:=i} (qG i t.tx)) S.evs.length ∈ A++[yE (qE {xG 1 with thread:=i} (qG i t.tx)) S.evs.length]:=by simp
 refine⟨hf,⟨?_,?_,?_,?_,?_,?_,?_,?_,?_,?_,?_⟩⟩
 ·exact .snoc h.fed hf
 ·intro e' he'
  simp only[yk.put,List.mem_append,List.mem_singleton] at he';rcases he' with he'|rfl
  ·exact h.evs e' he'
  ·refine ⟨?_,.inl ⟨i,by omega,by omega,rfl⟩⟩
   show 1<=qG i t.tx/\qG i t.tx<=1000;unfold qG;omega
 ·have h1:=sum_set S.ths i t {t with begun:=true} ht
  have h2:=h.cnt;simp only[yk.put,List.length_append,List.length_cons,List.length_nil];simp only[hTh,hb] at h1;simp at h1;omega
 ·intro j u hu l hl
  rcases xd (l:=S.ths) (i:=i) (x:={t with begun:=true}) (by simpa[yk.put] using hu) with⟨rfl,rfl⟩|⟨hne,hu⟩
  ·obtain ⟨x,hx,hxi⟩:=h.old i t ht l hl
   exact⟨x,by simp[hx],hxi⟩
  ·obtain ⟨x,hx,hxi⟩:=h.old j u hu l hl
   exact⟨x,by simp[hx],hxi⟩
 ·intro j u hu hub
  rcases xd (l:=S.ths) (i:=i) (x:={t with begun:=true}) (by simpa[yk.put] using hu) with⟨rfl,rfl⟩|⟨hne,hu⟩
  ·exact ⟨A.length,_,by simp;rfl,rfl,rfl,by simp[xg,hw,yE]⟩
  ·obtain ⟨l,x,hx,r⟩:=h.cur j u hu hub
   exact⟨l,x,by rw[List.getElem?_append_left (List.getElem?_eq_some_iff.1 hx).1];exact hx,r⟩
 ·intro x hx
  simp only[List.mem_append,List.mem_singleton] at hx;rcases hx with hx|rfl
  ·obtain ⟨j,u,l,hu,hxl,hxt,hc'⟩:=h.all x hx
   by_cases hji:i=j
   ·subst hji
    rw[ht] at hu;obtain rfl:=Option.some.inj hu;refine⟨i,{t with begun:=true},l,by simp[yk.put,hil],hxl,hxt,?_⟩;rcases hc' with hc'|⟨-,h2,-⟩
    ·exact .inl hc'
    ·rw [hb] at h2;cases h2
   ·exact ⟨j,u,l,by simp[yk.put,List.getElem?_set_ne hji,hu],hxl,hxt,hc'⟩
  ·exact ⟨i,{t with begun:=true},t.tx,by simp[yk.put,hil],rfl,rfl,.inr ⟨rfl,rfl,by simp[xg,hw,yE]⟩⟩
 ·rw [List.map_append]
  refine List.nodup_append.2 ⟨h.ids,by simp,?_⟩;intro a ha b hb2;simp only[List.map_cons,List.map_nil,List.mem_singleton] at hb2;subst hb2;obtain⟨x,hx,rfl⟩:=List.mem_map.1 ha;exact fun e=>hno ⟨x,hx,e⟩
 ·intro j u hu
  rcases xd (l:=S.ths) (i:=i) (x:={t with begun:=true}) (by simpa[yk.put] using hu) with⟨rfl,rfl⟩|⟨hne,hu⟩
  ·exact ⟨.inl hw,(fun h=>by cases h),fun h=>by have h:t.adding=true:=h;rw[hact.2] at h;cases h⟩
  ·exact h.wt j u hu
 ·intro j u hu
  rcases xd (l:=S.ths) (i:=i) (x:={t with begun:=true}) (by simpa[yk.put] using hu) with⟨rfl,rfl⟩|⟨hne,hu⟩
  ·exact ⟨by show t.tx<=3;omega,fun _=>h3⟩
  ·exact h.bt j u hu
 ·intro x hx h2
  simp only[List.mem_append,List.mem_singleton] at hx;rcases hx with hx|rfl
  ·exact h.dd x hx h2
  ·simp [yE] at h2
 ·intro j u x d a hu hx hxi huw ha hd
  simp only[List.mem_append,List.mem_singleton] at hx;rcases xd (l:=S.ths) (i:=i) (x:={t with begun:=true}) (by simpa[yk.put] using hu) with⟨rfl,rfl⟩|⟨hne,hu⟩
  ·rw [hw] at huw;cases huw
  ·rcases hx with hx|rfl
   ·exact h.pend j u x d a hu hx hxi huw ha hd
   ·simp [yE] at hd
def Mv (P:Pg) (S':yk) (A:Au) (i:Nat) (t:Th) (f:St->St):Prop:=∃(k:Nat) (s:St),A[k]?=some s/\s.id=qG i t.tx/\s.thread=i/\s.stand=xg t/\JInv P S' (A.set k (f s))
def retDd (d:Dd) (ret got:Int) (n:Nat):Dd:={d with ret:=ret,got:=got,back:=n}
def yU (ret got:Int) (n:Nat) (s:St):St:=match s.deeds.getLast? with
 |some d=>{s with stand:=1,deeds:=s.deeds.dropLast++[retDd d ret got n]}
 |none=>s
def callSt (e:Ev) (n:Nat) (s:St):St:={s with stand:=2,deeds:=s.deeds++[newDd e n]}
def tryS (n:Nat) (s:St):St:={s with stand:=3,tri:=n,status:=2}
def canS (s:St):St:={s with stand:=4}
def endS (status:Int) (n:Nat) (s:St):St:={s with stand:=5,fin:=n,status:=status}
theorem JInv.called (h:JInv P S A) {i:Nat} {t:Th} {a:Ac} (ht:S.ths[i]?=some t) (hb:t.begun=true) (hw:t.waits=0) (ha:(P.acts i t.tx)[t.act]?=some a) (hk:a.kind≠4) (hi:i<=7)
  (hc:0<=a.cell/\a.cell < P.cells.length/\a.cell<=7) (hv:isWr t a->-1000000000<=wrVal t a/\wrVal t a<=1000000000):
  Mv P (S.put i ({t with waits:=2},qE (qY t a) (qG i t.tx))) A i t (callSt (qE (qY t a) (qG i t.tx)) S.evs.length):=by
 have htx3:=(h.bt i t ht).2 hb;have qj:1<=qG i t.tx/\qG i t.tx<=1000:=by unfold qG;omega
 have hkind:(qE (qY t a) (qG i t.tx)).kind=2:=by simp only[qE];unfold qY;split <;> (first|rfl|(split <;> rfl))
 obtain⟨c,hcc⟩:∃c:Nat,a.cell=c:=⟨a.cell.toNat,by omega⟩
 have hstand:xg t=1:=by simp[xg,hw]
 have key:=h.moved (t':={t with waits:=2}) (e:=qE (qY t a) (qG i t.tx)) ht hb rfl (by rw[hkind];decide) ?_ (by simp[hTh,hw]) ⟨.inr ⟨hb,.inl rfl⟩,fun h=>by simp[hb] at h,(h.wt i t ht).2.2⟩ ?_
 ·obtain ⟨k,s,s',h1,h2,h3,h4,h5,-,h6⟩:=key
  refine⟨k,s,h1,h2,h3,h4,?_⟩;have:s'=callSt (qE (qY t a) (qG i t.tx)) S.evs.length s:=by
   unfold xJ at h5;rw[hkind,h4,hstand] at h5;simp at h5;exact h5.symm
  rw[←this];exact h6
 ·refine ⟨qj,?_⟩
  unfold qY
  split
  ·rename_i hk2
   have:=hv (.inl hk2);refine .inr (.inr (.inl ⟨c,a.val,by omega,by omega,?_,?_,by rw[hcc];rfl⟩))
   ·unfold wrVal at this;rw[if_pos hk2] at this;exact this.1
   ·unfold wrVal at this;rw[if_pos hk2] at this;exact this.2
  ·rename_i hk2
   split
   ·rename_i hk3
    have:=hv (.inr hk3);refine .inr (.inr (.inl ⟨c,a.val+t.read,by omega,by omega,?_,?_,by rw[hcc];rfl⟩))
    ·unfold wrVal at this;rw[if_neg hk2] at this;exact this.1
    ·unfold wrVal at this;rw[if_neg hk2] at this;exact this.2
   ·exact .inr (.inl ⟨c,by omega,by omega,by rw[hcc];rfl⟩)
 ·intro s hs hst hdd
  refine⟨callSt (qE (qY t a) (qG i t.tx)) S.evs.length s,?_,rfl,rfl,fun _=>⟨_,by simp[callSt];rfl⟩,.inl ⟨rfl,hb,by simp[callSt,xg],?_⟩⟩
  ·unfold xJ
   rw[hkind,hst,hstand];simp[callSt]
  ·intro _ d b hb2 hd
   have hab:b=a:=by
    have:(P.acts i t.tx)[t.act]?=some b:=hb2;rw[ha] at this;exact(Option.some.inj this).symm
   subst hab;simp only[callSt,List.getLast?_append,List.getLast?_singleton,Option.some_or,Option.some.injEq] at hd;subst hd;show PendOk t b _;have hobj:(qY t b).obj=b.cell:=by unfold qY;split <;> (first|rfl|(split <;> rfl))
   refine⟨fun h8=>?_,fun h8=>?_,hobj⟩
   ·simp only[newDd,qE]
    unfold qY wrVal;rcases h8 with h8|⟨h8,h9⟩
    ·rw [if_pos h8,if_pos h8];exact⟨rfl,rfl⟩
    ·rw [if_neg (by omega),if_pos ⟨h8,h9⟩,if_neg (by omega)];exact⟨rfl,rfl⟩
   ·simp only[newDd,qE]
    unfold qY;rw[if_neg (by rcases h8 with h8|⟨h8,-⟩ <;> omega),if_neg (by
     rintro⟨h9,h10⟩;rcases h8 with h8|⟨-,h8⟩
     ·omega
     ·rw [h10] at h8;cases h8)]
theorem JInv.tried (h:JInv P S A) {i:Nat} {t:Th} (ht:S.ths[i]?=some t) (hb:t.begun=true) (hw:t.waits=0) (hi:i<=7):
  Mv P (S.put i ({t with waits:=4},qE (xG 4) (qG i t.tx))) A i t (tryS S.evs.length):=by
 have htx3:=(h.bt i t ht).2 hb;have qj:1<=qG i t.tx/\qG i t.tx<=1000:=by unfold qG;omega
 have hstand:xg t=1:=by simp[xg,hw]
 have key:=h.moved (t':={t with waits:=4}) (e:=qE (xG 4) (qG i t.tx)) ht hb rfl (by simp[qE,xG]) ⟨qj,.inr (.inr (.inr (.inr (.inr ⟨4,.inl rfl,rfl⟩))))⟩ (by simp[hTh,hw]) ⟨.inr ⟨hb,.inr (.inl rfl)⟩,fun h=>by simp[hb] at h,(h.wt i t ht).2.2⟩ ?_
 ·obtain ⟨k,s,s',h1,h2,h3,h4,h5,-,h6⟩:=key
  refine⟨k,s,h1,h2,h3,h4,?_⟩;have:s'=tryS S.evs.length s:=by
   unfold xJ at h5;rw[h4,hstand] at h5;simp[qE,xG] at h5;exact h5.symm
  rw[←this];exact h6
 ·intro s hs hst hdd
  refine⟨tryS S.evs.length s,?_,rfl,rfl,fun h=>by simp[tryS] at h,.inl ⟨rfl,hb,by simp[tryS,xg],fun h=>by simp at h⟩⟩;unfold xJ;rw[hst,hstand];simp[qE,xG,tryS]
theorem JInv.cancelled (h:JInv P S A) {i:Nat} {t:Th} (ht:S.ths[i]?=some t) (hb:t.begun=true) (hw:t.waits=0) (hi:i<=7):
  Mv P (S.put i ({t with waits:=7},qE (xG 7) (qG i t.tx))) A i t canS:=by
 have htx3:=(h.bt i t ht).2 hb;have qj:1<=qG i t.tx/\qG i t.tx<=1000:=by unfold qG;omega
 have hstand:xg t=1:=by simp[xg,hw]
 have key:=h.moved (t':={t with waits:=7}) (e:=qE (xG 7) (qG i t.tx)) ht hb rfl (by simp[qE,xG]) ⟨qj,.inr (.inr (.inr (.inr (.inr ⟨7,.inr (.inr (.inr rfl)),rfl⟩))))⟩ (by simp[hTh,hw]) ⟨.inr ⟨hb,.inr (.inr rfl)⟩,fun h=>by simp[hb] at h,(h.wt i t ht).2.2⟩ ?_
 ·obtain ⟨k,s,s',h1,h2,h3,h4,h5,-,h6⟩:=key
  refine⟨k,s,h1,h2,h3,h4,?_⟩;have:s'=canS s:=by
   unfold xJ at h5;rw[h4,hstand] at h5;simp[qE,xG] at h5;exact h5.symm
  rw[←this];exact h6
 ·intro s hs hst hdd
  refine⟨canS s,?_,rfl,rfl,fun h=>by simp[canS] at h,.inl ⟨rfl,hb,by simp[canS,xg],fun h=>by simp at h⟩⟩;unfold xJ;rw[hst,hstand];simp[qE,xG,canS]
theorem JInv.ended (h:JInv P S A) {i:Nat} {t:Th} (ht:S.ths[i]?=some t) (hb:t.begun=true) (hi:i<=7) (ha6:(P.acts i t.tx).length<=6) (hal:t.act<=(P.acts i t.tx).length) (hkt:t.waits=2->t.act < (P.acts i t.tx).length) {kind status:Int} (hk:kind=5/\status=3/\t.waits=4\/kind=6/\status=4/\(t.waits=2\/t.waits=4\/t.waits=7)):
  Mv P (S.put i (xw t,qE (xG kind) (qG i t.tx))) A i t (endS status S.evs.length):=by
 have htx3:=(h.bt i t ht).2 hb;have qj:1<=qG i t.tx/\qG i t.tx<=1000:=by unfold qG;omega
 have hkk:kind=5\/kind=6:=by rcases hk with⟨h1,-⟩|⟨h1,-⟩ <;> simp[h1]
 have hmv:∀s:St,s.stand=xg t->xJ S.evs.length (qE (xG kind) (qG i t.tx)) s=some (endS status S.evs.length s):=fun s hst=>by
  unfold xJ;rcases hk with⟨rfl,rfl,h4⟩|⟨rfl,rfl,h4⟩
  ·simp [qE,xG,hst,xg,h4,endS]
  ·rcases h4 with h4|h4|h4 <;> simp[qE,xG,hst,xg,h4,endS]
 have key:=h.moved (t':=xw t) (e:=qE (xG kind) (qG i t.tx)) ht hb rfl (by simp only[qE,xG];omega) ⟨qj,.inr (.inr (.inr (.inr (.inr ⟨kind,by omega,rfl⟩))))⟩ ?_ ⟨.inl rfl,fun _=>⟨rfl,rfl⟩,fun h=>by cases h⟩ ?_
 ·obtain ⟨k,s,s',h1,h2,h3,h4,h5,-,h6⟩:=key
  refine⟨k,s,h1,h2,h3,h4,?_⟩;rw[hmv s h4] at h5;rw[Option.some.inj h5];exact h6
 ·unfold hTh xw
  simp only[hb,Th.zero];have:=(h.wt i t ht).1;by_cases had:t.adding=true
  ·obtain ⟨b,hb2,-⟩:=(h.wt i t ht).2.2 had
   have:=(List.getElem?_eq_some_iff.1 hb2).1;simp[had]
   split <;> omega
  ·by_cases h2:t.waits=2
   ·have:=hkt h2
    simp[had,h2];omega
   ·simp [had]
    split <;> omega
 ·intro s hs hst hdd
  exact⟨endS status S.evs.length s,hmv s hst,rfl,rfl,fun h=>by simp[endS] at h,.inr ⟨rfl,rfl,rfl,by simp[endS]⟩⟩
theorem JInv.answered (h:JInv P S A) {i:Nat} {t t':Th} {a:Ac} (ht:S.ths[i]?=some t) (hb:t.begun=true) (hw:t.waits=2) (hi:i<=7) (ha:(P.acts i t.tx)[t.act]?=some a) {ret got:Int}
  (hc:isWr t a/\ret=1/\got=0/\t'=wrTh t\/isRd t a/\ret=3/\t'=rdTh t a got) (hv:-1000000000<=got/\got<=1000000000):
  Mv P (S.put i (t',qE {xG 3 with ret:=ret,val:=got} (qG i t.tx))) A i t (yU ret got S.evs.length):=by
 have htx3:=(h.bt i t ht).2 hb;have qj:1<=qG i t.tx/\qG i t.tx<=1000:=by unfold qG;omega
 have hstand:xg t=2:=by simp[xg,hw]
 have hmv:∀s:St,s.stand=xg t->(s.stand=2->∃d,s.deeds.getLast?=some d/\∀b,(P.acts i t.tx)[t.act]?=some b->PendOk t b d)->xJ S.evs.length (qE {xG 3 with ret:=ret,val:=got} (qG i t.tx)) s=some (yU ret got S.evs.length s):=fun s hst hd=>by
  obtain⟨d,hd,hop⟩:=hd (by rw[hst,hstand]);have hop:=hop a ha;unfold xJ yU;simp only[qE,xG,hst,hstand,hd];have hf:fitsR d.op ret:=by
   rcases hc with⟨h1,h2,-⟩|⟨h1,h2,-⟩
   ·exact .inl ⟨(hop.1 h1).1,h2⟩
   ·exact .inr ⟨hop.2.1 h1,h2⟩
  simp[hf,retDd]
 have t1:t'.tx=t.tx/\t'.begun=true/\t'.waits=0/\hTh t+1<=hTh t':=by
  rcases hc with⟨h1,-,-,rfl⟩|⟨h1,-,rfl⟩
  ·refine ⟨rfl,hb,rfl,?_⟩
   simp[hTh,wrTh,hw,hb]
   split <;> omega
  ·unfold rdTh
   rcases h1 with h1|⟨h1,h2⟩
   ·rw [if_neg (by omega)]
    refine⟨rfl,hb,rfl,?_⟩;simp[hTh,hw,hb];omega
   ·rw [if_pos h1]
    refine⟨rfl,hb,rfl,?_⟩;simp[hTh,hw,hb,h2]
 have t2:t'.adding=true->∃b,(P.acts i t'.tx)[t'.act]?=some b/\b.kind=3:=by
  intro had;rcases hc with⟨h1,-,-,rfl⟩|⟨h1,-,rfl⟩
  ·cases had
  ·unfold rdTh at had ⊢
   rcases h1 with h1|⟨h1,h2⟩
   ·exfalso
    rw[if_neg (by omega)] at had;obtain⟨b,hb2,hb3⟩:=(h.wt i t ht).2.2 had;rw[ha] at hb2;obtain rfl:=Option.some.inj hb2;omega
   ·rw [if_pos h1]
    exact⟨a,ha,h1⟩
 have key:=h.moved (t':=t') (e:=qE {xG 3 with ret:=ret,val:=got} (qG i t.tx)) ht hb rfl (by simp[qE,xG]) ?_ t1.2.2.2 ⟨.inl t1.2.2.1,(fun h=>by rw[t1.2.1] at h;cases h),t2⟩ ?_
 ·obtain ⟨k,s,s',h1,h2,h3,h4,h5,-,h6⟩:=key
  refine⟨k,s,h1,h2,h3,h4,?_⟩;have hd:s.stand=2->∃d,s.deeds.getLast?=some d/\∀b,(P.acts i t.tx)[t.act]?=some b->PendOk t b d:=fun hs2=>by
   obtain⟨d,hd⟩:=h.dd s (List.mem_of_getElem? h1) hs2;exact⟨d,hd,fun b hb2=>h.pend i t s d b ht (List.mem_of_getElem? h1) h2 hw hb2 hd⟩
  rw[hmv s h4 hd] at h5;rw[Option.some.inj h5];exact h6
 ·refine ⟨qj,?_⟩
  rcases hc with⟨-,rfl,rfl,-⟩|⟨-,rfl,-⟩
  ·exact .inr (.inr (.inr (.inl rfl)))
  ·exact .inr (.inr (.inr (.inr (.inl ⟨got,hv.1,hv.2,rfl⟩))))
 ·intro s hs hst hdd
  refine⟨_,hmv s hst hdd,?_,?_,?_,.inl ⟨t1.1,t1.2.1,?_,fun h=>by omega⟩⟩ <;>
  ·obtain ⟨d,hd,-⟩:=hdd (by rw[hst,hstand])
   unfold yU;simp[hd,xg,t1.2.2.1]
end
