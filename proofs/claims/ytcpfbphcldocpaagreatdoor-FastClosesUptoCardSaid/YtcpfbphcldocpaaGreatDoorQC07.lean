/- Parts of the proof; the first: Events: the map of the fields, whole. Conditions: those of each theorem, as typed. -/
import Derived.Test.YtcpfbphcldocpaaGreatDoorQC05
set_option linter.unusedVariables false
set_option linter.unusedSimpArgs false
set_option linter.unusedSectionVars false
set_option maxRecDepth 100000
set_option maxHeartbeats 4000000
namespace Go.Proofs.YtcpfbphcldocpaaGreatDoor
open Go.Maps Go.RowKit
section
attribute [local irreducible] xL
def Qp (w:World) (B bm:Nat) (K:Int->Prop):Prop:=∃M,qL w bm M/\(∀k,K k->∃v,M k=some v/\JG w B v (XB k))/\∀k,k < 1\/7 < k->M k=none
theorem Qp.below {w w':World} {B bm:Nat} {K:Int->Prop} (h:Qp w B bm K) (hb:Below w.heap.size w w'):Qp w' B bm K:=let ⟨M,h1,h2,h0⟩:=h;⟨M,h1.below hb h1.lt,fun k hk=>let ⟨v,h3,h4⟩:=h2 k hk;⟨v,h3,h4.below hb⟩,h0⟩
def FldsG (w:World) (B bm:Nat):Prop:=∃(M:Int->Option Value) (bq:Nat),qL w bm M/\(∀k:Int,k=1\/4<=k/\k < 8->∃v,M k=some v/\JG w B v (XB k))/\M 2=some (.func (.func 183) #[] #[.pointer (some ⟨bq,0,none⟩)])/\M 3=some (.func (.func 188) #[] #[.pointer (some ⟨bq,0,none⟩)])/\Ji w bq/\B<=bm/\∀k,k < 1\/7 < k->M k=none
def FldRetG (w:World) (e:Ending) (w':World):Prop:=∃bm,e=.returned (.map (some bm))/\FldsG w' w.heap.size bm/\Below w.heap.size w w'
theorem jY (w:World):Calls Tryz.prog 131 #[] w (FldRetG w):=by
 go_enter Tryz.func131,Tryz.ntmps131;go_wp2_with fail;have b0:Below w.heap.size w (w.alloc (.cells #[.func (.func 179) #[] #[]] 305)):=(Below.refl _ w).alloc (Nat.le_refl _) _;have r0:=qs w (.cells #[.func (.func 179) #[] #[]] 305);generalize w.alloc (.cells #[.func (.func 179) #[] #[]] 305)=W at *;have y0:=qa r0 0;have l0:=qe r0;have hmk:∀X:World,Sem.run Tryz.prog (Instr.makeMap 256 none) X=.ok (.map (some X.heap.size)) (X.alloc (.map #[] 0)):=fun X=>by kernel_rfl
 refine wp_mono (Q:=FldMid w W) ?_ ?_
 ·
  refine qD (W.heap.size) [3,1,3,3,3,3,2,0,0] (.frk [1] (.fin [0,2,3,4,5,6,7,8]) (.frk [2] (.fin [0,3,4,5,6,7,8]) (.frk [3] (.fin [0,4,5,6,7,8]) (.frk [4] (.fin [0,5,6,7,8]) (.fin [5,0,6,7,8]))))) (by kernel_rfl) ?_;simp only[xC,qJ,qu,sD,sE,sF,sG]
  repeat first|(apply qx;(intro w2 hw2;have hk1:=hw2.cell;have hk3:=hw2.1;clear hw2;go_simp;with_reducible rfl);simp only[Act.put,sA,sB,sC])|refine qm ?_
  have bb:=Below.refl W.heap.size W;refine⟨?_,?_⟩
  ·
   have bb:=Below.refl W.heap.size W;refine qC (fun K hK=>?_);go_simp;refine hK _ _ (RN.KeepsN.alloc _ _ (by have:=bb.size;first|omega|exact this)) ?_;clear hK K;obtain⟨W1,hW1⟩:∃X,X=W.drew.alloc (.map #[] 0):=⟨_,rfl⟩
   change xL _ _ _ _ _ (W.drew.alloc (.map #[] 0));rw[←hW1];have hbm:W.heap.size<=W.heap.size:=bb.size;have bs:Below W.heap.size W W1:=by rw[hW1];exact(Below.refl _ W).drew.alloc (Nat.le_refl _) _
   have rm:W1.heap[W.heap.size]?=some (.map #[] 0):=by rw[hW1];exact qs W.drew _
   clear hW1;have bb:=bb.trans (bs.mono bb.size);clear bs;refine qC (fun K hK=>?_);go_simp;refine(KQ _).mono ?_;rintro e W2 ⟨rfl,bs⟩;refine hK _ _ (RN.KeepsN.of_below (bs.mono (by have:=bb.size;first|omega|exact this))) ?_;clear hK K;have bs:Below W1.heap.size W1 W2:=(Below.refl _ W1).trans bs;have rm:=qh rm bs (qe rm);have bb:=bb.trans (bs.mono bb.size);clear bs;refine qC (fun K hK=>?_);go_simp;refine(ZP _).mono ?_;rintro e W3 ⟨rfl,bs⟩;refine hK _ _ (RN.KeepsN.of_below (bs.mono (by have:=bb.size;first|omega|exact this))) ?_;clear hK K;have bs:Below W2.heap.size W2 W3:=(Below.refl _ W2).trans bs;have rm:=qh rm bs (qe rm);have bb:=bb.trans (bs.mono bb.size);clear bs;refine qC (fun K hK=>?_);go_simp;refine hK _ _ (RN.KeepsN.alloc _ _ (by have:=bb.size;first|omega|exact this)) ?_;clear hK K;have os:qj Fd.cells 260 4 (W3.alloc (.cells #[.func (.func qB.f) #[] #[],.int .i64 qB.tb,.int .i64 qB.lo,.int .i64 qB.hi,.func (.func xm.f) #[] #[],.int .i64 xm.tb,.int .i64 xm.lo,.int .i64 xm.hi] 260)) W.heap.size (.slice (some ⟨W3.heap.size,0,none⟩) 2 2) [qB,xm]:=qj.lit (f:=Fd.cells) W3 W.heap.size bb.size [qB,xm] Fd.len (by decide);have bs:Below W3.heap.size W3 (W3.alloc (.cells #[.func (.func qB.f) #[] #[],.int .i64 qB.tb,.int .i64 qB.lo,.int .i64 qB.hi,.func (.func xm.f) #[] #[],.int .i64 xm.tb,.int .i64 xm.lo,.int .i64 xm.hi] 260)):=(Below.refl _ _).alloc (Nat.le_refl _) _;have rm:=qh rm bs (qe rm);generalize W3.alloc (.cells #[.func (.func qB.f) #[] #[],.int .i64 qB.tb,.int .i64 qB.lo,.int .i64 qB.hi,.func (.func xm.f) #[] #[],.int .i64 xm.tb,.int .i64 xm.lo,.int .i64 xm.hi] 260)=W4 at *;have bb:=bb.trans (bs.mono bb.size);clear bs;refine qC (fun K hK=>?_);go_simp;refine(ju _ ⟨_,_,_,rfl⟩ _).mono ?_;rintro e W5 ⟨rfl,hW5⟩;have bs:Below W4.heap.size W4 W5:=by rw[hW5];exact(Below.refl _ W4).alloc (Nat.le_refl _) _
   have rl:=qs W4 (.cells #[.slice (some ⟨W3.heap.size,0,none⟩) 2 2] 304);rw[←hW5] at rl;refine hK _ _ (RN.KeepsN.of_below (bs.mono (by have:=bb.size;first|omega|exact this))) ?_;clear hK K hW5;have rm:=qh rm bs (qe rm);have os:=qj.below os bs;have bb:=bb.trans (bs.mono bb.size);clear bs;refine qF (fun K hK=>?_);refine(qL.made rm).wp_store Tryz.underlying3 Tryz.underlying256 (a:=1) (.inr rfl) (by rfl) (by rfl) (by rfl) ?_;intro X h1 t1;refine hK _ _ ?_;clear hK K;have hne:=xa t1 rl
   repeat first|(refine qq fun K hK=>?_;go_simp;refine hK _ _ ?_;clear hK K)|refine qm ?_
   exact⟨_,_,_,rfl,rfl,h1,hne.trans rl,qj.kd os (Kd.turned (T:=fun _=>False) t1) (fun h=>h),bb.trans (Below.turned t1 (by exact hbm)),by exact hbm⟩
  ·
   have bb:=Below.refl W.heap.size W;refine qC (fun K hK=>?_);go_simp;refine(KQ _).mono ?_;rintro e W1 ⟨rfl,bs⟩;refine hK _ _ (RN.KeepsN.of_below (bs.mono (by have:=bb.size;first|omega|exact this))) ?_;clear hK K;have bs:Below W.heap.size W W1:=(Below.refl _ W).drew.trans bs;have bb:=bb.trans (bs.mono bb.size);clear bs
   repeat refine qm ?_
   refine⟨?_,?_⟩
   ·
    refine qC (fun K hK=>?_);go_simp;refine hK _ _ (RN.KeepsN.alloc _ _ (by have:=bb.size;first|omega|exact this)) ?_;clear hK K;obtain⟨W2,hW2⟩:∃X,X=W1.alloc (.map #[] 0):=⟨_,rfl⟩
    change xL _ _ _ _ _ (W1.alloc (.map #[] 0));rw[←hW2];have hbm:W.heap.size<=W1.heap.size:=bb.size;have bs:Below W1.heap.size W1 W2:=by rw[hW2];exact(Below.refl _ W1).alloc (Nat.le_refl _) _
    have rm:W2.heap[W1.heap.size]?=some (.map #[] 0):=by rw[hW2];exact qs W1 _
    clear hW2;have bb:=bb.trans (bs.mono bb.size);clear bs;refine qC (fun K hK=>?_);go_simp;refine(ZP _).mono ?_;rintro e W3 ⟨rfl,bs⟩;refine hK _ _ (RN.KeepsN.of_below (bs.mono (by have:=bb.size;first|omega|exact this))) ?_;clear hK K;have bs:Below W2.heap.size W2 W3:=(Below.refl _ W2).trans bs;have rm:=qh rm bs (qe rm);have bb:=bb.trans (bs.mono bb.size);clear bs;refine qC (fun K hK=>?_);go_simp;refine hK _ _ (RN.KeepsN.alloc _ _ (by have:=bb.size;first|omega|exact this)) ?_;clear hK K;have os:qj Fd.cells 260 4 (W3.alloc (.cells #[.func (.func qB.f) #[] #[],.int .i64 qB.tb,.int .i64 qB.lo,.int .i64 qB.hi,.func (.func xm.f) #[] #[],.int .i64 xm.tb,.int .i64 xm.lo,.int .i64 xm.hi] 260)) W.heap.size (.slice (some ⟨W3.heap.size,0,none⟩) 2 2) [qB,xm]:=qj.lit (f:=Fd.cells) W3 W.heap.size bb.size [qB,xm] Fd.len (by decide);have bs:Below W3.heap.size W3 (W3.alloc (.cells #[.func (.func qB.f) #[] #[],.int .i64 qB.tb,.int .i64 qB.lo,.int .i64 qB.hi,.func (.func xm.f) #[] #[],.int .i64 xm.tb,.int .i64 xm.lo,.int .i64 xm.hi] 260)):=(Below.refl _ _).alloc (Nat.le_refl _) _;have rm:=qh rm bs (qe rm);generalize W3.alloc (.cells #[.func (.func qB.f) #[] #[],.int .i64 qB.tb,.int .i64 qB.lo,.int .i64 qB.hi,.func (.func xm.f) #[] #[],.int .i64 xm.tb,.int .i64 xm.lo,.int .i64 xm.hi] 260)=W4 at *;have bb:=bb.trans (bs.mono bb.size);clear bs;refine qC (fun K hK=>?_);go_simp;refine(ju _ ⟨_,_,_,rfl⟩ _).mono ?_;rintro e W5 ⟨rfl,hW5⟩;have bs:Below W4.heap.size W4 W5:=by rw[hW5];exact(Below.refl _ W4).alloc (Nat.le_refl _) _
    have rl:=qs W4 (.cells #[.slice (some ⟨W3.heap.size,0,none⟩) 2 2] 304);rw[←hW5] at rl;refine hK _ _ (RN.KeepsN.of_below (bs.mono (by have:=bb.size;first|omega|exact this))) ?_;clear hK K hW5;have rm:=qh rm bs (qe rm);have os:=qj.below os bs;have bb:=bb.trans (bs.mono bb.size);clear bs;refine qF (fun K hK=>?_);refine(qL.made rm).wp_store Tryz.underlying3 Tryz.underlying256 (a:=1) (.inr rfl) (by rfl) (by rfl) (by rfl) ?_;intro X h1 t1;refine hK _ _ ?_;clear hK K;have hne:=xa t1 rl
    repeat first|(refine qq fun K hK=>?_;go_simp;refine hK _ _ ?_;clear hK K)|refine qm ?_
    exact⟨_,_,_,rfl,rfl,h1,hne.trans rl,qj.kd os (Kd.turned (T:=fun _=>False) t1) (fun h=>h),bb.trans (Below.turned t1 (by exact hbm)),by exact hbm⟩
   ·
    refine qC (fun K hK=>?_);go_simp;refine(ZP _).mono ?_;rintro e W2 ⟨rfl,bs⟩;refine hK _ _ (RN.KeepsN.of_below (bs.mono (by have:=bb.size;first|omega|exact this))) ?_;clear hK K;have bs:Below W1.heap.size W1 W2:=(Below.refl _ W1).trans bs;have bb:=bb.trans (bs.mono bb.size);clear bs
    repeat refine qm ?_
    refine⟨?_,?_⟩
    ·
     refine qC (fun K hK=>?_);go_simp;refine hK _ _ (RN.KeepsN.alloc _ _ (by have:=bb.size;first|omega|exact this)) ?_;clear hK K;obtain⟨W3,hW3⟩:∃X,X=W2.alloc (.map #[] 0):=⟨_,rfl⟩
     change xL _ _ _ _ _ (W2.alloc (.map #[] 0));rw[←hW3];have hbm:W.heap.size<=W2.heap.size:=bb.size;have bs:Below W2.heap.size W2 W3:=by rw[hW3];exact(Below.refl _ W2).alloc (Nat.le_refl _) _
     have rm:W3.heap[W2.heap.size]?=some (.map #[] 0):=by rw[hW3];exact qs W2 _
     clear hW3;have bb:=bb.trans (bs.mono bb.size);clear bs;refine qC (fun K hK=>?_);go_simp;refine hK _ _ (RN.KeepsN.alloc _ _ (by have:=bb.size;first|omega|exact this)) ?_;clear hK K;have os:qj Fd.cells 260 4 (W3.alloc (.cells #[.func (.func qB.f) #[] #[],.int .i64 qB.tb,.int .i64 qB.lo,.int .i64 qB.hi,.func (.func xm.f) #[] #[],.int .i64 xm.tb,.int .i64 xm.lo,.int .i64 xm.hi] 260)) W.heap.size (.slice (some ⟨W3.heap.size,0,none⟩) 2 2) [qB,xm]:=qj.lit (f:=Fd.cells) W3 W.heap.size bb.size [qB,xm] Fd.len (by decide);have bs:Below W3.heap.size W3 (W3.alloc (.cells #[.func (.func qB.f) #[] #[],.int .i64 qB.tb,.int .i64 qB.lo,.int .i64 qB.hi,.func (.func xm.f) #[] #[],.int .i64 xm.tb,.int .i64 xm.lo,.int .i64 xm.hi] 260)):=(Below.refl _ _).alloc (Nat.le_refl _) _;have rm:=qh rm bs (qe rm);generalize W3.alloc (.cells #[.func (.func qB.f) #[] #[],.int .i64 qB.tb,.int .i64 qB.lo,.int .i64 qB.hi,.func (.func xm.f) #[] #[],.int .i64 xm.tb,.int .i64 xm.lo,.int .i64 xm.hi] 260)=W4 at *;have bb:=bb.trans (bs.mono bb.size);clear bs;refine qC (fun K hK=>?_);go_simp;refine(ju _ ⟨_,_,_,rfl⟩ _).mono ?_;rintro e W5 ⟨rfl,hW5⟩;have bs:Below W4.heap.size W4 W5:=by rw[hW5];exact(Below.refl _ W4).alloc (Nat.le_refl _) _
     have rl:=qs W4 (.cells #[.slice (some ⟨W3.heap.size,0,none⟩) 2 2] 304);rw[←hW5] at rl;refine hK _ _ (RN.KeepsN.of_below (bs.mono (by have:=bb.size;first|omega|exact this))) ?_;clear hK K hW5;have rm:=qh rm bs (qe rm);have os:=qj.below os bs;have bb:=bb.trans (bs.mono bb.size);clear bs;refine qF (fun K hK=>?_);refine(qL.made rm).wp_store Tryz.underlying3 Tryz.underlying256 (a:=1) (.inr rfl) (by rfl) (by rfl) (by rfl) ?_;intro X h1 t1;refine hK _ _ ?_;clear hK K;have hne:=xa t1 rl
     repeat first|(refine qq fun K hK=>?_;go_simp;refine hK _ _ ?_;clear hK K)|refine qm ?_
     exact⟨_,_,_,rfl,rfl,h1,hne.trans rl,qj.kd os (Kd.turned (T:=fun _=>False) t1) (fun h=>h),bb.trans (Below.turned t1 (by exact hbm)),by exact hbm⟩
    ·
     refine qC (fun K hK=>?_);go_simp;refine hK _ _ (RN.KeepsN.alloc _ _ (by have:=bb.size;first|omega|exact this)) ?_;clear hK K;have os:qj Fd.cells 260 4 (W2.alloc (.cells #[.func (.func qB.f) #[] #[],.int .i64 qB.tb,.int .i64 qB.lo,.int .i64 qB.hi,.func (.func xm.f) #[] #[],.int .i64 xm.tb,.int .i64 xm.lo,.int .i64 xm.hi] 260)) W.heap.size (.slice (some ⟨W2.heap.size,0,none⟩) 2 2) [qB,xm]:=qj.lit (f:=Fd.cells) W2 W.heap.size bb.size [qB,xm] Fd.len (by decide);have bs:Below W2.heap.size W2 (W2.alloc (.cells #[.func (.func qB.f) #[] #[],.int .i64 qB.tb,.int .i64 qB.lo,.int .i64 qB.hi,.func (.func xm.f) #[] #[],.int .i64 xm.tb,.int .i64 xm.lo,.int .i64 xm.hi] 260)):=(Below.refl _ _).alloc (Nat.le_refl _) _;generalize W2.alloc (.cells #[.func (.func qB.f) #[] #[],.int .i64 qB.tb,.int .i64 qB.lo,.int .i64 qB.hi,.func (.func xm.f) #[] #[],.int .i64 xm.tb,.int .i64 xm.lo,.int .i64 xm.hi] 260)=W3 at *;have bb:=bb.trans (bs.mono bb.size);clear bs
     repeat refine qm ?_
     refine⟨?_,?_⟩
     ·
      refine qC (fun K hK=>?_);go_simp;refine hK _ _ (RN.KeepsN.alloc _ _ (by have:=bb.size;first|omega|exact this)) ?_;clear hK K;obtain⟨W4,hW4⟩:∃X,X=W3.alloc (.map #[] 0):=⟨_,rfl⟩
      change xL _ _ _ _ _ (W3.alloc (.map #[] 0));rw[←hW4];have hbm:W.heap.size<=W3.heap.size:=bb.size;have bs:Below W3.heap.size W3 W4:=by rw[hW4];exact(Below.refl _ W3).alloc (Nat.le_refl _) _
      have rm:W4.heap[W3.heap.size]?=some (.map #[] 0):=by rw[hW4];exact qs W3 _
      have os:=qj.below os bs;clear hW4;have bb:=bb.trans (bs.mono bb.size);clear bs;refine qC (fun K hK=>?_);go_simp;refine(ju _ ⟨_,_,_,rfl⟩ _).mono ?_;rintro e W5 ⟨rfl,hW5⟩;have bs:Below W4.heap.size W4 W5:=by rw[hW5];exact(Below.refl _ W4).alloc (Nat.le_refl _) _
      have rl:=qs W4 (.cells #[.slice (some ⟨W2.heap.size,0,none⟩) 2 2] 304);rw[←hW5] at rl;refine hK _ _ (RN.KeepsN.of_below (bs.mono (by have:=bb.size;first|omega|exact this))) ?_;clear hK K hW5;have rm:=qh rm bs (qe rm);have os:=qj.below os bs;have bb:=bb.trans (bs.mono bb.size);clear bs;refine qF (fun K hK=>?_);refine(qL.made rm).wp_store Tryz.underlying3 Tryz.underlying256 (a:=1) (.inr rfl) (by rfl) (by rfl) (by rfl) ?_;intro X h1 t1;refine hK _ _ ?_;clear hK K;have hne:=xa t1 rl
      repeat first|(refine qq fun K hK=>?_;go_simp;refine hK _ _ ?_;clear hK K)|refine qm ?_
      exact⟨_,_,_,rfl,rfl,h1,hne.trans rl,qj.kd os (Kd.turned (T:=fun _=>False) t1) (fun h=>h),bb.trans (Below.turned t1 (by exact hbm)),by exact hbm⟩
     ·
      refine qC (fun K hK=>?_);go_simp;refine(ju _ ⟨_,_,_,rfl⟩ _).mono ?_;rintro e W4 ⟨rfl,hW4⟩;have bs:Below W3.heap.size W3 W4:=by rw[hW4];exact(Below.refl _ W3).alloc (Nat.le_refl _) _
      have rl:=qs W3 (.cells #[.slice (some ⟨W2.heap.size,0,none⟩) 2 2] 304);rw[←hW4] at rl;refine hK _ _ (RN.KeepsN.of_below (bs.mono (by have:=bb.size;first|omega|exact this))) ?_;clear hK K hW4;have os:=qj.below os bs;have bb:=bb.trans (bs.mono bb.size);clear bs;refine qC (fun K hK=>?_);go_simp;refine hK _ _ (RN.KeepsN.alloc _ _ (by have:=bb.size;first|omega|exact this)) ?_;clear hK K;obtain⟨W5,hW5⟩:∃X,X=W4.alloc (.map #[] 0):=⟨_,rfl⟩
      change xL _ _ _ _ _ (W4.alloc (.map #[] 0));rw[←hW5];have hbm:W.heap.size<=W4.heap.size:=bb.size;have bs:Below W4.heap.size W4 W5:=by rw[hW5];exact(Below.refl _ W4).alloc (Nat.le_refl _) _
      have rm:W5.heap[W4.heap.size]?=some (.map #[] 0):=by rw[hW5];exact qs W4 _
      have os:=qj.below os bs;have rl:=qh rl bs (qe rl);clear hW5;have bb:=bb.trans (bs.mono bb.size);clear bs;refine qF (fun K hK=>?_);refine(qL.made rm).wp_store Tryz.underlying3 Tryz.underlying256 (a:=1) (.inr rfl) (by rfl) (by rfl) (by rfl) ?_;intro X h1 t1;refine hK _ _ ?_;clear hK K;have hne:=xa t1 rl
      repeat first|(refine qq fun K hK=>?_;go_simp;refine hK _ _ ?_;clear hK K)|refine qm ?_
      exact⟨_,_,_,rfl,rfl,h1,hne.trans rl,qj.kd os (Kd.turned (T:=fun _=>False) t1) (fun h=>h),bb.trans (Below.turned t1 (by exact hbm)),by exact hbm⟩
 ·rintro e a' X ⟨bm,bl,gs,rfl,rfl,hm,hl,hs,hb,hbm⟩
  have HM:Qp X W.heap.size bm (fun k=>k=1):=⟨_,hm,fun k hk=>⟨_,by rw[hk];exact xD,bl,_,rfl,hl,by rw[hk];exact hs⟩,fun k hk=>qV (by omega)⟩
  have bX:=b0.trans (hb.mono b0.size);have rX:=qh r0 hb l0;have hWX:=hb.size;have bW0:=b0.size;clear hm hl hs hb y0 hmk r0;have y0:=qa rX 0;go_wp2_with fail;clear y0;have rg:=qs X (.cells #[.int .i64 4,.int .i64 5,.int .i64 6,.int .i64 7] 3);have bg:=(Below.refl X.heap.size X).alloc (Nat.le_refl _) (.cells #[.int .i64 4,.int .i64 5,.int .i64 6,.int .i64 7] 3);have rX:=qh rX bg (qe rX);have HM:=HM.below bg;have bX:=bX.trans (bg.mono bX.size);have hWX:=Nat.le_trans hWX bg.size;generalize X.alloc (.cells #[.int .i64 4,.int .i64 5,.int .i64 6,.int .i64 7] 3)=Y at *;obtain⟨g,hg⟩:∃g,g=X.heap.size:=⟨_,rfl⟩
  rw[←hg] at rg ⊢;clear hg bg
  go_loopw [14] (fun p wr=>∃i:Nat,i<=4/\p=.int .i64 i/\Below w.heap.size w wr/\W.heap.size<=wr.heap.size/\wr.heap[w.heap.size]?=some (.cells #[.func (.func 179) #[] #[]] 305 (0,0))/\wr.heap[g]?=some (.cells #[.int .i64 4,.int .i64 5,.int .i64 6,.int .i64 7] 3 (0,0))/\Qp wr W.heap.size bm (fun k=>k=1\/4<=k/\k < 4+i)) (fun p _=>4 - (intOf p).toNat)
  case atStart=>exact⟨0,by omega,by go_num,bX,hWX,rX,rg,let ⟨M,h1,h2,h0⟩:=HM;⟨M,h1,fun k hk=>h2 k (by simp only at hk;omega),h0⟩⟩
  case round=>
   obtain⟨i,hi,rfl,hB,hsz,r0,r1,hF⟩:=hrel;have lg:=qe r1;have l1:=qe r0;have HB:=qd hB;have HF:=qd hF;clear hB hF bX rX rg HM;by_cases hlt:i < 4
   ·have hk:wr.cell? ⟨g,i,none⟩=some (.int .i64 (4+i)):=by
     have c0:=qa r1 i;rcases(show i=0\/i=1\/i=2\/i=3 by omega) with rfl|rfl|rfl|rfl <;> (rw[c0];rfl)
    have y0:=qa r0 0;have R0:=qd r0;have R1:=qd r1;clear r0 r1;obtain⟨wo,rfl⟩:∃wo,wo=wr:=⟨_,rfl⟩
    go_wp2_with fail;have b0:=Below.refl wo.heap.size wo;refine qD (wo.heap.size) [0,0,1,3,3,3,2] (.fin [0,1,2,3,4,5,6]) (by kernel_rfl) ?_;simp only[xC,qJ,qu,sD,sE,sF,sG]
    repeat first|(refine qq fun K hK=>?_;go_simp;refine hK _ _ ?_;clear hK K)|(apply qx;(intro w2 hw2;have hk1:=hw2.cell;have hk3:=hw2.1;clear hw2;go_simp;with_reducible rfl);simp only[Act.put,sA,sB,sC])
    refine qC (fun K hK=>?_);go_simp;refine(KQ _).mono ?_;rintro e W1 ⟨rfl,b1⟩;refine hK _ _ (RN.KeepsN.of_below b1) ?_;clear hK K;have b1:Below wo.heap.size wo W1:=b0.drew.trans b1;have z1:=b1.size;refine qC (fun K hK=>?_);go_simp;refine hK _ _ (RN.KeepsN.alloc _ _ z1) ?_;clear hK K;have os:qj Fd.cells 260 4 (W1.alloc (.cells #[.func (.func qB.f) #[] #[],.int .i64 qB.tb,.int .i64 qB.lo,.int .i64 qB.hi] 260)) W.heap.size (.slice (some ⟨W1.heap.size,0,none⟩) 1 1) [qB]:=qj.lit (f:=Fd.cells) W1 W.heap.size (by omega) [qB] Fd.len (by decide);have b2:=(Below.refl W1.heap.size W1).alloc (Nat.le_refl _) (.cells #[.func (.func qB.f) #[] #[],.int .i64 qB.tb,.int .i64 qB.lo,.int .i64 qB.hi] 260);generalize W1.alloc (.cells #[.func (.func qB.f) #[] #[],.int .i64 qB.tb,.int .i64 qB.lo,.int .i64 qB.hi] 260)=W2 at *;have z2:=b2.size;refine qC (fun K hK=>?_);go_simp;refine(ju _ ⟨_,_,_,rfl⟩ _).mono ?_;rintro e W3 ⟨rfl,hW3⟩;have b3:Below W2.heap.size W2 W3:=by rw[hW3];exact(Below.refl _ W2).alloc (Nat.le_refl _) _
    have rl:=qs W2 (.cells #[.slice (some ⟨W1.heap.size,0,none⟩) 1 1] 304);rw[←hW3] at rl;refine hK _ _ (RN.KeepsN.of_below (b3.mono (by omega))) ?_;clear hK K hW3;have os:=qj.below os b3;have b4:=(b1.trans (b2.mono z1)).trans (b3.mono (by omega));have hF:=HF.o.below b4;clear b1 b2 b3;obtain⟨M,hM,hv,hno⟩:=hF;have z4:=b4.size;refine qF (fun K hK=>?_);refine hM.wp_store Tryz.underlying3 Tryz.underlying256 (a:=4+i) (.inl rfl) (by rfl) (by rfl) (by rfl) ?_;intro X1 h1 t1;refine hK _ _ ?_;clear hK K;have n0:=xa t1 (qh R0.o b4 l1);have n1:=xa t1 (qh R1.o b4 lg);have n2:=xa t1 rl;have zt:=qP t1;have F1:Qp X1 W.heap.size bm (fun k=>k=1\/4<=k/\k < 4+((i+1:Nat):Int)):=by
     refine⟨_,h1,fun k hk=>?_,fun k hk=>(qV (by omega)).trans (hno k hk)⟩;by_cases e:k=4+(i:Int)
     ·subst e
      exact⟨_,xD,_,_,rfl,n2.trans rl,by
       have:XB (4+(i:Int))=[qB]:=by unfold XB;rw[if_neg (by omega)]
       rw[this];exact qj.kd os (Kd.turned (T:=fun _=>False) t1) fun h=>h⟩
     ·obtain ⟨v,h3,h4⟩:=hv k (by have hk:k=1\/4<=k/\k < 4+((i+1:Nat):Int):=hk;show k=1\/4<=k/\k < 4+(i:Int);omega)
      exact⟨v,by rw[qV e];exact h3,h4.turned t1⟩
    have B1:=qd ((HB.o.trans (b4.mono HB.o.size)).trans (Below.turned t1 (by have:=b0.size;have:=hbm;have:=bW0;omega)));have RR0:=qd (n0.trans (qh R0.o b4 l1));have RR1:=qd (n1.trans (qh R1.o b4 lg));have FF:=qd F1;have zz:W.heap.size<=X1.heap.size:=by omega
    clear n0 n1 n2 zt F1 h1 t1 hM hv os rl b4
    repeat refine qm ?_
    go_wp2;go_roundw
    case rel=>exact⟨i+1,by omega,by go_num,B1.o,zz,RR0.o,RR1.o,FF.o⟩
    case measure=>simp[intOf];omega
   ·obtain rfl:i=4:=by omega
    obtain⟨M,hM,hv,hno⟩:=HF.o;have HNO:=qd hno;clear hno;have R0:=qd r0;have HV:=qd hv;clear r0 r1 HF hv;go_wp2_with (at_mapUpdate;refine qH.halt ?_)
    refine qH.go ?_;refine hM.wpList_store Tryz.underlying3 Tryz.underlying256 rfl (.inl rfl) (by rfl) (by rfl) (by rfl) ?_;intro X1 h1 t1;have z1:=qP t1;go_wp2_with (at_mapUpdate;refine qH.halt ?_)
    refine qH.go ?_;refine h1.wpList_store Tryz.underlying3 Tryz.underlying256 rfl (.inl rfl) (by rfl) (by rfl) (by rfl) ?_;intro X2 h2 t2;have HH:=qd h2;have T1:=qd t1;have T2:=qd t2;clear h1 t1 t2 h2 z1 hM;go_wp2;go_ret;have r1:=(xa T1.o R0.o).trans R0.o;have r2:=(xa T2.o r1).trans r1;refine⟨bm,rfl,⟨_,w.heap.size,HH.o,fun k hk=>?_,?_,?_,r2,by omega,fun k hk=>?_⟩,?_⟩
    ·obtain ⟨v,h3,h4⟩:=HV.o k (by show k=1\/4<=k/\k < 4+((4:Nat):Int);omega)
     refine⟨v,?_,?_⟩
     ·rw [qV (by omega),qV (by omega)];exact h3
     ·obtain ⟨bl,sv,h5,h6,h7⟩:=h4
      exact JG.turned (JG.turned ⟨bl,sv,h5,h6,qj.base h7 bW0⟩ T1.o) T2.o
    ·rw [qV (by decide)];exact xD
    ·exact xD
    ·rw [qV (by omega),qV (by omega)];exact HNO.o k hk
    ·exact (HB.o.trans (Below.turned T1.o (by omega))).trans (Below.turned T2.o (by omega))
end
