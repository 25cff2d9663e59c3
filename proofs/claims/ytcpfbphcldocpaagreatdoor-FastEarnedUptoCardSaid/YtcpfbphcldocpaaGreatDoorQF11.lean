/- Parts of the proof, merged by program out of 1 texts (GnE): the first: Events: the map of the fields, whole. Conditions: those of each theorem, as typed. -/
import Derived.Test.YtcpfbphcldocpaaGreatDoorQF07
set_option linter.unusedVariables false
set_option linter.unusedSimpArgs false
set_option linter.unusedSectionVars false
set_option maxRecDepth 100000
set_option maxHeartbeats 4000000
namespace Go.Proofs.YtcpfbphcldocpaaGreatDoor
open Go.Maps Go.RowKit
section
attribute [local irreducible] wpL
def FldInvG (w:World) (B bm:Nat) (K:Int→Prop):Prop:=∃M,RawM w bm M∧(∀k,K k→∃v,M k=some v∧ClAt w B v (fdsOf k))∧∀k,k < 1∨7 < k→M k=none
theorem FldInvG.below {w w':World} {B bm:Nat} {K:Int→Prop} (h:FldInvG w B bm K) (hb:Below w.heap.size w w'):FldInvG w' B bm K:=let ⟨M,h1,h2,h0⟩:=h;⟨M,h1.below hb h1.lt,fun k hk=>let ⟨v,h3,h4⟩:=h2 k hk;⟨v,h3,h4.below hb⟩,h0⟩
def FldsG (w:World) (B bm:Nat):Prop:=∃(M:Int→Option Value) (bq:Nat),RawM w bm M∧(∀k:Int,k=1∨4≤k∧k < 8→∃v,M k=some v∧ClAt w B v (fdsOf k))∧M 2=some (.func (.func 183) #[] #[.pointer (some ⟨bq,0,none⟩)])∧M 3=some (.func (.func 188) #[] #[.pointer (some ⟨bq,0,none⟩)])∧LstAt w bq∧B≤bm∧∀k,k < 1∨7 < k→M k=none
def FldRetG (w:World) (e:Ending) (w':World):Prop:=∃bm,e=.returned (.map (some bm))∧FldsG w' w.heap.size bm∧Below w.heap.size w w'
theorem e_fieldsG (w:World):Calls Tryz.prog 131 #[] w (FldRetG w):=by
 go_enter Tryz.func131,Tryz.ntmps131
 go_wp2_with fail
 have b0:Below w.heap.size w (w.alloc (.cells #[.func (.func 179) #[] #[]] 305)):=(Below.refl _ w).alloc (Nat.le_refl _) _
 have r0:=row_new w (.cells #[.func (.func 179) #[] #[]] 305)
 generalize w.alloc (.cells #[.func (.func 179) #[] #[]] 305)=W at *
 have y0:=row_cell r0 0
 have l0:=row_lt r0
 have hmk:∀X:World,Sem.run Tryz.prog (Instr.makeMap 256 none) X=.ok (.map (some X.heap.size)) (X.alloc (.map #[] 0)):=fun X=>by kernel_rfl
 refine wp_mono (Q:=FldMid w W) ?_ ?_
 ·
  refine wp_rN (W.heap.size) [3,1,3,3,3,3,2,0,0] (.frk [1] (.fin [0,2,3,4,5,6,7,8]) (.frk [2] (.fin [0,3,4,5,6,7,8]) (.frk [3] (.fin [0,4,5,6,7,8]) (.frk [4] (.fin [0,5,6,7,8]) (.fin [5,0,6,7,8]))))) (by kernel_rfl) ?_
  simp only[wpT,selX,guardAt,sD,sE,sF,sG]
  repeat first|(apply wpL_s;(intro w2 hw2;have hk1:=hw2.cell;have hk3:=hw2.1;clear hw2;go_simp;with_reducible rfl);simp only[Act.put,sA,sB,sC])|refine wpL_nil ?_
  have bb:=Below.refl W.heap.size W
  refine⟨?_,?_⟩
  ·
   have bb:=Below.refl W.heap.size W
   refine wpL_k (fun K hK=>?_)
   go_simp
   refine hK _ _ (RN.KeepsN.alloc _ _ (by have:=bb.size;first|omega|exact this)) ?_
   clear hK K
   obtain⟨W1,hW1⟩:∃X,X=W.drew.alloc (.map #[] 0):=⟨_,rfl⟩
   change wpL _ _ _ _ _ (W.drew.alloc (.map #[] 0))
   rw[←hW1]
   have hbm:W.heap.size≤W.heap.size:=bb.size
   have bs:Below W.heap.size W W1:=by rw[hW1];exact(Below.refl _ W).drew.alloc (Nat.le_refl _) _
   have rm:W1.heap[W.heap.size]?=some (.map #[] 0):=by rw[hW1];exact row_new W.drew _
   clear hW1
   have bb:=bb.trans (bs.mono bb.size)
   clear bs
   refine wpL_k (fun K hK=>?_)
   go_simp
   refine(e_tx _).mono ?_
   rintro e W2 ⟨rfl,bs⟩
   refine hK _ _ (RN.KeepsN.of_below (bs.mono (by have:=bb.size;first|omega|exact this))) ?_
   clear hK K
   have bs:Below W1.heap.size W1 W2:=(Below.refl _ W1).trans bs
   have rm:=row_below rm bs (row_lt rm)
   have bb:=bb.trans (bs.mono bb.size)
   clear bs
   refine wpL_k (fun K hK=>?_)
   go_simp
   refine(e_thread _).mono ?_
   rintro e W3 ⟨rfl,bs⟩
   refine hK _ _ (RN.KeepsN.of_below (bs.mono (by have:=bb.size;first|omega|exact this))) ?_
   clear hK K
   have bs:Below W2.heap.size W2 W3:=(Below.refl _ W2).trans bs
   have rm:=row_below rm bs (row_lt rm)
   have bb:=bb.trans (bs.mono bb.size)
   clear bs
   refine wpL_k (fun K hK=>?_)
   go_simp
   refine hK _ _ (RN.KeepsN.alloc _ _ (by have:=bb.size;first|omega|exact this)) ?_
   clear hK K
   have os:OwnF Fd.cells 260 4 (W3.alloc (.cells #[.func (.func fdTx.f) #[] #[],.int .i64 fdTx.tb,.int .i64 fdTx.lo,.int .i64 fdTx.hi,.func (.func fdTh.f) #[] #[],.int .i64 fdTh.tb,.int .i64 fdTh.lo,.int .i64 fdTh.hi] 260)) W.heap.size (.slice (some ⟨W3.heap.size,0,none⟩) 2 2) [fdTx,fdTh]:=OwnF.lit (f:=Fd.cells) W3 W.heap.size bb.size [fdTx,fdTh] Fd.len (by decide)
   have bs:Below W3.heap.size W3 (W3.alloc (.cells #[.func (.func fdTx.f) #[] #[],.int .i64 fdTx.tb,.int .i64 fdTx.lo,.int .i64 fdTx.hi,.func (.func fdTh.f) #[] #[],.int .i64 fdTh.tb,.int .i64 fdTh.lo,.int .i64 fdTh.hi] 260)):=(Below.refl _ _).alloc (Nat.le_refl _) _
   have rm:=row_below rm bs (row_lt rm)
   generalize W3.alloc (.cells #[.func (.func fdTx.f) #[] #[],.int .i64 fdTx.tb,.int .i64 fdTx.lo,.int .i64 fdTx.hi,.func (.func fdTh.f) #[] #[],.int .i64 fdTh.tb,.int .i64 fdTh.lo,.int .i64 fdTh.hi] 260)=W4 at *
   have bb:=bb.trans (bs.mono bb.size)
   clear bs
   refine wpL_k (fun K hK=>?_)
   go_simp
   refine(e_list _ ⟨_,_,_,rfl⟩ _).mono ?_
   rintro e W5 ⟨rfl,hW5⟩
   have bs:Below W4.heap.size W4 W5:=by rw[hW5];exact(Below.refl _ W4).alloc (Nat.le_refl _) _
   have rl:=row_new W4 (.cells #[.slice (some ⟨W3.heap.size,0,none⟩) 2 2] 304)
   rw[←hW5] at rl
   refine hK _ _ (RN.KeepsN.of_below (bs.mono (by have:=bb.size;first|omega|exact this))) ?_
   clear hK K hW5
   have rm:=row_below rm bs (row_lt rm)
   have os:=OwnF.below os bs
   have bb:=bb.trans (bs.mono bb.size)
   clear bs
   refine wpL_e (fun K hK=>?_)
   refine(RawM.made rm).wp_store Tryz.underlying3 Tryz.underlying256 (a:=1) (.inr rfl) (by rfl) (by rfl) (by rfl) ?_
   intro X h1 t1
   refine hK _ _ ?_
   clear hK K
   have hne:=turned_cells t1 rl
   repeat first|(refine wpL_p fun K hK=>?_;go_simp;refine hK _ _ ?_;clear hK K)|refine wpL_nil ?_
   exact⟨_,_,_,rfl,rfl,h1,hne.trans rl,OwnF.kd os (Kd.turned (T:=fun _=>False) t1) (fun h=>h),bb.trans (Below.turned t1 (by exact hbm)),by exact hbm⟩
  ·
   have bb:=Below.refl W.heap.size W
   refine wpL_k (fun K hK=>?_)
   go_simp
   refine(e_tx _).mono ?_
   rintro e W1 ⟨rfl,bs⟩
   refine hK _ _ (RN.KeepsN.of_below (bs.mono (by have:=bb.size;first|omega|exact this))) ?_
   clear hK K
   have bs:Below W.heap.size W W1:=(Below.refl _ W).drew.trans bs
   have bb:=bb.trans (bs.mono bb.size)
   clear bs
   repeat refine wpL_nil ?_
   refine⟨?_,?_⟩
   ·
    refine wpL_k (fun K hK=>?_)
    go_simp
    refine hK _ _ (RN.KeepsN.alloc _ _ (by have:=bb.size;first|omega|exact this)) ?_
    clear hK K
    obtain⟨W2,hW2⟩:∃X,X=W1.alloc (.map #[] 0):=⟨_,rfl⟩
    change wpL _ _ _ _ _ (W1.alloc (.map #[] 0))
    rw[←hW2]
    have hbm:W.heap.size≤W1.heap.size:=bb.size
    have bs:Below W1.heap.size W1 W2:=by rw[hW2];exact(Below.refl _ W1).alloc (Nat.le_refl _) _
    have rm:W2.heap[W1.heap.size]?=some (.map #[] 0):=by rw[hW2];exact row_new W1 _
    clear hW2
    have bb:=bb.trans (bs.mono bb.size)
    clear bs
    refine wpL_k (fun K hK=>?_)
    go_simp
    refine(e_thread _).mono ?_
    rintro e W3 ⟨rfl,bs⟩
    refine hK _ _ (RN.KeepsN.of_below (bs.mono (by have:=bb.size;first|omega|exact this))) ?_
    clear hK K
    have bs:Below W2.heap.size W2 W3:=(Below.refl _ W2).trans bs
    have rm:=row_below rm bs (row_lt rm)
    have bb:=bb.trans (bs.mono bb.size)
    clear bs
    refine wpL_k (fun K hK=>?_)
    go_simp
    refine hK _ _ (RN.KeepsN.alloc _ _ (by have:=bb.size;first|omega|exact this)) ?_
    clear hK K
    have os:OwnF Fd.cells 260 4 (W3.alloc (.cells #[.func (.func fdTx.f) #[] #[],.int .i64 fdTx.tb,.int .i64 fdTx.lo,.int .i64 fdTx.hi,.func (.func fdTh.f) #[] #[],.int .i64 fdTh.tb,.int .i64 fdTh.lo,.int .i64 fdTh.hi] 260)) W.heap.size (.slice (some ⟨W3.heap.size,0,none⟩) 2 2) [fdTx,fdTh]:=OwnF.lit (f:=Fd.cells) W3 W.heap.size bb.size [fdTx,fdTh] Fd.len (by decide)
    have bs:Below W3.heap.size W3 (W3.alloc (.cells #[.func (.func fdTx.f) #[] #[],.int .i64 fdTx.tb,.int .i64 fdTx.lo,.int .i64 fdTx.hi,.func (.func fdTh.f) #[] #[],.int .i64 fdTh.tb,.int .i64 fdTh.lo,.int .i64 fdTh.hi] 260)):=(Below.refl _ _).alloc (Nat.le_refl _) _
    have rm:=row_below rm bs (row_lt rm)
    generalize W3.alloc (.cells #[.func (.func fdTx.f) #[] #[],.int .i64 fdTx.tb,.int .i64 fdTx.lo,.int .i64 fdTx.hi,.func (.func fdTh.f) #[] #[],.int .i64 fdTh.tb,.int .i64 fdTh.lo,.int .i64 fdTh.hi] 260)=W4 at *
    have bb:=bb.trans (bs.mono bb.size)
    clear bs
    refine wpL_k (fun K hK=>?_)
    go_simp
    refine(e_list _ ⟨_,_,_,rfl⟩ _).mono ?_
    rintro e W5 ⟨rfl,hW5⟩
    have bs:Below W4.heap.size W4 W5:=by rw[hW5];exact(Below.refl _ W4).alloc (Nat.le_refl _) _
    have rl:=row_new W4 (.cells #[.slice (some ⟨W3.heap.size,0,none⟩) 2 2] 304)
    rw[←hW5] at rl
    refine hK _ _ (RN.KeepsN.of_below (bs.mono (by have:=bb.size;first|omega|exact this))) ?_
    clear hK K hW5
    have rm:=row_below rm bs (row_lt rm)
    have os:=OwnF.below os bs
    have bb:=bb.trans (bs.mono bb.size)
    clear bs
    refine wpL_e (fun K hK=>?_)
    refine(RawM.made rm).wp_store Tryz.underlying3 Tryz.underlying256 (a:=1) (.inr rfl) (by rfl) (by rfl) (by rfl) ?_
    intro X h1 t1
    refine hK _ _ ?_
    clear hK K
    have hne:=turned_cells t1 rl
    repeat first|(refine wpL_p fun K hK=>?_;go_simp;refine hK _ _ ?_;clear hK K)|refine wpL_nil ?_
    exact⟨_,_,_,rfl,rfl,h1,hne.trans rl,OwnF.kd os (Kd.turned (T:=fun _=>False) t1) (fun h=>h),bb.trans (Below.turned t1 (by exact hbm)),by exact hbm⟩
   ·
    refine wpL_k (fun K hK=>?_)
    go_simp
    refine(e_thread _).mono ?_
    rintro e W2 ⟨rfl,bs⟩
    refine hK _ _ (RN.KeepsN.of_below (bs.mono (by have:=bb.size;first|omega|exact this))) ?_
    clear hK K
    have bs:Below W1.heap.size W1 W2:=(Below.refl _ W1).trans bs
    have bb:=bb.trans (bs.mono bb.size)
    clear bs
    repeat refine wpL_nil ?_
    refine⟨?_,?_⟩
    ·
     refine wpL_k (fun K hK=>?_)
     go_simp
     refine hK _ _ (RN.KeepsN.alloc _ _ (by have:=bb.size;first|omega|exact this)) ?_
     clear hK K
     obtain⟨W3,hW3⟩:∃X,X=W2.alloc (.map #[] 0):=⟨_,rfl⟩
     change wpL _ _ _ _ _ (W2.alloc (.map #[] 0))
     rw[←hW3]
     have hbm:W.heap.size≤W2.heap.size:=bb.size
     have bs:Below W2.heap.size W2 W3:=by rw[hW3];exact(Below.refl _ W2).alloc (Nat.le_refl _) _
     have rm:W3.heap[W2.heap.size]?=some (.map #[] 0):=by rw[hW3];exact row_new W2 _
     clear hW3
     have bb:=bb.trans (bs.mono bb.size)
     clear bs
     refine wpL_k (fun K hK=>?_)
     go_simp
     refine hK _ _ (RN.KeepsN.alloc _ _ (by have:=bb.size;first|omega|exact this)) ?_
     clear hK K
     have os:OwnF Fd.cells 260 4 (W3.alloc (.cells #[.func (.func fdTx.f) #[] #[],.int .i64 fdTx.tb,.int .i64 fdTx.lo,.int .i64 fdTx.hi,.func (.func fdTh.f) #[] #[],.int .i64 fdTh.tb,.int .i64 fdTh.lo,.int .i64 fdTh.hi] 260)) W.heap.size (.slice (some ⟨W3.heap.size,0,none⟩) 2 2) [fdTx,fdTh]:=OwnF.lit (f:=Fd.cells) W3 W.heap.size bb.size [fdTx,fdTh] Fd.len (by decide)
     have bs:Below W3.heap.size W3 (W3.alloc (.cells #[.func (.func fdTx.f) #[] #[],.int .i64 fdTx.tb,.int .i64 fdTx.lo,.int .i64 fdTx.hi,.func (.func fdTh.f) #[] #[],.int .i64 fdTh.tb,.int .i64 fdTh.lo,.int .i64 fdTh.hi] 260)):=(Below.refl _ _).alloc (Nat.le_refl _) _
     have rm:=row_below rm bs (row_lt rm)
     generalize W3.alloc (.cells #[.func (.func fdTx.f) #[] #[],.int .i64 fdTx.tb,.int .i64 fdTx.lo,.int .i64 fdTx.hi,.func (.func fdTh.f) #[] #[],.int .i64 fdTh.tb,.int .i64 fdTh.lo,.int .i64 fdTh.hi] 260)=W4 at *
     have bb:=bb.trans (bs.mono bb.size)
     clear bs
     refine wpL_k (fun K hK=>?_)
     go_simp
     refine(e_list _ ⟨_,_,_,rfl⟩ _).mono ?_
     rintro e W5 ⟨rfl,hW5⟩
     have bs:Below W4.heap.size W4 W5:=by rw[hW5];exact(Below.refl _ W4).alloc (Nat.le_refl _) _
     have rl:=row_new W4 (.cells #[.slice (some ⟨W3.heap.size,0,none⟩) 2 2] 304)
     rw[←hW5] at rl
     refine hK _ _ (RN.KeepsN.of_below (bs.mono (by have:=bb.size;first|omega|exact this))) ?_
     clear hK K hW5
     have rm:=row_below rm bs (row_lt rm)
     have os:=OwnF.below os bs
     have bb:=bb.trans (bs.mono bb.size)
     clear bs
     refine wpL_e (fun K hK=>?_)
     refine(RawM.made rm).wp_store Tryz.underlying3 Tryz.underlying256 (a:=1) (.inr rfl) (by rfl) (by rfl) (by rfl) ?_
     intro X h1 t1
     refine hK _ _ ?_
     clear hK K
     have hne:=turned_cells t1 rl
     repeat first|(refine wpL_p fun K hK=>?_;go_simp;refine hK _ _ ?_;clear hK K)|refine wpL_nil ?_
     exact⟨_,_,_,rfl,rfl,h1,hne.trans rl,OwnF.kd os (Kd.turned (T:=fun _=>False) t1) (fun h=>h),bb.trans (Below.turned t1 (by exact hbm)),by exact hbm⟩
    ·
     refine wpL_k (fun K hK=>?_)
     go_simp
     refine hK _ _ (RN.KeepsN.alloc _ _ (by have:=bb.size;first|omega|exact this)) ?_
     clear hK K
     have os:OwnF Fd.cells 260 4 (W2.alloc (.cells #[.func (.func fdTx.f) #[] #[],.int .i64 fdTx.tb,.int .i64 fdTx.lo,.int .i64 fdTx.hi,.func (.func fdTh.f) #[] #[],.int .i64 fdTh.tb,.int .i64 fdTh.lo,.int .i64 fdTh.hi] 260)) W.heap.size (.slice (some ⟨W2.heap.size,0,none⟩) 2 2) [fdTx,fdTh]:=OwnF.lit (f:=Fd.cells) W2 W.heap.size bb.size [fdTx,fdTh] Fd.len (by decide)
     have bs:Below W2.heap.size W2 (W2.alloc (.cells #[.func (.func fdTx.f) #[] #[],.int .i64 fdTx.tb,.int .i64 fdTx.lo,.int .i64 fdTx.hi,.func (.func fdTh.f) #[] #[],.int .i64 fdTh.tb,.int .i64 fdTh.lo,.int .i64 fdTh.hi] 260)):=(Below.refl _ _).alloc (Nat.le_refl _) _
     generalize W2.alloc (.cells #[.func (.func fdTx.f) #[] #[],.int .i64 fdTx.tb,.int .i64 fdTx.lo,.int .i64 fdTx.hi,.func (.func fdTh.f) #[] #[],.int .i64 fdTh.tb,.int .i64 fdTh.lo,.int .i64 fdTh.hi] 260)=W3 at *
     have bb:=bb.trans (bs.mono bb.size)
     clear bs
     repeat refine wpL_nil ?_
     refine⟨?_,?_⟩
     ·
      refine wpL_k (fun K hK=>?_)
      go_simp
      refine hK _ _ (RN.KeepsN.alloc _ _ (by have:=bb.size;first|omega|exact this)) ?_
      clear hK K
      obtain⟨W4,hW4⟩:∃X,X=W3.alloc (.map #[] 0):=⟨_,rfl⟩
      change wpL _ _ _ _ _ (W3.alloc (.map #[] 0))
      rw[←hW4]
      have hbm:W.heap.size≤W3.heap.size:=bb.size
      have bs:Below W3.heap.size W3 W4:=by rw[hW4];exact(Below.refl _ W3).alloc (Nat.le_refl _) _
      have rm:W4.heap[W3.heap.size]?=some (.map #[] 0):=by rw[hW4];exact row_new W3 _
      have os:=OwnF.below os bs
      clear hW4
      have bb:=bb.trans (bs.mono bb.size)
      clear bs
      refine wpL_k (fun K hK=>?_)
      go_simp
      refine(e_list _ ⟨_,_,_,rfl⟩ _).mono ?_
      rintro e W5 ⟨rfl,hW5⟩
      have bs:Below W4.heap.size W4 W5:=by rw[hW5];exact(Below.refl _ W4).alloc (Nat.le_refl _) _
      have rl:=row_new W4 (.cells #[.slice (some ⟨W2.heap.size,0,none⟩) 2 2] 304)
      rw[←hW5] at rl
      refine hK _ _ (RN.KeepsN.of_below (bs.mono (by have:=bb.size;first|omega|exact this))) ?_
      clear hK K hW5
      have rm:=row_below rm bs (row_lt rm)
      have os:=OwnF.below os bs
      have bb:=bb.trans (bs.mono bb.size)
      clear bs
      refine wpL_e (fun K hK=>?_)
      refine(RawM.made rm).wp_store Tryz.underlying3 Tryz.underlying256 (a:=1) (.inr rfl) (by rfl) (by rfl) (by rfl) ?_
      intro X h1 t1
      refine hK _ _ ?_
      clear hK K
      have hne:=turned_cells t1 rl
      repeat first|(refine wpL_p fun K hK=>?_;go_simp;refine hK _ _ ?_;clear hK K)|refine wpL_nil ?_
      exact⟨_,_,_,rfl,rfl,h1,hne.trans rl,OwnF.kd os (Kd.turned (T:=fun _=>False) t1) (fun h=>h),bb.trans (Below.turned t1 (by exact hbm)),by exact hbm⟩
     ·
      refine wpL_k (fun K hK=>?_)
      go_simp
      refine(e_list _ ⟨_,_,_,rfl⟩ _).mono ?_
      rintro e W4 ⟨rfl,hW4⟩
      have bs:Below W3.heap.size W3 W4:=by rw[hW4];exact(Below.refl _ W3).alloc (Nat.le_refl _) _
      have rl:=row_new W3 (.cells #[.slice (some ⟨W2.heap.size,0,none⟩) 2 2] 304)
      rw[←hW4] at rl
      refine hK _ _ (RN.KeepsN.of_below (bs.mono (by have:=bb.size;first|omega|exact this))) ?_
      clear hK K hW4
      have os:=OwnF.below os bs
      have bb:=bb.trans (bs.mono bb.size)
      clear bs
      refine wpL_k (fun K hK=>?_)
      go_simp
      refine hK _ _ (RN.KeepsN.alloc _ _ (by have:=bb.size;first|omega|exact this)) ?_
      clear hK K
      obtain⟨W5,hW5⟩:∃X,X=W4.alloc (.map #[] 0):=⟨_,rfl⟩
      change wpL _ _ _ _ _ (W4.alloc (.map #[] 0))
      rw[←hW5]
      have hbm:W.heap.size≤W4.heap.size:=bb.size
      have bs:Below W4.heap.size W4 W5:=by rw[hW5];exact(Below.refl _ W4).alloc (Nat.le_refl _) _
      have rm:W5.heap[W4.heap.size]?=some (.map #[] 0):=by rw[hW5];exact row_new W4 _
      have os:=OwnF.below os bs
      have rl:=row_below rl bs (row_lt rl)
      clear hW5
      have bb:=bb.trans (bs.mono bb.size)
      clear bs
      refine wpL_e (fun K hK=>?_)
      refine(RawM.made rm).wp_store Tryz.underlying3 Tryz.underlying256 (a:=1) (.inr rfl) (by rfl) (by rfl) (by rfl) ?_
      intro X h1 t1
      refine hK _ _ ?_
      clear hK K
      have hne:=turned_cells t1 rl
      repeat first|(refine wpL_p fun K hK=>?_;go_simp;refine hK _ _ ?_;clear hK K)|refine wpL_nil ?_
      exact⟨_,_,_,rfl,rfl,h1,hne.trans rl,OwnF.kd os (Kd.turned (T:=fun _=>False) t1) (fun h=>h),bb.trans (Below.turned t1 (by exact hbm)),by exact hbm⟩
 ·rintro e a' X ⟨bm,bl,gs,rfl,rfl,hm,hl,hs,hb,hbm⟩
  have HM:FldInvG X W.heap.size bm (fun k=>k=1):=⟨_,hm,fun k hk=>⟨_,by rw[hk];exact rup_same,bl,_,rfl,hl,by rw[hk];exact hs⟩,fun k hk=>rup_ne (by omega)⟩
  have bX:=b0.trans (hb.mono b0.size)
  have rX:=row_below r0 hb l0
  have hWX:=hb.size
  have bW0:=b0.size
  clear hm hl hs hb y0 hmk r0
  have y0:=row_cell rX 0
  go_wp2_with fail
  clear y0
  have rg:=row_new X (.cells #[.int .i64 4,.int .i64 5,.int .i64 6,.int .i64 7] 3)
  have bg:=(Below.refl X.heap.size X).alloc (Nat.le_refl _) (.cells #[.int .i64 4,.int .i64 5,.int .i64 6,.int .i64 7] 3)
  have rX:=row_below rX bg (row_lt rX)
  have HM:=HM.below bg
  have bX:=bX.trans (bg.mono bX.size)
  have hWX:=Nat.le_trans hWX bg.size
  generalize X.alloc (.cells #[.int .i64 4,.int .i64 5,.int .i64 6,.int .i64 7] 3)=Y at *
  obtain⟨g,hg⟩:∃g,g=X.heap.size:=⟨_,rfl⟩
  rw[←hg] at rg ⊢
  clear hg bg
  go_loopw [14] (fun p wr=>∃i:Nat,i≤4∧p=.int .i64 i∧Below w.heap.size w wr∧W.heap.size≤wr.heap.size∧wr.heap[w.heap.size]?=some (.cells #[.func (.func 179) #[] #[]] 305 (0,0))∧wr.heap[g]?=some (.cells #[.int .i64 4,.int .i64 5,.int .i64 6,.int .i64 7] 3 (0,0))∧FldInvG wr W.heap.size bm (fun k=>k=1∨4≤k∧k < 4+i)) (fun p _=>4 - (intOf p).toNat)
  case atStart=>exact⟨0,by omega,by go_num,bX,hWX,rX,rg,let ⟨M,h1,h2,h0⟩:=HM;⟨M,h1,fun k hk=>h2 k (by simp only at hk;omega),h0⟩⟩
  case round=>
   obtain⟨i,hi,rfl,hB,hsz,r0,r1,hF⟩:=hrel
   have lg:=row_lt r1
   have l1:=row_lt r0
   have HB:=hid hB
   have HF:=hid hF
   clear hB hF bX rX rg HM
   by_cases hlt:i < 4
   ·have hk:wr.cell? ⟨g,i,none⟩=some (.int .i64 (4+i)):=by
     have c0:=row_cell r1 i
     rcases(show i=0∨i=1∨i=2∨i=3 by omega) with rfl|rfl|rfl|rfl <;> (rw[c0];rfl)
    have y0:=row_cell r0 0
    have R0:=hid r0
    have R1:=hid r1
    clear r0 r1
    obtain⟨wo,rfl⟩:∃wo,wo=wr:=⟨_,rfl⟩
    go_wp2_with fail
    have b0:=Below.refl wo.heap.size wo
    refine wp_rN (wo.heap.size) [0,0,1,3,3,3,2] (.fin [0,1,2,3,4,5,6]) (by kernel_rfl) ?_
    simp only[wpT,selX,guardAt,sD,sE,sF,sG]
    repeat first|(refine wpL_p fun K hK=>?_;go_simp;refine hK _ _ ?_;clear hK K)|(apply wpL_s;(intro w2 hw2;have hk1:=hw2.cell;have hk3:=hw2.1;clear hw2;go_simp;with_reducible rfl);simp only[Act.put,sA,sB,sC])
    refine wpL_k (fun K hK=>?_)
    go_simp
    refine(e_tx _).mono ?_
    rintro e W1 ⟨rfl,b1⟩
    refine hK _ _ (RN.KeepsN.of_below b1) ?_
    clear hK K
    have b1:Below wo.heap.size wo W1:=b0.drew.trans b1
    have z1:=b1.size
    refine wpL_k (fun K hK=>?_)
    go_simp
    refine hK _ _ (RN.KeepsN.alloc _ _ z1) ?_
    clear hK K
    have os:OwnF Fd.cells 260 4 (W1.alloc (.cells #[.func (.func fdTx.f) #[] #[],.int .i64 fdTx.tb,.int .i64 fdTx.lo,.int .i64 fdTx.hi] 260)) W.heap.size (.slice (some ⟨W1.heap.size,0,none⟩) 1 1) [fdTx]:=OwnF.lit (f:=Fd.cells) W1 W.heap.size (by omega) [fdTx] Fd.len (by decide)
    have b2:=(Below.refl W1.heap.size W1).alloc (Nat.le_refl _) (.cells #[.func (.func fdTx.f) #[] #[],.int .i64 fdTx.tb,.int .i64 fdTx.lo,.int .i64 fdTx.hi] 260)
    generalize W1.alloc (.cells #[.func (.func fdTx.f) #[] #[],.int .i64 fdTx.tb,.int .i64 fdTx.lo,.int .i64 fdTx.hi] 260)=W2 at *
    have z2:=b2.size
    refine wpL_k (fun K hK=>?_)
    go_simp
    refine(e_list _ ⟨_,_,_,rfl⟩ _).mono ?_
    rintro e W3 ⟨rfl,hW3⟩
    have b3:Below W2.heap.size W2 W3:=by rw[hW3];exact(Below.refl _ W2).alloc (Nat.le_refl _) _
    have rl:=row_new W2 (.cells #[.slice (some ⟨W1.heap.size,0,none⟩) 1 1] 304)
    rw[←hW3] at rl
    refine hK _ _ (RN.KeepsN.of_below (b3.mono (by omega))) ?_
    clear hK K hW3
    have os:=OwnF.below os b3
    have b4:=(b1.trans (b2.mono z1)).trans (b3.mono (by omega))
    have hF:=HF.out.below b4
    clear b1 b2 b3
    obtain⟨M,hM,hv,hno⟩:=hF
    have z4:=b4.size
    refine wpL_e (fun K hK=>?_)
    refine hM.wp_store Tryz.underlying3 Tryz.underlying256 (a:=4+i) (.inl rfl) (by rfl) (by rfl) (by rfl) ?_
    intro X1 h1 t1
    refine hK _ _ ?_
    clear hK K
    have n0:=turned_cells t1 (row_below R0.out b4 l1)
    have n1:=turned_cells t1 (row_below R1.out b4 lg)
    have n2:=turned_cells t1 rl
    have zt:=turned_size t1
    have F1:FldInvG X1 W.heap.size bm (fun k=>k=1∨4≤k∧k < 4+((i+1:Nat):Int)):=by
     refine⟨_,h1,fun k hk=>?_,fun k hk=>(rup_ne (by omega)).trans (hno k hk)⟩
     by_cases e:k=4+(i:Int)
     ·subst e
      exact⟨_,rup_same,_,_,rfl,n2.trans rl,by
       have:fdsOf (4+(i:Int))=[fdTx]:=by unfold fdsOf;rw[if_neg (by omega)]
       rw[this]
       exact OwnF.kd os (Kd.turned (T:=fun _=>False) t1) fun h=>h⟩
     ·obtain ⟨v,h3,h4⟩:=hv k (by have hk:k=1∨4≤k∧k < 4+((i+1:Nat):Int):=hk;show k=1∨4≤k∧k < 4+(i:Int);omega)
      exact⟨v,by rw[rup_ne e];exact h3,h4.turned t1⟩
    have B1:=hid ((HB.out.trans (b4.mono HB.out.size)).trans (Below.turned t1 (by have:=b0.size;have:=hbm;have:=bW0;omega)))
    have RR0:=hid (n0.trans (row_below R0.out b4 l1))
    have RR1:=hid (n1.trans (row_below R1.out b4 lg))
    have FF:=hid F1
    have zz:W.heap.size≤X1.heap.size:=by omega
    clear n0 n1 n2 zt F1 h1 t1 hM hv os rl b4
    repeat refine wpL_nil ?_
    go_wp2
    go_roundw
    case rel=>exact⟨i+1,by omega,by go_num,B1.out,zz,RR0.out,RR1.out,FF.out⟩
    case measure=>simp[intOf];omega
   ·obtain rfl:i=4:=by omega
    obtain⟨M,hM,hv,hno⟩:=HF.out
    have HNO:=hid hno
    clear hno
    have R0:=hid r0
    have HV:=hid hv
    clear r0 r1 HF hv
    go_wp2_with (at_mapUpdate;refine Stop.halt ?_)
    refine Stop.go ?_
    refine hM.wpList_store Tryz.underlying3 Tryz.underlying256 rfl (.inl rfl) (by rfl) (by rfl) (by rfl) ?_
    intro X1 h1 t1
    have z1:=turned_size t1
    go_wp2_with (at_mapUpdate;refine Stop.halt ?_)
    refine Stop.go ?_
    refine h1.wpList_store Tryz.underlying3 Tryz.underlying256 rfl (.inl rfl) (by rfl) (by rfl) (by rfl) ?_
    intro X2 h2 t2
    have HH:=hid h2
    have T1:=hid t1
    have T2:=hid t2
    clear h1 t1 t2 h2 z1 hM
    go_wp2
    go_ret
    have r1:=(turned_cells T1.out R0.out).trans R0.out
    have r2:=(turned_cells T2.out r1).trans r1
    refine⟨bm,rfl,⟨_,w.heap.size,HH.out,fun k hk=>?_,?_,?_,r2,by omega,fun k hk=>?_⟩,?_⟩
    ·obtain ⟨v,h3,h4⟩:=HV.out k (by show k=1∨4≤k∧k < 4+((4:Nat):Int);omega)
     refine⟨v,?_,?_⟩
     ·rw [rup_ne (by omega),rup_ne (by omega)];exact h3
     ·obtain ⟨bl,sv,h5,h6,h7⟩:=h4
      exact ClAt.turned (ClAt.turned ⟨bl,sv,h5,h6,OwnF.base h7 bW0⟩ T1.out) T2.out
    ·rw [rup_ne (by decide)];exact rup_same
    ·exact rup_same
    ·rw [rup_ne (by omega),rup_ne (by omega)];exact HNO.out k hk
    ·exact (HB.out.trans (Below.turned T1.out (by omega))).trans (Below.turned T2.out (by omega))
end
