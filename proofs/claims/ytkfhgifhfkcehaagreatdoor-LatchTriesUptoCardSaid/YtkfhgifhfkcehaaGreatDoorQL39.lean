/- Parts of the proof, merged by program out of 2 texts (ToF, ToG): the first: The engine latch: the closure that goes on. Conditions: those of each theorem, as typed. -/
import Derived.Test.YtkfhgifhfkcehaaGreatDoorQL38
set_option linter.unusedVariables false
set_option linter.unusedSimpArgs false
set_option linter.unusedSectionVars false
set_option maxRecDepth 100000
set_option maxHeartbeats 4000000
namespace Go.Proofs.YtkfhgifhfkcehaaGreatDoor
open Go.Maps Go.RowKit
section
attribute [local irreducible] wpL
section
variable {w w':World} {C:LC} {ve:Value} {P:Pg} {M:LM} {us:List (Value×Value)}
def GoBox (C:LC) (i p1 p2:Nat) (X:World):Prop:=X.heap[p1]?=some (.cells #[.pointer (some ⟨C.bD,0,none⟩)] 82 (0,0))∧X.heap[p2]?=some (.cells #[.int .i64 i] 3 (0,0))
theorem GoBox.below {i p1 p2:Nat} (h:GoBox C i p1 p2 w) (hb:Below w.heap.size w w'):GoBox C i p1 p2 w':=⟨row_below h.1 hb (row_lt h.1),row_below h.2 hb (row_lt h.2)⟩
theorem GoBox.kp {i p1 p2:Nat} (h:GoBox C i p1 p2 w) (hk:Kp Mw ve w w'):GoBox C i p1 p2 w':=⟨hk.rowW h.1 (by decide) (by decide) (by decide),hk.rowW h.2 (by decide) (by decide) (by decide)⟩
def GoMid (C:LC) (P:Pg) (us:List (Value×Value)) (w:World) (i p1 p2:Nat) (M':LM) (ek ex eh ej eo ey ev er:Int):Exit→Act→World→Prop:=fun e a' X=>
 ∃b3:Nat,e=.normal∧a'={tmps:=#[.pointer (some ⟨p1,0,none⟩),.pointer (some ⟨p2,0,none⟩),.nilFunc,.pointer (some ⟨b3,0,none⟩),.bool true,.tuple #[evV ⟨ek,ex,eh,ej,eo,ey,ev,er⟩,.bool true],.pointer (some ⟨C.bD,0,none⟩),.pointer (some ⟨C.bD,0,none⟩),.pointer (some ⟨C.bD,2,none⟩),.pointer (some ⟨C.bW,0,none⟩),.int .i64 i,.tuple #[evV ⟨ek,ex,eh,ej,eo,ey,ev,er⟩,.bool true],evV ⟨ek,ex,eh,ej,eo,ey,ev,er⟩,.bool true,undef,undef,undef,undef,undef,undef,undef,undef,undef],defers:=[]}∧X.heap[b3]?=some (.cells #[.int .i64 ek,.int .i64 ex,.int .i64 eh,.int .i64 ej,.int .i64 eo,.int .i64 ey,.int .i64 ev,.int .i64 er] 53 (0,0))∧Below C.B w X∧GoBox C i p1 p2 X∧∃ve',LaAt X C ve' us P M'
def GoMidZ (C:LC) (P:Pg) (us:List (Value×Value)) (w:World) (i p1 p2:Nat) (M':LM):Exit→Act→World→Prop:=fun e a' X=>
 ∃b3:Nat,e=.normal∧a'={tmps:=#[.pointer (some ⟨p1,0,none⟩),.pointer (some ⟨p2,0,none⟩),.nilFunc,.pointer (some ⟨b3,0,none⟩),.bool false,.tuple #[evV ⟨0,0,0,0,0,0,0,0⟩,.bool false],.pointer (some ⟨C.bD,0,none⟩),.pointer (some ⟨C.bD,0,none⟩),.pointer (some ⟨C.bD,2,none⟩),.pointer (some ⟨C.bW,0,none⟩),.int .i64 i,.tuple #[evV ⟨0,0,0,0,0,0,0,0⟩,.bool false],evV ⟨0,0,0,0,0,0,0,0⟩,.bool false,undef,undef,undef,undef,undef,undef,undef,undef,undef],defers:=[]}∧Below C.B w X∧∃ve',LaAt X C ve' us P M'
theorem nextOf_begun {P:Pg} {i:Nat} {t:Th} {y:Th×Ev} (h:nextOf P i t=some y) (hk:y.2.kind≠1):t.begun=true:=by
 cases hb:t.begun with
 |true=>rfl
 |false=>
  unfold nextOf at h
  split at h
  ·cases h
  ·simp only[hb,if_true] at h
   obtain rfl:=Option.some.inj h
   exact absurd (by simp[withTx,ownEv,hb,ev0]) hk
theorem la_goOn (h:LaAt w C ve us P M) (i:Nat) (hi:i < P.threads.length) {t:Th} (ht:M.W.ths[i]?=some t) (hl:M.W.evs.length≤100000) (hw0:t.begun=true→∃r s,M.ws[i]?=some (some (r,s))) {p1 p2:Nat} (hp:GoBox C i p1 p2 w):
  Calls Tryz.prog 114 #[.pointer (some ⟨p1,0,none⟩),.pointer (some ⟨p2,0,none⟩)] w (LaNext C P i (ownStep P M i t (woR M.ws[i]?)) w):=by
 have hn4:=h.ok.threads.2
 have d0:=row_cell hp.1 0
 have d1:=row_cell hp.2 0
 have l0:=row_lt hp.1
 have l1:=row_lt hp.2
 have hB:=h.size
 obtain⟨vs,hdr,-,-⟩:=h.dr
 have e2:w.cell? ⟨C.bD,2,none⟩=some (.pointer (some ⟨C.bW,0,none⟩)):=row_cell hdr.row 2
 have lD:=row_lt hdr.row
 have H:=hid h
 have HW:=hid hdr.walk
 have HP:=hid hp
 have HT:=hid ht
 have hcA:=hid (wk_next (hdr.walk.below (Below.refl _ w).drew) hB i hi ht hl)
 have hcB:=hid (fun o=>wk_next (hdr.walk.below (((Below.refl w.heap.size w).drew).alloc (Nat.le_refl _) o)) (by simp;omega) i hi ht hl)
 clear h hp hdr ht
 have hk4:∀y,nextOf P i t=some y→y.2.kind≠1→∃r s,M.ws[i]?=some (some (r,s)):=fun y hy hk=>hw0 (nextOf_begun hy hk)
 have hown:ownStep P M i t (woR M.ws[i]?)=(match nextOf P i t with|none=>(M,.none)|some y=>({M with W:=M.W.put i y,ws:=if y.2.kind=1 then M.ws.set i (some ([],[])) else M.ws},reactOf (woR M.ws[i]?) y.2)):=rfl
 rw[hown]
 clear hown hw0
 generalize nextOf P i t=r at *
 cases r with
 |none=>
  clear hk4
  go_enter Tryz.func114,Tryz.ntmps114
  go_wp2_with fail
  refine wp_mono (Q:=GoMidZ C P us w i p1 p2 M) ?_ ?_
  ·
   refine wp_rN (w.heap.size) [1,0,0,1,1,2,0,0,0,3,3,0] (.frk [0,1,2,3,4] (.fin [5,6,7,8,9,10,11]) (.fin [9,5,6,7,8,10,11])) (by kernel_rfl) ?_
   simp only[wpT,selX,guardAt,sD,sE,sF,sG]
   repeat first|(refine wpL_p fun K hK=>?_;go_simp;refine hK _ _ ?_;clear hK K)|(apply wpL_s;(intro w2 hw2;have hk1:=hw2.cell;have hk3:=hw2.1;clear hw2;go_simp;with_reducible rfl);simp only[Act.put,sA,sB,sC])|refine wpL_yes rfl rfl ?_|(refine wpL_no rfl rfl fun K hK=>?_;simp only[Act.put,sA,sB,sC];refine hK _ _ ?_;clear hK K)|refine wpL_nil ?_
   refine⟨?_,?_⟩
   ·refine wpL_e (fun K hK=>?_)
    go_simp
    refine(hcA.out).mono ?_
    rintro e X1 ⟨rfl,b1⟩
    refine hK _ _ ?_
    clear hK K
    have b1:Below w.heap.size w X1:=(Below.refl _ w).drew.trans b1
    have z1:=b1.size
    repeat first|(refine wpL_p fun K hK=>?_;go_simp;refine hK _ _ ?_;clear hK K)|(apply wpL_s;(intro w2 hw2;have hk1:=hw2.cell;have hk3:=hw2.1;clear hw2;go_simp;with_reducible rfl);simp only[Act.put,sA,sB,sC])|refine wpL_yes rfl rfl ?_|(refine wpL_no rfl rfl fun K hK=>?_;simp only[Act.put,sA,sB,sC];refine hK _ _ ?_;clear hK K)|refine wpL_nil ?_
    refine wpL_k (fun K hK=>?_)
    go_simp
    refine hK _ _ (RN.KeepsN.alloc _ _ (by first|omega|exact Nat.le_refl _)) ?_
    clear hK K
    refine wpL_k (fun K hK=>?_)
    go_simp
    refine hK _ _ (RN.KeepsN.refl _ _) ?_
    clear hK K
    repeat first|(refine wpL_p fun K hK=>?_;go_simp;refine hK _ _ ?_;clear hK K)|(apply wpL_s;(intro w2 hw2;have hk1:=hw2.cell;have hk3:=hw2.1;clear hw2;go_simp;with_reducible rfl);simp only[Act.put,sA,sB,sC])|refine wpL_yes rfl rfl ?_|(refine wpL_no rfl rfl fun K hK=>?_;simp only[Act.put,sA,sB,sC];refine hK _ _ ?_;clear hK K)|refine wpL_nil ?_
    have b3:=b1.alloc z1 (.cells #[.int .i64 0,.int .i64 0,.int .i64 0,.int .i64 0,.int .i64 0,.int .i64 0,.int .i64 0,.int .i64 0] 53)
    exact⟨X1.heap.size,rfl,rfl,b3.mono hB,ve,H.out.below b3⟩
   ·refine wpL_k (fun K hK=>?_)
    go_simp
    refine hK _ _ (RN.KeepsN.alloc _ _ (by first|omega|exact Nat.le_refl _)) ?_
    clear hK K
    refine wpL_e (fun K hK=>?_)
    go_simp
    refine(hcB.out _).mono ?_
    rintro e X1 ⟨rfl,b1⟩
    refine hK _ _ ?_
    clear hK K
    have RZ:=row_below (row_new' (w:=w.drew) (o:=.cells #[.int .i64 0,.int .i64 0,.int .i64 0,.int .i64 0,.int .i64 0,.int .i64 0,.int .i64 0,.int .i64 0] 53) (g:=w.heap.size) rfl) b1 (by simp)
    have b1:Below w.heap.size w X1:=((Below.refl _ w).drew.alloc (Nat.le_refl _) _).trans (b1.mono (by simp))
    have z1:=b1.size
    have lz:=row_lt RZ
    have yf:∀j,X1.frozen? ⟨w.heap.size,j,none⟩=false:=fun j=>row_free RZ j
    have yc:=row_cell RZ
    have y0:X1.cell? ⟨w.heap.size,0,none⟩=some (.int .i64 0):=yc 0
    have y1:X1.cell? ⟨w.heap.size,1,none⟩=some (.int .i64 0):=yc 1
    have y2:X1.cell? ⟨w.heap.size,2,none⟩=some (.int .i64 0):=yc 2
    have y3:X1.cell? ⟨w.heap.size,3,none⟩=some (.int .i64 0):=yc 3
    have y4:X1.cell? ⟨w.heap.size,4,none⟩=some (.int .i64 0):=yc 4
    have y5:X1.cell? ⟨w.heap.size,5,none⟩=some (.int .i64 0):=yc 5
    have y6:X1.cell? ⟨w.heap.size,6,none⟩=some (.int .i64 0):=yc 6
    have y7:X1.cell? ⟨w.heap.size,7,none⟩=some (.int .i64 0):=yc 7
    clear yc
    repeat first|(refine wpL_p fun K hK=>?_;go_simp;refine hK _ _ ?_;clear hK K)|(apply wpL_s;(intro w2 hw2;have hk1:=hw2.cell;have hk3:=hw2.1;clear hw2;go_simp;with_reducible rfl);simp only[Act.put,sA,sB,sC])|refine wpL_yes rfl rfl ?_|(refine wpL_no rfl rfl fun K hK=>?_;simp only[Act.put,sA,sB,sC];refine hK _ _ ?_;clear hK K)|refine wpL_nil ?_
    refine wpL_k (fun K hK=>?_)
    go_simp
    have WR6:=(((((((((Wr.start RZ).set 0 (.int .i64 0)).set 1 (.int .i64 0)).set 2 (.int .i64 0)).set 3 (.int .i64 0)).set 4 (.int .i64 0)).set 5 (.int .i64 0)).set 6 (.int .i64 0)).set 7 (.int .i64 0))
    generalize ((((((((X1).setCell ⟨w.heap.size,0,none⟩ (.int .i64 0)).setCell ⟨w.heap.size,1,none⟩ (.int .i64 0)).setCell ⟨w.heap.size,2,none⟩ (.int .i64 0)).setCell ⟨w.heap.size,3,none⟩ (.int .i64 0)).setCell ⟨w.heap.size,4,none⟩ (.int .i64 0)).setCell ⟨w.heap.size,5,none⟩ (.int .i64 0)).setCell ⟨w.heap.size,6,none⟩ (.int .i64 0)).setCell ⟨w.heap.size,7,none⟩ (.int .i64 0)=Y at *
    refine hK _ _ (RN.KeepsN.of_below (WR6.below (Nat.le_refl _))) ?_
    clear hK K
    repeat first|(refine wpL_p fun K hK=>?_;go_simp;refine hK _ _ ?_;clear hK K)|(apply wpL_s;(intro w2 hw2;have hk1:=hw2.cell;have hk3:=hw2.1;clear hw2;go_simp;with_reducible rfl);simp only[Act.put,sA,sB,sC])|refine wpL_yes rfl rfl ?_|(refine wpL_no rfl rfl fun K hK=>?_;simp only[Act.put,sA,sB,sC];refine hK _ _ ?_;clear hK K)|refine wpL_nil ?_
    have b3:=b1.trans (WR6.below (Nat.le_refl _))
    exact⟨w.heap.size,rfl,rfl,b3.mono hB,ve,H.out.below b3⟩
  ·rintro e a' X ⟨b3,rfl,rfl,hb,ve',hla⟩
   have HB:=hid hb
   have HL:=hid hla
   clear hb hla d0 d1 e2 hcA hcB
   go_wp2
   go_ret
   exact⟨_,ve',us,rfl,HB.out,HL.out,rfl⟩
 |some y=>
  obtain⟨t',ek,ex,eh,ej,eo,ey,ev,er⟩:=y
  obtain⟨Y0,hY0⟩:∃Y0:LM×Nx,Y0=({M with W:=M.W.put i (t',⟨ek,ex,eh,ej,eo,ey,ev,er⟩),ws:=if ek=1 then M.ws.set i (some ([],[])) else M.ws},reactOf (woR M.ws[i]?) ⟨ek,ex,eh,ej,eo,ey,ev,er⟩):=⟨_,rfl⟩
  show Calls _ _ _ _ (LaNext C P i ({M with W:=M.W.put i (t',⟨ek,ex,eh,ej,eo,ey,ev,er⟩),ws:=if ek=1 then M.ws.set i (some ([],[])) else M.ws},reactOf (woR M.ws[i]?) ⟨ek,ex,eh,ej,eo,ey,ev,er⟩) w)
  rw[←hY0]
  have hk4:ek≠1→∃r s,M.ws[i]?=some (some (r,s)):=hk4 _ rfl
  have HK4:=hid hk4
  clear hk4
  have HY0:=hid hY0
  clear hY0
  go_enter Tryz.func114,Tryz.ntmps114
  go_wp2_with fail
  refine wp_mono (Q:=GoMid C P us w i p1 p2 {M with W:=M.W.put i (t',⟨ek,ex,eh,ej,eo,ey,ev,er⟩)} ek ex eh ej eo ey ev er) ?_ ?_
  ·
   refine wp_rN (w.heap.size) [1,0,0,1,1,2,0,0,0,3,3,0] (.frk [0,1,2,3,4] (.fin [5,6,7,8,9,10,11]) (.fin [9,5,6,7,8,10,11])) (by kernel_rfl) ?_
   simp only[wpT,selX,guardAt,sD,sE,sF,sG]
   repeat first|(refine wpL_p fun K hK=>?_;go_simp;refine hK _ _ ?_;clear hK K)|(apply wpL_s;(intro w2 hw2;have hk1:=hw2.cell;have hk3:=hw2.1;clear hw2;go_simp;with_reducible rfl);simp only[Act.put,sA,sB,sC])|refine wpL_yes rfl rfl ?_|(refine wpL_no rfl rfl fun K hK=>?_;simp only[Act.put,sA,sB,sC];refine hK _ _ ?_;clear hK K)|refine wpL_nil ?_
   refine⟨?_,?_⟩
   ·refine wpL_e (fun K hK=>?_)
    go_simp
    refine(hcA.out).mono ?_
    rintro e X1 ⟨rfl,ve',hwk,hkp,hb,ho⟩
    refine hK _ _ ?_
    clear hK K
    have hkp:Kp Mw ve w X1:=(Kp.of_below (ev:=ve) (Below.refl w.heap.size w).drew).trans hkp fun _ h=>.inl h
    have hL:=H.out.walked hkp hwk ho
    have z1:w.heap.size≤X1.heap.size:=hkp.size
    have hb:Below C.B w X1:=(Below.refl _ w).drew.trans hb
    repeat first|(refine wpL_p fun K hK=>?_;go_simp;refine hK _ _ ?_;clear hK K)|(apply wpL_s;(intro w2 hw2;have hk1:=hw2.cell;have hk3:=hw2.1;clear hw2;go_simp;with_reducible rfl);simp only[Act.put,sA,sB,sC])|refine wpL_yes rfl rfl ?_|(refine wpL_no rfl rfl fun K hK=>?_;simp only[Act.put,sA,sB,sC];refine hK _ _ ?_;clear hK K)|refine wpL_nil ?_
    refine wpL_k (fun K hK=>?_)
    go_simp
    refine hK _ _ (RN.KeepsN.alloc _ _ (by first|omega|exact Nat.le_refl _)) ?_
    clear hK K
    refine wpL_k (fun K hK=>?_)
    go_simp
    refine hK _ _ (KeepsN.both (W:=X1) (RN.KeepsN.alloc _ _ z1) (RN.KeepsN.alloc _ _ z1) (by simp)) ?_
    clear hK K
    repeat first|(refine wpL_p fun K hK=>?_;go_simp;refine hK _ _ ?_;clear hK K)|(apply wpL_s;(intro w2 hw2;have hk1:=hw2.cell;have hk3:=hw2.1;clear hw2;go_simp;with_reducible rfl);simp only[Act.put,sA,sB,sC])|refine wpL_yes rfl rfl ?_|(refine wpL_no rfl rfl fun K hK=>?_;simp only[Act.put,sA,sB,sC];refine hK _ _ ?_;clear hK K)|refine wpL_nil ?_
    have b3:=(Below.refl X1.heap.size X1).alloc (Nat.le_refl _) (.cells #[.int .i64 ek,.int .i64 ex,.int .i64 eh,.int .i64 ej,.int .i64 eo,.int .i64 ey,.int .i64 ev,.int .i64 er] 53)
    exact⟨X1.heap.size,rfl,rfl,row_new X1 _,hb.alloc (by omega) _,(HP.out.kp hkp).below b3,ve',hL.below b3⟩
   ·refine wpL_k (fun K hK=>?_)
    go_simp
    refine hK _ _ (RN.KeepsN.alloc _ _ (by first|omega|exact Nat.le_refl _)) ?_
    clear hK K
    refine wpL_e (fun K hK=>?_)
    go_simp
    refine(hcB.out _).mono ?_
    rintro e X1 ⟨rfl,ve',hwk,hkp,hb,ho⟩
    refine hK _ _ ?_
    clear hK K
    have bz:Below w.heap.size w (w.drew.alloc (.cells #[.int .i64 0,.int .i64 0,.int .i64 0,.int .i64 0,.int .i64 0,.int .i64 0,.int .i64 0,.int .i64 0] 53)):=(Below.refl _ w).drew.alloc (Nat.le_refl _) _
    have RZ:X1.heap[w.heap.size]?=some (.cells #[.int .i64 0,.int .i64 0,.int .i64 0,.int .i64 0,.int .i64 0,.int .i64 0,.int .i64 0,.int .i64 0] 53 (0,0)):=hkp.cells _ _ _ _ (row_new' (w:=w.drew) (o:=.cells #[.int .i64 0,.int .i64 0,.int .i64 0,.int .i64 0,.int .i64 0,.int .i64 0,.int .i64 0,.int .i64 0] 53) (g:=w.heap.size) rfl) (by unfold Mw;decide) (fun _ e=>by have:=(HW.out.evs.lt _ e).2;omega)
    have hkp:Kp Mw ve w X1:=(Kp.of_below (ev:=ve) bz).trans hkp fun _ h=>.inl h
    have ho':∀k,ve'.ownBlock=some k→ve.ownBlock=some k∨w.heap.size < k:=fun k e=>(ho k e).imp id fun h=>by simp at h;omega
    have z1:w.heap.size≤X1.heap.size:=hkp.size
    have hb:Below C.B w X1:=(bz.mono hB).trans hb
    have lz:=row_lt RZ
    have yf:∀j,X1.frozen? ⟨w.heap.size,j,none⟩=false:=fun j=>row_free RZ j
    have yc:=row_cell RZ
    have y0:X1.cell? ⟨w.heap.size,0,none⟩=some (.int .i64 0):=yc 0
    have y1:X1.cell? ⟨w.heap.size,1,none⟩=some (.int .i64 0):=yc 1
    have y2:X1.cell? ⟨w.heap.size,2,none⟩=some (.int .i64 0):=yc 2
    have y3:X1.cell? ⟨w.heap.size,3,none⟩=some (.int .i64 0):=yc 3
    have y4:X1.cell? ⟨w.heap.size,4,none⟩=some (.int .i64 0):=yc 4
    have y5:X1.cell? ⟨w.heap.size,5,none⟩=some (.int .i64 0):=yc 5
    have y6:X1.cell? ⟨w.heap.size,6,none⟩=some (.int .i64 0):=yc 6
    have y7:X1.cell? ⟨w.heap.size,7,none⟩=some (.int .i64 0):=yc 7
    clear yc
    repeat first|(refine wpL_p fun K hK=>?_;go_simp;refine hK _ _ ?_;clear hK K)|(apply wpL_s;(intro w2 hw2;have hk1:=hw2.cell;have hk3:=hw2.1;clear hw2;go_simp;with_reducible rfl);simp only[Act.put,sA,sB,sC])|refine wpL_yes rfl rfl ?_|(refine wpL_no rfl rfl fun K hK=>?_;simp only[Act.put,sA,sB,sC];refine hK _ _ ?_;clear hK K)|refine wpL_nil ?_
    refine wpL_k (fun K hK=>?_)
    go_simp
    have WR6:=(((((((((Wr.start RZ).set 0 (.int .i64 ek)).set 1 (.int .i64 ex)).set 2 (.int .i64 eh)).set 3 (.int .i64 ej)).set 4 (.int .i64 eo)).set 5 (.int .i64 ey)).set 6 (.int .i64 ev)).set 7 (.int .i64 er))
    generalize ((((((((X1).setCell ⟨w.heap.size,0,none⟩ (.int .i64 ek)).setCell ⟨w.heap.size,1,none⟩ (.int .i64 ex)).setCell ⟨w.heap.size,2,none⟩ (.int .i64 eh)).setCell ⟨w.heap.size,3,none⟩ (.int .i64 ej)).setCell ⟨w.heap.size,4,none⟩ (.int .i64 eo)).setCell ⟨w.heap.size,5,none⟩ (.int .i64 ey)).setCell ⟨w.heap.size,6,none⟩ (.int .i64 ev)).setCell ⟨w.heap.size,7,none⟩ (.int .i64 er)=Y at *
    refine hK _ _ (RN.KeepsN.of_below (WR6.below (Nat.le_refl _))) ?_
    clear hK K
    repeat first|(refine wpL_p fun K hK=>?_;go_simp;refine hK _ _ ?_;clear hK K)|(apply wpL_s;(intro w2 hw2;have hk1:=hw2.cell;have hk3:=hw2.1;clear hw2;go_simp;with_reducible rfl);simp only[Act.put,sA,sB,sC])|refine wpL_yes rfl rfl ?_|(refine wpL_no rfl rfl fun K hK=>?_;simp only[Act.put,sA,sB,sC];refine hK _ _ ?_;clear hK K)|refine wpL_nil ?_
    obtain⟨hw2,hk2⟩:=HW.out.wrR hwk hkp ho' rfl WR6
    exact⟨w.heap.size,rfl,rfl,WR6.row,hb.trans (WR6.below hB),HP.out.kp hk2,ve',H.out.walked hk2 hw2 fun k e=>(ho' k e).imp id fun h=>by omega⟩
  ·rintro e a' X ⟨b3,rfl,rfl,r3,hb,hgb,ve',hla⟩
   have HB:=hid hb
   have HL:=hid hla
   have x0:=row_cell hgb.1 0
   have x1:=row_cell hgb.2 0
   have lx0:=row_lt hgb.1
   have lx1:=row_lt hgb.2
   obtain⟨vs',hdr,-⟩:=hla.dr
   have x4:X.cell? ⟨C.bD,4,none⟩=some (.func (.func 35) #[.pointer (some ⟨C.bM,0,none⟩)] #[]):=row_cell hdr.row 4
   have lxD:=row_lt hdr.row
   have R3:=hid r3
   have qc:=row_cell R3.out
   have q0:X.cell? ⟨b3,0,none⟩=some (.int .i64 ek):=qc 0
   have q1:X.cell? ⟨b3,1,none⟩=some (.int .i64 ex):=qc 1
   have q2:X.cell? ⟨b3,2,none⟩=some (.int .i64 eh):=qc 2
   have q3:X.cell? ⟨b3,3,none⟩=some (.int .i64 ej):=qc 3
   have q4:X.cell? ⟨b3,4,none⟩=some (.int .i64 eo):=qc 4
   have q5:X.cell? ⟨b3,5,none⟩=some (.int .i64 ey):=qc 5
   have q6:X.cell? ⟨b3,6,none⟩=some (.int .i64 ev):=qc 6
   have q7:X.cell? ⟨b3,7,none⟩=some (.int .i64 er):=qc 7
   clear qc
   have lx3:=row_lt R3.out
   clear hb hgb hla hdr r3 d0 d1 e2 hcA hcB
   go_wp2_with fail
   have hfin:Calls Tryz.prog 35 #[.pointer (some ⟨C.bM,0,none⟩),.int .i64 i,evV ⟨ek,ex,eh,ej,eo,ey,ev,er⟩] X.drew (LaNext C P i Y0 X.drew):=by
    by_cases he:ek=1
    ·subst he
     rw[HY0.out]
     exact la_react1 (HL.out.below (Below.refl _ X).drew) i hi ex eh ej eo ey ev er
    ·rw [HY0.out,if_neg he]
     obtain⟨r,s,hws⟩:=HK4.out he
     exact la_react (HL.out.below (Below.refl _ X).drew) i hi ek ex eh ej eo ey ev er he hws
   have HF:=hid hfin
   clear hfin
   refine wp_region_x [1,0,0,1,1,1,2,0] [0,1,2,3,4,5,6,7] (by kernel_rfl) ?_
   simp only[selX,guardAt,sD,sE,sF,sG]
   repeat first|(refine wpL_p fun K hK=>?_;go_simp;refine hK _ _ ?_;clear hK K)|(apply wpL_s;(intro w2 hw2;have hk1:=hw2.cell;have hk3:=hw2.heap;clear hw2;go_simp;with_reducible rfl);simp only[Act.put,sA,sB,sC])|refine wpL_yes rfl rfl ?_|(refine wpL_no rfl rfl fun K hK=>?_;simp only[Act.put,sA,sB,sC];refine hK _ _ ?_;clear hK K)|refine wpL_nil ?_
   refine wpL_e (fun K hK=>?_)
   go_simp
   refine(HF.out).mono ?_
   rintro e X1 ⟨v,ve',us',rfl,hb,hla,hx⟩
   refine hK _ _ ?_
   clear hK K HF
   have HB1:=hid (HB.out.trans ((Below.refl C.B X).drew.trans hb))
   have HL1:=hid hla
   have HX1:=hid hx
   clear hb hla hx x0 x1 x4 q0 q1 q2 q3 q4 q5 q6 q7
   repeat first|(refine wpL_p fun K hK=>?_;go_simp;refine hK _ _ ?_;clear hK K)|(apply wpL_s;(intro w2 hw2;have hk1:=hw2.cell;have hk3:=hw2.heap;clear hw2;go_simp;with_reducible rfl);simp only[Act.put,sA,sB,sC])|refine wpL_yes rfl rfl ?_|(refine wpL_no rfl rfl fun K hK=>?_;simp only[Act.put,sA,sB,sC];refine hK _ _ ?_;clear hK K)|refine wpL_nil ?_
   go_wp2
   go_ret
   exact⟨_,ve',us',rfl,HB1.out,HL1.out,HX1.out⟩
end
end
section
attribute [local irreducible] wpL
section
variable {w w':World} {C:LC} {ve:Value} {P:Pg} {M:LM} {us:List (Value×Value)}
theorem NxAt.form {i:Nat} {v:Value} {x:Nx} (h:NxAt w C i ve v x):v=.nilFunc∨∃f a c,v=.func f a c:=by
 cases x with
 |none=>exact .inl h
 |abort=>obtain⟨_,_,rfl,-⟩:=h;exact .inr ⟨_,_,_,rfl⟩
 |rel l=>
  cases l
  ·obtain ⟨_,_,rfl,-⟩:=h;exact .inr ⟨_,_,_,rfl⟩
  ·obtain ⟨_,_,_,rfl,-⟩:=h;exact .inr ⟨_,_,_,rfl⟩
 |ans e=>obtain⟨_,_,_,rfl,-⟩:=h;exact .inr ⟨_,_,_,rfl⟩
theorem LaAt.drRow (h:LaAt w C ve us P M):w.heap[C.bD]?=some (.cells #[C.pc,C.pt,.pointer (some ⟨C.bW,0,none⟩),.slice (some ⟨C.gN,0,none⟩) P.threads.length P.threads.length,C.rf] 129 (0,0)):=let ⟨_,h1,_⟩:=h.dr;h1.row
theorem LaAt.nxRow (h:LaAt w C ve us P M):∃cs,w.heap[C.gN]?=some (.cells cs 131 (0,0)):=by
 obtain⟨_,h1,_⟩:=h.dr
 exact h1.next.keepObj C.gN rfl
theorem LaAt.nxB (h:LaAt w C ve us P M):C.B≤C.gN:=by
 obtain⟨_,h1,_⟩:=h.dr
 exact(h1.next.lt C.gN rfl).1
theorem LaAt.nxCell (h:LaAt w C ve us P M) {i:Nat} (hi:i < P.threads.length):∃v,w.cell? ⟨C.gN,i,none⟩=some v:=by
 obtain⟨vs,h1,_⟩:=h.dr
 obtain⟨g,u,hg,-,-,hu⟩:=h1.next.at1 h1.next.len hi
 simp only[Option.some.injEq,Addr.mk.injEq,and_true] at hg
 subst hg
 exact⟨u,hu⟩
theorem LaAt.nxAt (h:LaAt w C ve us P M) {i:Nat} (hi:i < P.threads.length):∃v x,w.cell? ⟨C.gN,i,none⟩=some v∧M.nx[i]?=some x∧NxAt w C i ve v x:=by
 obtain⟨vs,h1,h2,h3⟩:=h.dr
 obtain⟨g,u,hg,-,hv,hu⟩:=h1.next.at1 h1.next.len hi
 simp only[Option.some.injEq,Addr.mk.injEq,and_true] at hg
 subst hg
 obtain⟨x,hx⟩:∃x,M.nx[i]?=some x:=⟨_,List.getElem?_eq_getElem (by omega)⟩
 exact⟨u,x,hu,hx,h3 i u x hv hx⟩
def Ms (t:TypeId):Prop:=t=131
theorem DrAt.setNext {B bD bW gT gN:Nat} {vc vt pc pt rf:Value} {S:Wst} {nx:List Value} (h:DrAt w B bD bW gT gN vc vt ve pc pt rf P S nx) (i:Nat) (v:Value):DrAt (w.setCell ⟨gN,i,none⟩ v) B bD bW gT gN vc vt ve pc pt rf P S (nx.set i v):=by
 obtain⟨cs,hr⟩:=h.next.keepObj gN rfl
 have hk:Kd Ms w (w.setCell ⟨gN,i,none⟩ v):=Kd.set (T:=Ms) hr rfl v
 exact⟨hk _ _ _ _ h.row (by unfold Ms;decide),h.hB,⟨hk _ _ _ _ h.walk.row (by unfold Ms;decide),h.walk.hB,OwnF.kd h.walk.cells hk (by unfold Ms;decide),h.walk.thr.kd hk (by unfold Ms;decide) (by unfold Ms;decide) (by unfold Ms;decide),OwnF.kd h.walk.ths hk (by unfold Ms;decide),OwnF.kd h.walk.evs hk (by unfold Ms;decide),h.walk.ok,h.walk.tok⟩,OwnF.kd h.pcells hk (by unfold Ms;decide),h.pthr.kd hk (by unfold Ms;decide) (by unfold Ms;decide) (by unfold Ms;decide),own_set1 h.next v i⟩
theorem LaAt.nxSet (h:LaAt w C ve us P M) {i:Nat} (hi:i < P.threads.length) {v:Value} {x:Nx} (hx:NxAt w C i ve v x):LaAt (w.setCell ⟨C.gN,i,none⟩ v) C ve us P {M with nx:=M.nx.set i x}:=by
 obtain⟨cs,hr⟩:=h.nxRow
 obtain⟨vs,h1,h2,h3⟩:=h.dr
 have hk:Kd Ms w (w.setCell ⟨C.gN,i,none⟩ v):=Kd.set (T:=Ms) hr rfl v
 have kp:∀{j:Nat} {u:Value} {z:Nx},NxAt w C j ve u z→NxAt (w.setCell ⟨C.gN,i,none⟩ v) C j ve u z:=fun hn=>NxAt.keep hn (fun p u hp=>hk _ _ _ _ hp (by unfold Ms;decide)) (fun p u hp=>hk _ _ _ _ hp (by unfold Ms;decide)) (fun p u hp=>hk _ _ _ _ hp (by unfold Ms;decide)) fun p cs hp he=>⟨hk _ _ _ _ hp (by unfold Ms;decide),he⟩
 refine⟨hk _ _ _ _ h.row (by unfold Ms;decide),h.hB,⟨vs.set i v,h1.setNext i v,by rw[List.length_set];exact h2,fun j u z hu hz=>?_⟩,OwnF.kd h.cells hk (by unfold Ms;decide),h.clen,h.wks.keep (OwnF.kd h.wks.own hk (by unfold Ms;decide)) (KmAll.set hr v),fun k cs hf=>hk _ _ _ _ (h.fr k cs hf) (by unfold Ms;decide)⟩
 by_cases e:i=j
 ·subst e
  rw[List.getElem?_set_self (by have:=(List.getElem?_eq_some_iff.1 hu).1;simpa using this)] at hu
  rw[List.getElem?_set_self (by have:=(List.getElem?_eq_some_iff.1 hz).1;simpa using this)] at hz
  obtain rfl:=Option.some.inj hu
  obtain rfl:=Option.some.inj hz
  exact kp hx
 ·rw [List.getElem?_set_ne e] at hu hz
  exact kp (h3 j u z hu hz)
def StepMidXX (C:LC) (P:Pg) (w:World) (i:Nat) (fid:FuncId) (caps:Array Value) (y:LM×Nx):Exit→Act→World→Prop:=fun e a' X=>
 ∃(v:Value),e=.normal∧a'={tmps:=#[.pointer (some ⟨C.bD,0,none⟩),.int .i64 i,undef,undef,.bool false,.func (.func fid) #[] caps,.pointer (some ⟨C.bD,0,none⟩),.pointer (some ⟨C.bD,0,none⟩),.pointer (some ⟨C.bD,2,none⟩),.pointer (some ⟨C.bW,0,none⟩),.int .i64 i,.bool false,.pointer (some ⟨C.bD,0,none⟩),.pointer (some ⟨C.bD,0,none⟩),.pointer (some ⟨C.bD,3,none⟩),.slice (some ⟨C.gN,0,none⟩) P.threads.length P.threads.length,.int .i64 i,.pointer (some ⟨C.gN,i,none⟩),.func (.func fid) #[] caps,.func (.func fid) #[] caps,.bool false,undef,undef,undef,.pointer (some ⟨C.bD,0,none⟩),.pointer (some ⟨C.bD,0,none⟩),.pointer (some ⟨C.bD,3,none⟩),.slice (some ⟨C.gN,0,none⟩) P.threads.length P.threads.length,.int .i64 i,.func (.func fid) #[] caps,v,.pointer (some ⟨C.gN,i,none⟩)],defers:=[]}∧Below C.B w X∧∃ve' us',LaAt X C ve' us' P {y.1 with nx:=y.1.nx.set i y.2}
theorem d_stepXX (h:LaAt w C ve us P M) (i:Nat) (hi:i < P.threads.length) (hd:wDone P M.W i=false) {fid:FuncId} {caps:Array Value} (hv:w.cell? ⟨C.gN,i,none⟩=some (.func (.func fid) #[] caps)) {y:LM×Nx} (hent:∀(args:Array Value) (w:World),Sem.run Tryz.prog (callFunc fid args) w=.ok (.enter fid args) w)
  (hc:∀w',Below w.heap.size w w'→Calls Tryz.prog fid caps w' (LaNext C P i y w')):
  Calls Tryz.prog 36 #[.pointer (some ⟨C.bD,0,none⟩),.int .i64 i] w (LaPost C P {y.1 with nx:=y.1.nx.set i y.2} (.bool true) w):=by
 have hn4:=h.ok.threads.2
 have hdr:=h.drRow
 have d2:=row_cell hdr 2
 have d3:=row_cell hdr 3
 have lD:=row_lt hdr
 obtain⟨csN,rN⟩:=h.nxRow
 have lN:=row_lt rN
 obtain⟨vs,hdr2,-,-⟩:=h.dr
 have hwd:=hid (wk_done hdr2.walk i)
 have H:=hid h
 have HC:=hid (hc w.drew.drew ((Below.refl w.heap.size w).drew.drew))
 have HCA:=hid hc
 have qn:Sem.run Tryz.prog (binOp BinOp.eql 131 (.func (.func fid) #[] caps) Value.nilFunc) w.drew=.ok (.bool false) w.drew:=by kernel_rfl
 have BW:=hid (Below.refl C.B w).drew
 rw[hd] at hwd
 clear h hc hdr hdr2 rN
 go_enter Tryz.func36,Tryz.ntmps36
 go_wp2_with fail
 refine(hwd.out).mono ?_
 rintro e w1 ⟨rfl,rfl⟩
 go_wp2_with fail
 refine wp_mono (Q:=StepMidXX C P w i fid caps y) ?_ ?_
 ·
  refine wp_rN (w.heap.size) [0,0,0,1,0,0,2,0,2] (.frk [0,1,2,4,5] (.fin [3,6,7,8]) (.fin [6,3,7,8])) (by kernel_rfl) ?_
  simp only[wpT,selX,guardAt,sD,sE,sF,sG]
  repeat first|(refine wpL_p fun K hK=>?_;go_simp;refine hK _ _ ?_;clear hK K)|(apply wpL_s;(intro w2 hw2;have hk1:=hw2.cell;have hk3:=hw2.1;clear hw2;go_simp;with_reducible rfl);simp only[Act.put,sA,sB,sC])|refine wpL_yes rfl rfl ?_|(refine wpL_no rfl rfl fun K hK=>?_;simp only[Act.put,sA,sB,sC];refine hK _ _ ?_;clear hK K)|refine wpL_nil ?_
  refine⟨?_,?_⟩
  ·
   repeat first|(refine wpL_p fun K hK=>?_;go_simp;refine hK _ _ ?_;clear hK K)|(apply wpL_s;(intro w2 hw2;have hk1:=hw2.cell;have hk3:=hw2.1;clear hw2;go_simp;with_reducible rfl);simp only[Act.put,sA,sB,sC])|refine wpL_yes rfl rfl ?_|(refine wpL_no rfl rfl fun K hK=>?_;simp only[Act.put,sA,sB,sC];refine hK _ _ ?_;clear hK K)|refine wpL_nil ?_
   refine wpL_e (fun K hK=>?_)
   go_simp
   refine(HC.out).mono ?_
   rintro e X1 ⟨v,ve',us',rfl,hb,hla,hx⟩
   refine hK _ _ ?_
   clear hK K
   have hb1:Below C.B w.drew X1:=(Below.refl C.B w.drew).drew.trans hb
   have f2:=hla.nxCell hi
   have f3:=hla.nxRow
   have f4:=row_lt hla.drRow
   have f5:=row_lt f3.choose_spec
   have f6:=row_free f3.choose_spec i
   have f7:X1.cell? ⟨C.bD,3,none⟩=some (.slice (some ⟨C.gN,0,none⟩) P.threads.length P.threads.length):=row_cell hla.drRow 3
   obtain⟨ov,f2⟩:=f2
   have HL1:=hid hla
   have HX1:=hid hx
   have HB1:=hid hb1
   clear hb hla hx f3 hb1
   rcases HX1.out.form with rfl|⟨fa,fb,fc,rfl⟩
   all_goals
    repeat first|(refine wpL_p fun K hK=>?_;go_simp;refine hK _ _ ?_;clear hK K)|(apply wpL_s;(intro w2 hw2;have hk1:=hw2.cell;have hk3:=hw2.1;clear hw2;go_simp;with_reducible rfl);simp only[Act.put,sA,sB,sC])|refine wpL_yes rfl rfl ?_|(refine wpL_no rfl rfl fun K hK=>?_;simp only[Act.put,sA,sB,sC];refine hK _ _ ?_;clear hK K)|refine wpL_nil ?_
    refine wpL_e (fun K hK=>?_)
    go_simp
    refine hK _ _ ?_
    clear hK K
    repeat first|(refine wpL_p fun K hK=>?_;go_simp;refine hK _ _ ?_;clear hK K)|(apply wpL_s;(intro w2 hw2;have hk1:=hw2.cell;have hk3:=hw2.1;clear hw2;go_simp;with_reducible rfl);simp only[Act.put,sA,sB,sC])|refine wpL_yes rfl rfl ?_|(refine wpL_no rfl rfl fun K hK=>?_;simp only[Act.put,sA,sB,sC];refine hK _ _ ?_;clear hK K)|refine wpL_nil ?_
    exact⟨_,rfl,rfl,(BW.out.trans HB1.out).setCell (p:=⟨C.gN,i,none⟩) HL1.out.nxB _,ve',us',HL1.out.nxSet hi HX1.out⟩
  ·
   repeat first|(refine wpL_p fun K hK=>?_;go_simp;refine hK _ _ ?_;clear hK K)|(apply wpL_s;(intro w2 hw2;have hk1:=hw2.cell;have hk3:=hw2.1;clear hw2;go_simp;with_reducible rfl);simp only[Act.put,sA,sB,sC])|refine wpL_yes rfl rfl ?_|(refine wpL_no rfl rfl fun K hK=>?_;simp only[Act.put,sA,sB,sC];refine hK _ _ ?_;clear hK K)|refine wpL_nil ?_
   refine wpL_e (fun K hK=>?_)
   go_simp
   refine(HC.out).mono ?_
   rintro e X1 ⟨v,ve',us',rfl,hb,hla,hx⟩
   refine hK _ _ ?_
   clear hK K
   have hb1:Below C.B w.drew X1:=(Below.refl C.B w.drew).drew.trans hb
   have f2:=hla.nxCell hi
   have f3:=hla.nxRow
   have f4:=row_lt hla.drRow
   have f5:=row_lt f3.choose_spec
   have f6:=row_free f3.choose_spec i
   have f7:X1.cell? ⟨C.bD,3,none⟩=some (.slice (some ⟨C.gN,0,none⟩) P.threads.length P.threads.length):=row_cell hla.drRow 3
   obtain⟨ov,f2⟩:=f2
   have HL1:=hid hla
   have HX1:=hid hx
   have HB1:=hid hb1
   clear hb hla hx f3 hb1
   rcases HX1.out.form with rfl|⟨fa,fb,fc,rfl⟩
   all_goals
    repeat first|(refine wpL_p fun K hK=>?_;go_simp;refine hK _ _ ?_;clear hK K)|(apply wpL_s;(intro w2 hw2;have hk1:=hw2.cell;have hk3:=hw2.1;clear hw2;go_simp;with_reducible rfl);simp only[Act.put,sA,sB,sC])|refine wpL_yes rfl rfl ?_|(refine wpL_no rfl rfl fun K hK=>?_;simp only[Act.put,sA,sB,sC];refine hK _ _ ?_;clear hK K)|refine wpL_nil ?_
    refine wpL_e (fun K hK=>?_)
    go_simp
    refine hK _ _ ?_
    clear hK K
    repeat first|(refine wpL_p fun K hK=>?_;go_simp;refine hK _ _ ?_;clear hK K)|(apply wpL_s;(intro w2 hw2;have hk1:=hw2.cell;have hk3:=hw2.1;clear hw2;go_simp;with_reducible rfl);simp only[Act.put,sA,sB,sC])|refine wpL_yes rfl rfl ?_|(refine wpL_no rfl rfl fun K hK=>?_;simp only[Act.put,sA,sB,sC];refine hK _ _ ?_;clear hK K)|refine wpL_nil ?_
    exact⟨_,rfl,rfl,(BW.out.trans HB1.out).setCell (p:=⟨C.gN,i,none⟩) HL1.out.nxB _,ve',us',HL1.out.nxSet hi HX1.out⟩
 ·rintro e a' X ⟨v,rfl,rfl,hb,ve',us',hla⟩
  have HB:=hid hb
  have HL:=hid hla
  clear hb hla HC
  go_wp2
  go_ret
  exact⟨rfl,HB.out,ve',us',HL.out⟩
def StepMidGO (C:LC) (P:Pg) (w:World) (i:Nat) (p1 p2:Nat) (y:LM×Nx):Exit→Act→World→Prop:=fun e a' X=>
 ∃(v:Value),e=.normal∧a'={tmps:=#[.pointer (some ⟨C.bD,0,none⟩),.int .i64 i,undef,undef,.bool false,.func (.func 114) #[] #[.pointer (some ⟨p1,0,none⟩),.pointer (some ⟨p2,0,none⟩)],.pointer (some ⟨C.bD,0,none⟩),.pointer (some ⟨C.bD,0,none⟩),.pointer (some ⟨C.bD,2,none⟩),.pointer (some ⟨C.bW,0,none⟩),.int .i64 i,.bool false,.pointer (some ⟨C.bD,0,none⟩),.pointer (some ⟨C.bD,0,none⟩),.pointer (some ⟨C.bD,3,none⟩),.slice (some ⟨C.gN,0,none⟩) P.threads.length P.threads.length,.int .i64 i,.pointer (some ⟨C.gN,i,none⟩),.nilFunc,.nilFunc,.bool true,.pointer (some ⟨C.bD,0,none⟩),.int .i64 i,.func (.func 114) #[] #[.pointer (some ⟨p1,0,none⟩),.pointer (some ⟨p2,0,none⟩)],.pointer (some ⟨C.bD,0,none⟩),.pointer (some ⟨C.bD,0,none⟩),.pointer (some ⟨C.bD,3,none⟩),.slice (some ⟨C.gN,0,none⟩) P.threads.length P.threads.length,.int .i64 i,.func (.func 114) #[] #[.pointer (some ⟨p1,0,none⟩),.pointer (some ⟨p2,0,none⟩)],v,.pointer (some ⟨C.gN,i,none⟩)],defers:=[]}∧Below C.B w X∧∃ve' us',LaAt X C ve' us' P {y.1 with nx:=y.1.nx.set i y.2}
theorem d_goOn (b:Nat) (i:Int) (w:World):Calls Tryz.prog 67 #[.pointer (some ⟨b,0,none⟩),.int .i64 i] w fun e w'=>e=.returned (.func (.func 114) #[] #[.pointer (some ⟨w.heap.size,0,none⟩),.pointer (some ⟨w.heap.size+1,0,none⟩)])∧w'=(w.alloc (.cells #[.pointer (some ⟨b,0,none⟩)] 82)).alloc (.cells #[.int .i64 i] 3):=by
 go_enter Tryz.func67,Tryz.ntmps67
 go_wp2
 go_ret
 exact⟨rfl,rfl⟩
theorem d_stepGO (h:LaAt w C ve us P M) (i:Nat) (hi:i < P.threads.length) (hd:wDone P M.W i=false) (hv:w.cell? ⟨C.gN,i,none⟩=some .nilFunc) {y:LM×Nx}
  (hc:∀w' p1 p2,Below w.heap.size w w'→GoBox C i p1 p2 w'→Calls Tryz.prog 114 #[.pointer (some ⟨p1,0,none⟩),.pointer (some ⟨p2,0,none⟩)] w' (LaNext C P i y w')):
  Calls Tryz.prog 36 #[.pointer (some ⟨C.bD,0,none⟩),.int .i64 i] w (LaPost C P {y.1 with nx:=y.1.nx.set i y.2} (.bool true) w):=by
 have hn4:=h.ok.threads.2
 have hdr:=h.drRow
 have d2:=row_cell hdr 2
 have d3:=row_cell hdr 3
 have lD:=row_lt hdr
 obtain⟨csN,rN⟩:=h.nxRow
 have lN:=row_lt rN
 obtain⟨vs,hdr2,-,-⟩:=h.dr
 have hwd:=hid (wk_done hdr2.walk i)
 have H:=hid h
 have HCA:=hid hc
 have qn:Sem.run Tryz.prog (binOp BinOp.eql 131 .nilFunc Value.nilFunc) w.drew=.ok (.bool true) w.drew:=by kernel_rfl
 rw[hd] at hwd
 clear h hc hdr hdr2 rN
 go_enter Tryz.func36,Tryz.ntmps36
 go_wp2_with fail
 refine(hwd.out).mono ?_
 rintro e w1 ⟨rfl,rfl⟩
 go_wp2_with fail
 refine(d_goOn _ _ _).mono ?_
 rintro e w1 ⟨rfl,hw1⟩
 have bX:Below w.heap.size w w1:=by rw[hw1];exact((Below.refl w.heap.size w).drew.alloc (Nat.le_refl _) _).alloc (by simp) _
 have hgb:GoBox C i w.heap.size (w.heap.size+1) w1:=by
  rw[hw1]
  exact⟨row_old (row_new' (w:=w.drew) rfl),row_new' (by simp)⟩
 obtain⟨p1,hp1⟩:∃p,p=w.heap.size:=⟨_,rfl⟩
 obtain⟨p2,hp2⟩:∃p,p=w.heap.size+1:=⟨_,rfl⟩
 have d3:=cell_below bX lD d3
 have zX:=bX.size
 have hBw:=H.out.size
 have HC:=hid (HCA.out w1.drew _ _ (bX.drew) (show GoBox C i w.heap.size (w.heap.size+1) w1.drew from hgb))
 have BW:=hid (bX.mono hBw)
 have lDX:C.bD < w1.heap.size:=by omega
 have e1:w.drew.heap.size=w.heap.size:=rfl
 rw[e1]
 rw[←hp2,←hp1] at HC ⊢
 have HP:=hid (And.intro hp1 hp2)
 clear hw1 bX hgb qn hp1 hp2 e1 d2
 go_wp2_with fail
 refine wp_mono (Q:=StepMidGO C P w i p1 p2 y) ?_ ?_
 ·
  refine wp_rN (w.heap.size) [0,0,0,1,0,0,2,0,2] (.frk [0,1,2,4,5] (.fin [3,6,7,8]) (.fin [6,3,7,8])) (by kernel_rfl) ?_
  simp only[wpT,selX,guardAt,sD,sE,sF,sG]
  repeat first|(refine wpL_p fun K hK=>?_;go_simp;refine hK _ _ ?_;clear hK K)|(apply wpL_s;(intro w2 hw2;have hk1:=hw2.cell;have hk3:=hw2.1;clear hw2;go_simp;with_reducible rfl);simp only[Act.put,sA,sB,sC])|refine wpL_yes rfl rfl ?_|(refine wpL_no rfl rfl fun K hK=>?_;simp only[Act.put,sA,sB,sC];refine hK _ _ ?_;clear hK K)|refine wpL_nil ?_
  refine⟨?_,?_⟩
  ·
   repeat first|(refine wpL_p fun K hK=>?_;go_simp;refine hK _ _ ?_;clear hK K)|(apply wpL_s;(intro w2 hw2;have hk1:=hw2.cell;have hk3:=hw2.1;clear hw2;go_simp;with_reducible rfl);simp only[Act.put,sA,sB,sC])|refine wpL_yes rfl rfl ?_|(refine wpL_no rfl rfl fun K hK=>?_;simp only[Act.put,sA,sB,sC];refine hK _ _ ?_;clear hK K)|refine wpL_nil ?_
   refine wpL_e (fun K hK=>?_)
   go_simp
   refine(HC.out).mono ?_
   rintro e X1 ⟨v,ve',us',rfl,hb,hla,hx⟩
   refine hK _ _ ?_
   clear hK K
   have hb1:Below C.B w1 X1:=(Below.refl C.B w1).drew.trans hb
   have f2:=hla.nxCell hi
   have f3:=hla.nxRow
   have f4:=row_lt hla.drRow
   have f5:=row_lt f3.choose_spec
   have f6:=row_free f3.choose_spec i
   have f7:X1.cell? ⟨C.bD,3,none⟩=some (.slice (some ⟨C.gN,0,none⟩) P.threads.length P.threads.length):=row_cell hla.drRow 3
   obtain⟨ov,f2⟩:=f2
   have HL1:=hid hla
   have HX1:=hid hx
   have HB1:=hid hb1
   clear hb hla hx f3 hb1
   rcases HX1.out.form with rfl|⟨fa,fb,fc,rfl⟩
   all_goals
    repeat first|(refine wpL_p fun K hK=>?_;go_simp;refine hK _ _ ?_;clear hK K)|(apply wpL_s;(intro w2 hw2;have hk1:=hw2.cell;have hk3:=hw2.1;clear hw2;go_simp;with_reducible rfl);simp only[Act.put,sA,sB,sC])|refine wpL_yes rfl rfl ?_|(refine wpL_no rfl rfl fun K hK=>?_;simp only[Act.put,sA,sB,sC];refine hK _ _ ?_;clear hK K)|refine wpL_nil ?_
    refine wpL_e (fun K hK=>?_)
    go_simp
    refine hK _ _ ?_
    clear hK K
    repeat first|(refine wpL_p fun K hK=>?_;go_simp;refine hK _ _ ?_;clear hK K)|(apply wpL_s;(intro w2 hw2;have hk1:=hw2.cell;have hk3:=hw2.1;clear hw2;go_simp;with_reducible rfl);simp only[Act.put,sA,sB,sC])|refine wpL_yes rfl rfl ?_|(refine wpL_no rfl rfl fun K hK=>?_;simp only[Act.put,sA,sB,sC];refine hK _ _ ?_;clear hK K)|refine wpL_nil ?_
    exact⟨_,rfl,rfl,(BW.out.trans HB1.out).setCell (p:=⟨C.gN,i,none⟩) HL1.out.nxB _,ve',us',HL1.out.nxSet hi HX1.out⟩
  ·
   repeat first|(refine wpL_p fun K hK=>?_;go_simp;refine hK _ _ ?_;clear hK K)|(apply wpL_s;(intro w2 hw2;have hk1:=hw2.cell;have hk3:=hw2.1;clear hw2;go_simp;with_reducible rfl);simp only[Act.put,sA,sB,sC])|refine wpL_yes rfl rfl ?_|(refine wpL_no rfl rfl fun K hK=>?_;simp only[Act.put,sA,sB,sC];refine hK _ _ ?_;clear hK K)|refine wpL_nil ?_
   refine wpL_e (fun K hK=>?_)
   go_simp
   refine(HC.out).mono ?_
   rintro e X1 ⟨v,ve',us',rfl,hb,hla,hx⟩
   refine hK _ _ ?_
   clear hK K
   have hb1:Below C.B w1 X1:=(Below.refl C.B w1).drew.trans hb
   have f2:=hla.nxCell hi
   have f3:=hla.nxRow
   have f4:=row_lt hla.drRow
   have f5:=row_lt f3.choose_spec
   have f6:=row_free f3.choose_spec i
   have f7:X1.cell? ⟨C.bD,3,none⟩=some (.slice (some ⟨C.gN,0,none⟩) P.threads.length P.threads.length):=row_cell hla.drRow 3
   obtain⟨ov,f2⟩:=f2
   have HL1:=hid hla
   have HX1:=hid hx
   have HB1:=hid hb1
   clear hb hla hx f3 hb1
   rcases HX1.out.form with rfl|⟨fa,fb,fc,rfl⟩
   all_goals
    repeat first|(refine wpL_p fun K hK=>?_;go_simp;refine hK _ _ ?_;clear hK K)|(apply wpL_s;(intro w2 hw2;have hk1:=hw2.cell;have hk3:=hw2.1;clear hw2;go_simp;with_reducible rfl);simp only[Act.put,sA,sB,sC])|refine wpL_yes rfl rfl ?_|(refine wpL_no rfl rfl fun K hK=>?_;simp only[Act.put,sA,sB,sC];refine hK _ _ ?_;clear hK K)|refine wpL_nil ?_
    refine wpL_e (fun K hK=>?_)
    go_simp
    refine hK _ _ ?_
    clear hK K
    repeat first|(refine wpL_p fun K hK=>?_;go_simp;refine hK _ _ ?_;clear hK K)|(apply wpL_s;(intro w2 hw2;have hk1:=hw2.cell;have hk3:=hw2.1;clear hw2;go_simp;with_reducible rfl);simp only[Act.put,sA,sB,sC])|refine wpL_yes rfl rfl ?_|(refine wpL_no rfl rfl fun K hK=>?_;simp only[Act.put,sA,sB,sC];refine hK _ _ ?_;clear hK K)|refine wpL_nil ?_
    exact⟨_,rfl,rfl,(BW.out.trans HB1.out).setCell (p:=⟨C.gN,i,none⟩) HL1.out.nxB _,ve',us',HL1.out.nxSet hi HX1.out⟩
 ·rintro e a' X ⟨v,rfl,rfl,hb,ve',us',hla⟩
  have HB:=hid hb
  have HL:=hid hla
  clear hb hla HC
  go_wp2
  go_ret
  exact⟨rfl,HB.out,ve',us',HL.out⟩
end
end
