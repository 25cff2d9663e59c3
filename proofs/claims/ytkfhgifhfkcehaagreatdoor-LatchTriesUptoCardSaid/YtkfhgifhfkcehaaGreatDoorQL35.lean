/- Parts of the proof, merged by program out of 1 texts (ToD): the first: The engine latch: it lets go, one by one. Conditions: those of each theorem, as typed. -/
import Derived.Test.YtkfhgifhfkcehaaGreatDoorQL34
set_option linter.unusedVariables false
set_option linter.unusedSimpArgs false
set_option linter.unusedSectionVars false
set_option maxRecDepth 100000
set_option maxHeartbeats 4000000
namespace Go.Proofs.YtkfhgifhfkcehaaGreatDoor
open Go.Maps Go.RowKit
section
attribute [local irreducible] wpL
def LsAt (w:World) (C:LC) (v:Value) (l:List Int):Prop:=∃(a:Option Addr) (cap:Nat),v=.slice a l.length cap∧(l≠[]→∃(g off:Nat) (cs:Array Value),a=some ⟨g,off,none⟩∧w.heap[g]?=some (.cells cs 3 (0,0))∧C.B≤g∧l.length≤cap∧∀(j:Nat) (x:Int),l[j]?=some x→cs[off+j]?=some (.int .i64 x))
section
variable {w w':World} {C:LC} {ve:Value} {P:Pg} {M:LM} {us:List (Value×Value)}
theorem LsAt.below {v:Value} {l:List Int} (h:LsAt w C v l) (hb:Below w.heap.size w w'):LsAt w' C v l:=by
 obtain⟨a,cap,e,h1⟩:=h
 refine⟨a,cap,e,fun hl=>?_⟩
 obtain⟨g,off,cs,e2,h2,r⟩:=h1 hl
 exact⟨g,off,cs,e2,row_below h2 hb (row_lt h2),r⟩
theorem LsAt.ofOwn {B:Nat} {v:Value} {l:List Int} (h:OwnI w B v l) (hB:C.B≤B):LsAt w C v l:=by
 obtain⟨a,c,rfl,hm⟩:=h.form2
 refine⟨a,c,rfl,fun hne=>?_⟩
 obtain⟨h1,⟨-,h2⟩|⟨g,cap,cur,hv,hg,hh,hle,hmx,hsz,htk⟩⟩:=h
 ·exact absurd (List.length_eq_zero_iff.1 h2) hne
 ·simp only[Value.slice.injEq] at hv
  obtain⟨rfl,-,rfl⟩:=hv
  refine⟨g,0,cur,rfl,hh,by omega,hle,fun j x hj=>?_⟩
  have hjl:=(List.getElem?_eq_some_iff.1 hj).1
  have h2:(cur.toList.take (l.length*1))[j]?=some (.int .i64 x):=by rw[htk,flat_int,List.getElem?_map,hj];rfl
  rw[List.getElem?_take_of_lt (by omega)] at h2
  simpa using h2
theorem la_mkAbort (b:Nat) (i:Int) (w:World):Calls Tryz.prog 60 #[.pointer (some ⟨b,0,none⟩),.int .i64 i] w fun e w'=>e=.returned (.func (.func 105) #[] #[.pointer (some ⟨w.heap.size,0,none⟩),.pointer (some ⟨w.heap.size+1,0,none⟩)])∧w'=(w.alloc (.cells #[.pointer (some ⟨b,0,none⟩)] 28)).alloc (.cells #[.int .i64 i] 3):=by
 go_enter Tryz.func60,Tryz.ntmps60
 go_wp2
 go_ret
 exact⟨rfl,rfl⟩
theorem la_release (h:LaAt w C ve us P M) (i:Nat) (v:Value) (l:List Int) (hv:LsAt w C v l) (hl4:l.length≤4):
  Calls Tryz.prog 61 #[.pointer (some ⟨C.bM,0,none⟩),.int .i64 i,v] w (LaNext C P i (M,.rel l) w):=by
 obtain⟨a,cap,rfl,hls⟩:=hv
 have bA:Below w.heap.size w (((w.alloc (.cells #[.pointer (some ⟨C.bM,0,none⟩)] 28)).alloc (.cells #[.int .i64 i] 3)).alloc (.cells #[.slice a l.length cap] 22)):=(((Below.refl w.heap.size w).alloc (Nat.le_refl _) _).alloc (by simp) _).alloc (by simp;omega) _
 have rA:=row_old (o:=.cells #[.slice a l.length cap] 22) (row_old (o:=.cells #[.int .i64 i] 3) (row_new w (.cells #[.pointer (some ⟨C.bM,0,none⟩)] 28)))
 have rB:=row_old (o:=.cells #[.slice a l.length cap] 22) (row_new' (w:=w.alloc (.cells #[.pointer (some ⟨C.bM,0,none⟩)] 28)) (o:=.cells #[.int .i64 i] 3) (g:=w.heap.size+1) (by simp))
 have rC:=row_new' (w:=(w.alloc (.cells #[.pointer (some ⟨C.bM,0,none⟩)] 28)).alloc (.cells #[.int .i64 i] 3)) (o:=.cells #[.slice a l.length cap] 22) (g:=w.heap.size+1+1) (by simp)
 have hB:=h.size
 have HA:=hid (h.below bA)
 have BA:=hid (bA.mono hB)
 have RA:=hid rA
 have RB:=hid rB
 have RC:=hid rC
 have HLS:=hid hls
 have BW:=hid bA
 clear bA rA rB rC h hls
 cases l with
 |nil=>
  go_enter Tryz.func61,Tryz.ntmps61
  go_wp2
  go_ret
  exact⟨_,ve,us,rfl,BA.out,HA.out,w.heap.size,w.heap.size+1,rfl,RA.out,RB.out,hB,by omega⟩
 |cons k l=>
  obtain⟨n,hn⟩:∃n,n=l.length+1:=⟨_,rfl⟩
  have hlen:(k::l).length=n:=by rw[hn];rfl
  have q0:((n:Int)==0)=false:=by simp;omega
  have HN:=hid hlen
  rw[hlen] at HA BA RA RB RC hl4 BW ⊢
  clear hlen hn
  go_enter Tryz.func61,Tryz.ntmps61
  go_wp2
  go_ret
  refine⟨_,ve,us,rfl,BA.out,HA.out,w.heap.size,w.heap.size+1,w.heap.size+1+1,rfl,⟨RA.out,RB.out,hB,by omega⟩,?_⟩
  obtain⟨g,off,cs,rfl,h1,h2,h3,h6⟩:=HLS.out (by simp)
  refine⟨g,off,cap,cs,?_,row_below h1 BW.out (row_lt h1),by omega,h2,h3,h6⟩
  rw[HN.out]
  exact RC.out
theorem la_rel1 (h:LaAt w C ve us P M) (i:Nat) (hi:i < P.threads.length) {t:Th} (ht:M.W.ths[i]?=some t) (hl:M.W.evs.length≤100000) {p1 p2:Nat} (hx:BxM w C i p1 p2):
  Calls Tryz.prog 107 #[.pointer (some ⟨p1,0,none⟩),.pointer (some ⟨p2,0,none⟩)] w (LaPost C P {M with W:=M.W.putO i (ansOf P i t 0 false)} .nilFunc w):=by
 have y0:=row_cell hx.1 0
 have y1:=row_cell hx.2.1 0
 have k0:=row_lt hx.1
 have k1:=row_lt hx.2.1
 have e0:=row_cell h.row 0
 have lm:=row_lt h.row
 have H:=hid h
 have HT:=hid ht
 clear h ht hx
 go_enter Tryz.func107,Tryz.ntmps107
 go_wp2_with fail
 refine wp_region_x [1,0,0,1,1,2] [0,1,2,3,4,5] (by kernel_rfl) ?_
 simp only[selX,guardAt,sD,sE,sF,sG]
 repeat first|(refine wpL_p fun K hK=>?_;go_simp;refine hK _ _ ?_;clear hK K)|(apply wpL_s;(intro w2 hw2;have hk1:=hw2.cell;have hk3:=hw2.heap;clear hw2;go_simp;with_reducible rfl);simp only[Act.put,sA,sB,sC])|refine wpL_yes rfl rfl ?_|(refine wpL_no rfl rfl fun K hK=>?_;simp only[Act.put,sA,sB,sC];refine hK _ _ ?_;clear hK K)|refine wpL_nil ?_
 refine wpL_e (fun K hK=>?_)
 go_simp
 refine(la_said (H.out.below (Below.refl _ w).drew) i hi HT.out 0 false (by omega) hl).mono ?_
 rintro e X2 ⟨rfl,hb,ve',us',hla⟩
 refine hK _ _ ?_
 clear hK K
 have B2:=hid ((Below.refl C.B w).drew.trans hb)
 have L2:=hid hla
 clear hb hla y0 y1 e0
 repeat first|(refine wpL_p fun K hK=>?_;go_simp;refine hK _ _ ?_;clear hK K)|(apply wpL_s;(intro w2 hw2;have hk1:=hw2.cell;have hk3:=hw2.heap;clear hw2;go_simp;with_reducible rfl);simp only[Act.put,sA,sB,sC])|refine wpL_yes rfl rfl ?_|(refine wpL_no rfl rfl fun K hK=>?_;simp only[Act.put,sA,sB,sC];refine hK _ _ ?_;clear hK K)|refine wpL_nil ?_
 go_wp2
 go_ret
 exact⟨rfl,B2.out,ve',us',L2.out⟩
theorem la_rel2 (h:LaAt w C ve us P M) (i:Nat) (hi:i < P.threads.length) (k:Int) (l:List Int) (hl4:(k::l).length≤4) (hk:∀z ∈ k::l,0≤z∧z < P.cells.length) {t:Th} {p1 p2 p3:Nat} (hx:BxM w C i p1 p2) (h3:LsBx w C p3 (k::l)):
  Calls Tryz.prog 108 #[.pointer (some ⟨p1,0,none⟩),.pointer (some ⟨p3,0,none⟩),.pointer (some ⟨p2,0,none⟩)] w (LaNext C P i (relStep P M i t (k::l)) w):=by
 obtain⟨gC,cc,hce⟩:=h.ceForm
 obtain⟨hk0,hk1⟩:=hk k (by simp)
 obtain⟨k,rfl⟩:∃z:Nat,k=z:=⟨k.toNat,by omega⟩
 have hc4:=h.ok.cells.2
 have hkn:k < P.cells.length:=by omega
 obtain⟨lC,c,hc,c0,c1⟩:=h.ceAt hce hkn
 obtain⟨L4,hBC,kd1,km1,ro⟩:=h.ceSet hce (k:=k) (j:=1) (c:=c) (u:=⟨c.val,0⟩) (a:=.int .i64 0) hc (by decide) rfl
 obtain⟨csr,hrC⟩:=h.ceRow hce
 have hst:relStep P M i t ((k:Int)::l)=({M with cs:=M.cs.set k ⟨c.val,0⟩},.rel l):=by
  simp[relStep,_root_.Go.Proofs.YtkfhgifhfkcehaaGreatDoor.ceAt,hc]
 rw[hst]
 obtain⟨g,off,cap,cs,r3,rg,hB3,hBg,hcap,hcs⟩:=h3
 obtain⟨n,hn⟩:∃n,n=((k:Int)::l).length:=⟨_,rfl⟩
 rw[←hn] at r3 hcap hl4
 have hn1:n=l.length+1:=by rw[hn];rfl
 have e1:=row_cell h.row 1
 rw[hce] at e1
 have lM:=row_lt h.row
 have y0:=row_cell hx.1 0
 have y1:=row_cell hx.2.1 0
 have y3:=row_cell r3 0
 have k0:=row_lt hx.1
 have k1:=row_lt hx.2.1
 have k3:=row_lt r3
 have kg:=row_lt rg
 have yg:w.cell? ⟨g,off,none⟩=some (.int .i64 (k:Int)):=by rw[row_cell rg off];have:=hcs 0 k rfl;simpa using this
 have ff1:=row_free hrC (k*2+1)
 have bx4:=hx.kd kd1 (by decide) (by decide)
 have b4:Below C.B w (w.setCell ⟨gC,k*2+1,none⟩ (.int .i64 0)):=(Below.refl _ w).setCell (p:=⟨gC,k*2+1,none⟩) hBC _
 have r34:=kd1 _ _ _ _ r3 (by decide)
 have rg4:=kd1 _ _ _ _ rg (by decide)
 have hv':∀X:World,X.heap[g]?=some (.cells cs 3 (0,0))→LsAt X C (.slice (if cap=1 then some ⟨g,off,none⟩ else some ⟨g,off+1,none⟩) (n - 1) (cap - 1)) l:=fun X hX=>by
  refine⟨_,_,by rw[show n - 1=l.length by omega],fun hne=>?_⟩
  have:l.length≠0:=fun e=>hne (List.length_eq_zero_iff.1 e)
  rw[if_neg (by omega)]
  refine⟨g,off+1,cs,rfl,hX,hBg,by omega,fun j x hj=>?_⟩
  have:=hcs (j+1) x (by simpa using hj)
  rwa [show off+1+j=off+(j+1) by omega]
 have hn2:(1:Int)≤(n:Int):=by omega
 have hn3:0 < n:=by omega
 have hn4:(0:Int) < (n:Int):=by omega
 have hl3:l.length≤4:=by omega
 have z4:(w.setCell ⟨gC,k*2+1,none⟩ (.int .i64 0)).heap.size=w.heap.size:=by simp
 have HL4:=hid L4
 have HX4:=hid bx4
 have HB4:=hid b4
 have HV:=hid hv'
 have R34:=hid r34
 have RG4:=hid rg4
 have HN:=hid hn
 clear h hx r3 rg hce hc L4 kd1 km1 ro hrC bx4 b4 hv' hst hcs r34 rg4 hn hk hn1
 go_enter Tryz.func108,Tryz.ntmps108
 go_wp2_with fail
 refine wp_region_x [1,0,0,1,1,0,1,0,0,2] [0,1,2,3,4,5,6,7,8,9] (by kernel_rfl) ?_
 simp only[selX,guardAt,sD,sE,sF,sG]
 repeat first|(refine wpL_p fun K hK=>?_;go_simp;refine hK _ _ ?_;clear hK K)|(apply wpL_s;(intro w2 hw2;have hk1:=hw2.cell;have hk3:=hw2.heap;clear hw2;go_simp;with_reducible rfl);simp only[Act.put,sA,sB,sC])|refine wpL_yes rfl rfl ?_|(refine wpL_no rfl rfl fun K hK=>?_;simp only[Act.put,sA,sB,sC];refine hK _ _ ?_;clear hK K)|refine wpL_nil ?_
 refine wpL_e (fun K hK=>?_)
 go_simp
 refine hK _ _ ?_
 clear hK K
 repeat first|(refine wpL_p fun K hK=>?_;go_simp;refine hK _ _ ?_;clear hK K)|(apply wpL_s;(intro w2 hw2;have hk1:=hw2.cell;have hk3:=hw2.heap;clear hw2;go_simp;with_reducible rfl);simp only[Act.put,sA,sB,sC])|refine wpL_yes rfl rfl ?_|(refine wpL_no rfl rfl fun K hK=>?_;simp only[Act.put,sA,sB,sC];refine hK _ _ ?_;clear hK K)|refine wpL_nil ?_
 clear y0 y1 y3 yg c0 c1 e1 ff1
 generalize w.setCell ⟨gC,k*2+1,none⟩ (.int .i64 0)=X at *
 have y0:=row_cell HX4.out.1 0
 have y1:=row_cell HX4.out.2.1 0
 have y3:=row_cell R34.out 0
 have k0:=row_lt HX4.out.1
 have k1:=row_lt HX4.out.2.1
 have k3:=row_lt R34.out
 go_wp2_with fail
 by_cases hc1:cap=1
 ·subst hc1
  refine wp_region_x [1,1,1,0,2,0] [0,1,2,3,4,5] (by kernel_rfl) ?_
  simp only[selX,guardAt,sD,sE,sF,sG]
  repeat first|(refine wpL_p fun K hK=>?_;go_simp;refine hK _ _ ?_;clear hK K)|(apply wpL_s;(intro w2 hw2;have hk1:=hw2.cell;have hk3:=hw2.heap;clear hw2;go_simp;with_reducible rfl);simp only[Act.put,sA,sB,sC])|refine wpL_yes rfl rfl ?_|(refine wpL_no rfl rfl fun K hK=>?_;simp only[Act.put,sA,sB,sC];refine hK _ _ ?_;clear hK K)|refine wpL_nil ?_
  refine wpL_e (fun K hK=>?_)
  go_simp
  refine(la_release (HL4.out.below (Below.refl _ X).drew.drew) i _ l (by have h9:=HV.out X.drew.drew RG4.out;first|exact h9|(rw[if_neg (by assumption)] at h9;exact h9)|(rw[show n - 1=0 by omega] at h9;exact h9)) hl3).mono ?_
  rintro e X2 ⟨v,ve',us',rfl,hb,hla,hx2⟩
  refine hK _ _ ?_
  clear hK K
  have B2:=hid (HB4.out.drew.drew.trans hb)
  have L2:=hid hla
  have X2':=hid hx2
  clear hb hla hx2 y0 y1 y3
  repeat first|(refine wpL_p fun K hK=>?_;go_simp;refine hK _ _ ?_;clear hK K)|(apply wpL_s;(intro w2 hw2;have hk1:=hw2.cell;have hk3:=hw2.heap;clear hw2;go_simp;with_reducible rfl);simp only[Act.put,sA,sB,sC])|refine wpL_yes rfl rfl ?_|(refine wpL_no rfl rfl fun K hK=>?_;simp only[Act.put,sA,sB,sC];refine hK _ _ ?_;clear hK K)|refine wpL_nil ?_
  go_wp2
  go_ret
  exact⟨v,ve',us',rfl,B2.out,L2.out,X2'.out⟩
 ·
  refine wp_region_x [1,1,1,0,2,0] [0,1,2,3,4,5] (by kernel_rfl) ?_
  simp only[selX,guardAt,sD,sE,sF,sG]
  repeat first|(refine wpL_p fun K hK=>?_;go_simp;refine hK _ _ ?_;clear hK K)|(apply wpL_s;(intro w2 hw2;have hk1:=hw2.cell;have hk3:=hw2.heap;clear hw2;go_simp;with_reducible rfl);simp only[Act.put,sA,sB,sC])|refine wpL_yes rfl rfl ?_|(refine wpL_no rfl rfl fun K hK=>?_;simp only[Act.put,sA,sB,sC];refine hK _ _ ?_;clear hK K)|refine wpL_nil ?_
  refine wpL_e (fun K hK=>?_)
  go_simp
  refine(la_release (HL4.out.below (Below.refl _ X).drew.drew) i _ l (by have h9:=HV.out X.drew.drew RG4.out;first|exact h9|(rw[if_neg (by assumption)] at h9;exact h9)|(rw[show n - 1=0 by omega] at h9;exact h9)) hl3).mono ?_
  rintro e X2 ⟨v,ve',us',rfl,hb,hla,hx2⟩
  refine hK _ _ ?_
  clear hK K
  have B2:=hid (HB4.out.drew.drew.trans hb)
  have L2:=hid hla
  have X2':=hid hx2
  clear hb hla hx2 y0 y1 y3
  repeat first|(refine wpL_p fun K hK=>?_;go_simp;refine hK _ _ ?_;clear hK K)|(apply wpL_s;(intro w2 hw2;have hk1:=hw2.cell;have hk3:=hw2.heap;clear hw2;go_simp;with_reducible rfl);simp only[Act.put,sA,sB,sC])|refine wpL_yes rfl rfl ?_|(refine wpL_no rfl rfl fun K hK=>?_;simp only[Act.put,sA,sB,sC];refine hK _ _ ?_;clear hK K)|refine wpL_nil ?_
  go_wp2
  go_ret
  exact⟨v,ve',us',rfl,B2.out,L2.out,X2'.out⟩
end
end
