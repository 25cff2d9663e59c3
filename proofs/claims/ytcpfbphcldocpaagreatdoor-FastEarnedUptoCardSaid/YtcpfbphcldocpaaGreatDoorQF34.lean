/- Parts of the proof, merged by program out of 2 texts (FtR, FtT): the first: The chapter's example (law 12's history), the document's copy of events, its equality of steps. Conditions: those of each theorem, as typed. -/
import Derived.Test.YtcpfbphcldocpaaGreatDoorQF01
import Derived.Test.YtcpfbphcldocpaaGreatDoorQF21
import Derived.Test.YtcpfbphcldocpaaGreatDoorQF02
import Derived.Test.YtcpfbphcldocpaaGreatDoorQF33
import Derived.Test.YtcpfbphcldocpaaGreatDoorQF30
set_option linter.unusedVariables false
set_option linter.unusedSimpArgs false
set_option linter.unusedSectionVars false
set_option maxRecDepth 100000
set_option maxHeartbeats 4000000
namespace Go.Proofs.YtcpfbphcldocpaaGreatDoor
open Go.Maps Go.RowKit
section
attribute [local irreducible] wpL
theorem x_read (c:Int) (w:World):Calls Tryz.prog 62 #[.int .i64 c] w fun e w'=>∃v,e=.returned v∧OwnF Ev.cells 69 8 w' w.heap.size v (exRd c)∧Below w.heap.size w w':=by
 have hO:=OwnF.lit (f:=Ev.cells) (e:=69) (sz:=8) w w.heap.size (Nat.le_refl _) (exRd c) Ev.len (by simp[exRd])
 have hB:Below w.heap.size w (w.alloc (.cells ((exRd c).flatMap Ev.cells).toArray 69)):=(Below.refl _ w).alloc (Nat.le_refl _) _
 go_enter Tryz.func62,Tryz.ntmps62
 go_wp2
 go_ret
 exact⟨_,rfl,hO,hB⟩
theorem x_write (c:Int) (w:World):Calls Tryz.prog 63 #[.int .i64 c] w fun e w'=>∃v,e=.returned v∧OwnF Ev.cells 69 8 w' w.heap.size v (exWr c)∧Below w.heap.size w w':=by
 have hO:=OwnF.lit (f:=Ev.cells) (e:=69) (sz:=8) w w.heap.size (Nat.le_refl _) (exWr c) Ev.len (by simp[exWr])
 have hB:Below w.heap.size w (w.alloc (.cells ((exWr c).flatMap Ev.cells).toArray 69)):=(Below.refl _ w).alloc (Nat.le_refl _) _
 go_enter Tryz.func63,Tryz.ntmps63
 go_wp2
 go_ret
 exact⟨_,rfl,hO,hB⟩
theorem u_Events (v:Value) (l:List Ev) (w:World) (h:Sl w w.heap.size 8 v l.length (l.flatMap Ev.cells)) (hl:l.length≤100000):
  Calls Tryz.prog 27 #[v] w fun e w'=>∃v',e=.returned v'∧OwnF Ev.cells 69 8 w' w.heap.size v' l∧Below w.heap.size w w':=by
 obtain⟨sa,sc,rfl,-⟩:=h.ex
 have H:=hid h
 clear h
 go_enter Tryz.func27,Tryz.ntmps27
 go_wp2_with (at_make;refine wpList_makeF (f:=Ev.cells) (e:=69) (sz:=8) (B:=w.heap.size) rfl _ _ _ rfl _ 64 Tryz.underlying23 infoE rfl rfl (by first|omega|(simp <;> omega)) (by first|omega|(simp <;> omega)) (by first|omega|(simp <;> omega)) ?_;refine Stop.halt ?_)
 refine Stop.go ?_
 intro w1 o1 b1 z1
 have B1:=hid b1
 have O1:=hid o1
 clear b1 o1
 go_wp2_with fail
 go_loopw [3,4] (fun v p wr=>∃(k:Nat),k≤l.length∧p=.int .i64 k∧OwnF Ev.cells 69 8 wr w.heap.size v (l.take k)∧Below w.heap.size w wr) (fun _ p _=>l.length - (intOf p).toNat)
 case atStart=>exact⟨0,by omega,by go_num,O1.out,B1.out⟩
 case round=>
  obtain⟨k,hk,rfl,hO,hB⟩:=hrel
  obtain⟨ao,co,rfl⟩:=OwnF.slv hO
  have hlo:(l.take k).length=k:=by rw[List.length_take];omega
  rw[hlo] at hO ⊢
  have zB:=hB.size
  have HB:=hid hB
  have HO:=hid hO
  clear hB hO
  by_cases hlt:k < l.length
  ·obtain ⟨b,off,c,rfl,hb,hc,hcc⟩:=(H.out.below HB.out).atF Ev.len rfl hlt
   have hbz:b < wr.heap.size:=by omega
   have HC:=hid hc
   have c0:=hcc 0 (by omega)
   have c1:=hcc 1 (by omega)
   have c2:=hcc 2 (by omega)
   have c3:=hcc 3 (by omega)
   have c4:=hcc 4 (by omega)
   have c5:=hcc 5 (by omega)
   have c6:=hcc 6 (by omega)
   have c7:=hcc 7 (by omega)
   simp only[Ev.cells,Nat.add_zero,List.getElem?_cons_zero,List.getElem?_cons_succ] at c0 c1 c2 c3 c4 c5 c6 c7
   clear hc hcc
   go_wp2_with (at_builtin;refine wpList_appF rfl _ _ _ rfl _ 64 Tryz.underlying23 infoE rfl HO.out c (by first|omega|(simp <;> omega)) (by rfl) (by rfl) (by first|rfl|simp) rfl (ev_one _) (by first|omega|(simp only[List.length_append,List.length_cons,List.length_nil,List.length_replicate];omega)) (by first|omega|(simp only[List.length_append,List.length_cons,List.length_nil,List.length_replicate];omega)) ?_;refine Stop.halt ?_)
   refine Stop.go ?_
   intro g5 c5 w5 o5 G5
   have B5:=hid (HB.out.trans (G5.below zB fun q h=>(HO.out.lt q h).1))
   have O5:=hid o5
   clear o5 G5 c0 c1 c2 c3 c4 c6 c7
   go_wp2_with fail
   go_roundw
   case rel=>exact⟨k+1,by omega,by go_num,by rw[take_step HC.out];exact O5.out,B5.out⟩
   case measure=>simp[intOf];omega
  ·obtain rfl:k=l.length:=by omega
   rw[List.take_length] at HO
   go_wp2
   go_ret
   exact⟨_,rfl,HO.out,HB.out⟩
theorem sameStep_eq (a:Int) (b:Bool) (w:World):Calls Tryz.prog 64 #[.agg #[.int .i64 a,.bool b],.agg #[.int .i64 a,.bool b]] w fun e w'=>e=.returned (.bool true)∧Below w.heap.size w w':=by
 have hb:Below w.heap.size w ((w.alloc (.cells #[.int .i64 a,.bool b] 87)).alloc (.cells #[.int .i64 a,.bool b] 87)):=((Below.refl _ w).alloc (Nat.le_refl _) _).alloc (by simp) _
 have ha:(a==a)=true:=by simp
 have hc:(b==b)=true:=by simp
 go_enter Tryz.func64,Tryz.ntmps64
 go_wp2
 go_ret
 exact⟨rfl,hb⟩
theorem sameSteps_eq (v1 v2:Value) (l:List (Int×Bool)) (n:Nat) (w:World) (hn:l.length=n) (h1:Sl w w.heap.size 2 v1 n (l.flatMap stpC)) (h2:Sl w w.heap.size 2 v2 n (l.flatMap stpC)):
  Calls Tryz.prog 29 #[v1,v2] w fun e w'=>e=.returned (.bool true)∧Below w.heap.size w w':=by
 obtain⟨a1,c1,rfl,m1⟩:=h1.ex
 obtain⟨a2,c2,rfl,m2⟩:=h2.ex
 have H1:=hid h1
 have H2:=hid h2
 have HN:=hid hn
 clear h1 h2 hn
 have hb:((n:Int) !=(n:Int))=false:=by simp
 go_enter Tryz.func29,Tryz.ntmps29
 go_wp2
 go_loopw [5] (fun i wr=>∃k:Nat,k≤n∧i=.int .i64 k∧Below w.heap.size w wr) (fun i _=>n - (intOf i).toNat)
 case atStart=>exact⟨0,by omega,rfl,Below.refl _ _⟩
 case round=>
  obtain⟨k,hk,rfl,hB⟩:=hrel
  by_cases hlt:k < n
  ·obtain ⟨b1,o1,x,rfl,-,gx,hc⟩:=(H1.out.below hB).atF stpC_len HN.out hlt
   obtain⟨b2,o2,y,rfl,-,gy,hd⟩:=(H2.out.below hB).atF stpC_len HN.out hlt
   obtain rfl:x=y:=by rw[gx] at gy;exact Option.some.inj gy
   clear gx gy
   have c0:=hc 0 (by omega)
   have c1:=hc 1 (by omega)
   have d0:=hd 0 (by omega)
   have d1:=hd 1 (by omega)
   clear hc hd
   simp only[stpC,Nat.add_zero,List.getElem?_cons_zero,List.getElem?_cons_succ] at c0 c1 d0 d1
   have HB:=hid hB
   clear hB
   go_wp2
   refine wp_region_x [0,0,0,1,0,0,0,1,2,0] [0,1,2,3,4,5,6,7,8,9] (by kernel_rfl) ?_
   simp only[selX,guardAt,sD,sE,sF,sG]
   repeat first|(refine wpL_p fun K hK=>?_;go_simp;refine hK _ _ ?_;clear hK K)|(apply wpL_s;(intro w2 hw2;have hk1:=hw2.cell;have hk3:=hw2.heap;clear hw2;go_simp;with_reducible rfl);simp only[Act.put,sA,sB,sC])|refine wpL_yes rfl rfl ?_|(refine wpL_no rfl rfl fun K hK=>?_;simp only[Act.put,sA,sB,sC];refine hK _ _ ?_;clear hK K)|refine wpL_nil ?_
   refine wpL_e (fun K hK=>?_)
   go_simp
   refine(sameStep_eq _ _ _).mono ?_
   rintro e w2 ⟨rfl,b2⟩
   refine hK _ _ ?_
   clear hK K
   have HB2:=hid (HB.out.drew.trans (b2.mono HB.out.size))
   clear b2
   repeat first|(refine wpL_p fun K hK=>?_;go_simp;refine hK _ _ ?_;clear hK K)|(apply wpL_s;(intro w2 hw2;have hk1:=hw2.cell;have hk3:=hw2.heap;clear hw2;go_simp;with_reducible rfl);simp only[Act.put,sA,sB,sC])|refine wpL_yes rfl rfl ?_|(refine wpL_no rfl rfl fun K hK=>?_;simp only[Act.put,sA,sB,sC];refine hK _ _ ?_;clear hK K)|refine wpL_nil ?_
   go_wp2
   go_roundw
   case rel=>exact⟨k+1,by omega,by go_num,HB2.out⟩
   case measure=>simp[intOf];omega
  ·go_wp2
   go_ret
   exact⟨rfl,hB⟩
theorem x_Example (w:World):Calls Tryz.prog 26 #[] w fun e w'=>∃ov vv,e=.returned (.agg #[ov,vv])∧OwnF Ob.cells 62 2 w' w.heap.size ov [⟨1,0⟩]∧OwnF Ev.cells 69 8 w' w.heap.size vv exE∧Below w.heap.size w w':=by
 have b0:Below w.heap.size w (w.alloc (.cells #[.slice none 0 0,.slice none 0 0] 25)):=(Below.refl _ w).alloc (Nat.le_refl _) _
 have o0:OwnF Ev.cells 69 8 ((w.alloc (.cells #[.slice none 0 0,.slice none 0 0] 25)).alloc (.cells #[.int .i64 1,.int .i64 1,.int .i64 0,.int .i64 0,.int .i64 0,.int .i64 0,.int .i64 0,.int .i64 0,.int .i64 1,.int .i64 2,.int .i64 1,.int .i64 0,.int .i64 0,.int .i64 0,.int .i64 0,.int .i64 0] 69)) w.heap.size (.slice (some ⟨w.heap.size+1,0,none⟩) 2 2) [⟨1,1,0,0,0,0,0,0⟩,⟨1,2,1,0,0,0,0,0⟩]:=by
  have:=OwnF.lit (f:=Ev.cells) (e:=69) (sz:=8) (w.alloc (.cells #[.slice none 0 0,.slice none 0 0] 25)) w.heap.size (by simp) [⟨1,1,0,0,0,0,0,0⟩,⟨1,2,1,0,0,0,0,0⟩] Ev.len (by simp)
  simpa[Ev.cells] using this
 have b1:Below w.heap.size w ((w.alloc (.cells #[.slice none 0 0,.slice none 0 0] 25)).alloc (.cells #[.int .i64 1,.int .i64 1,.int .i64 0,.int .i64 0,.int .i64 0,.int .i64 0,.int .i64 0,.int .i64 0,.int .i64 1,.int .i64 2,.int .i64 1,.int .i64 0,.int .i64 0,.int .i64 0,.int .i64 0,.int .i64 0] 69)):=b0.alloc (by simp) _
 have r0:=row_old (o:=.cells #[.int .i64 1,.int .i64 1,.int .i64 0,.int .i64 0,.int .i64 0,.int .i64 0,.int .i64 0,.int .i64 0,.int .i64 1,.int .i64 2,.int .i64 1,.int .i64 0,.int .i64 0,.int .i64 0,.int .i64 0,.int .i64 0] 69) (row_new w (.cells #[.slice none 0 0,.slice none 0 0] 25))
 have O0:=hid o0
 have B1:=hid b1
 have R0:=hid r0
 clear o0 b0 b1 r0
 go_enter Tryz.func26,Tryz.ntmps26
 go_wp2_with fail
 generalize (w.alloc (.cells #[.slice none 0 0,.slice none 0 0] 25)).alloc (.cells #[.int .i64 1,.int .i64 1,.int .i64 0,.int .i64 0,.int .i64 0,.int .i64 0,.int .i64 0,.int .i64 0,.int .i64 1,.int .i64 2,.int .i64 1,.int .i64 0,.int .i64 0,.int .i64 0,.int .i64 0,.int .i64 0] 69)=W at *
 have hz0:w.heap.size < W.heap.size:=row_lt R0.out
 have hl1:(exRd 1).length≤2:=Nat.le_refl _
 have hl2:(exRd 2).length≤2:=Nat.le_refl _
 have hl3:(exWr 1).length≤2:=Nat.le_refl _
 have hl4:(exWr 2).length≤2:=Nat.le_refl _
 refine(x_read 1 _).mono ?_
 rintro e X1 ⟨v1,rfl,o1,b1⟩
 have P1:=hid o1
 have I1:=hid (B1.out.trans (b1.mono B1.out.size))
 have J1:=hid (OwnF.below O0.out b1)
 have S1:=hid (row_below R0.out b1 (row_lt R0.out))
 have hx1:=I1.out.size
 obtain⟨q1,d1,e1⟩:∃q d,v1=.slice q 2 d:=OwnF.sli o1
 subst e1
 clear o1 b1
 have hn1:(([⟨1,1,0,0,0,0,0,0⟩,⟨1,2,1,0,0,0,0,0⟩]:List Ev)).length+(exRd 1).length≤9223372036854775807:=by decide
 have hb1:((([⟨1,1,0,0,0,0,0,0⟩,⟨1,2,1,0,0,0,0,0⟩]:List Ev)).length+(exRd 1).length)*64≤140737488355328:=by decide
 go_wp2_with (at_builtin;refine wpList_appA rfl _ _ _ rfl _ 64 Tryz.underlying23 infoE rfl J1.out (exRd 1) rfl (OwnF.sl P1.out) hx1 rfl rfl Ev.len ev_one hn1 hb1 ?_;refine Stop.halt ?_)
 refine Stop.go ?_
 intro u1 Y1 oo1 g1
 obtain⟨qq1,dd1,ee1⟩:∃q d,u1=.slice q 4 d:=OwnF.sli oo1
 subst ee1
 obtain⟨L1,hL1⟩:∃L,([⟨1,1,0,0,0,0,0,0⟩,⟨1,2,1,0,0,0,0,0⟩]:List Ev)++exRd 1=L:=⟨_,rfl⟩
 have HL1:=hid (show([⟨1,1,0,0,0,0,0,0⟩,⟨1,2,1,0,0,0,0,0⟩]:List Ev)++exRd 1=L1 by exact hL1)
 have O1:=hid (show OwnF Ev.cells 69 8 Y1 w.heap.size (.slice qq1 4 dd1) L1 by rw[←hL1];exact oo1)
 have K1:=hid (I1.out.trans (g1.below hx1 fun j hj=>(OwnF.lt J1.out j hj).1))
 have T1:=hid (row_grw S1.out g1 (OwnF.neT J1.out S1.out (by decide)))
 clear oo1 g1 P1 I1 J1 S1 hn1 hb1 hL1
 go_wp2_with fail
 refine(x_read 2 _).mono ?_
 rintro e X2 ⟨v2,rfl,o2,b2⟩
 have P2:=hid o2
 have I2:=hid (K1.out.trans (b2.mono K1.out.size))
 have J2:=hid (OwnF.below O1.out b2)
 have S2:=hid (row_below T1.out b2 (row_lt T1.out))
 have hx2:=I2.out.size
 obtain⟨q2,d2,e2⟩:∃q d,v2=.slice q 2 d:=OwnF.sli o2
 subst e2
 clear o2 b2
 have hn2:(L1).length+(exRd 2).length≤9223372036854775807:=by rw[←HL1.out];decide
 have hb2:((L1).length+(exRd 2).length)*64≤140737488355328:=by rw[←HL1.out];decide
 go_wp2_with (at_builtin;refine wpList_appA rfl _ _ _ rfl _ 64 Tryz.underlying23 infoE rfl J2.out (exRd 2) rfl (OwnF.sl P2.out) hx2 rfl rfl Ev.len ev_one hn2 hb2 ?_;refine Stop.halt ?_)
 refine Stop.go ?_
 intro u2 Y2 oo2 g2
 obtain⟨qq2,dd2,ee2⟩:∃q d,u2=.slice q 6 d:=by obtain⟨q,d,h⟩:=OwnF.sli oo2;rw[List.length_append,←HL1.out] at h;exact⟨q,d,h⟩
 subst ee2
 obtain⟨L2,hL2⟩:∃L,L1++exRd 2=L:=⟨_,rfl⟩
 have HL2:=hid (show([⟨1,1,0,0,0,0,0,0⟩,⟨1,2,1,0,0,0,0,0⟩]:List Ev)++exRd 1++exRd 2=L2 by rw[HL1.out];exact hL2)
 have O2:=hid (show OwnF Ev.cells 69 8 Y2 w.heap.size (.slice qq2 6 dd2) L2 by rw[←hL2];exact oo2)
 have K2:=hid (I2.out.trans (g2.below hx2 fun j hj=>(OwnF.lt J2.out j hj).1))
 have T2:=hid (row_grw S2.out g2 (OwnF.neT J2.out S2.out (by decide)))
 clear oo2 g2 P2 I2 J2 S2 hn2 hb2 hL2 HL1
 go_wp2_with fail
 refine(x_write 1 _).mono ?_
 rintro e X3 ⟨v3,rfl,o3,b3⟩
 have P3:=hid o3
 have I3:=hid (K2.out.trans (b3.mono K2.out.size))
 have J3:=hid (OwnF.below O2.out b3)
 have S3:=hid (row_below T2.out b3 (row_lt T2.out))
 have hx3:=I3.out.size
 obtain⟨q3,d3,e3⟩:∃q d,v3=.slice q 2 d:=OwnF.sli o3
 subst e3
 clear o3 b3
 have hn3:(L2).length+(exWr 1).length≤9223372036854775807:=by rw[←HL2.out];decide
 have hb3:((L2).length+(exWr 1).length)*64≤140737488355328:=by rw[←HL2.out];decide
 go_wp2_with (at_builtin;refine wpList_appA rfl _ _ _ rfl _ 64 Tryz.underlying23 infoE rfl J3.out (exWr 1) rfl (OwnF.sl P3.out) hx3 rfl rfl Ev.len ev_one hn3 hb3 ?_;refine Stop.halt ?_)
 refine Stop.go ?_
 intro u3 Y3 oo3 g3
 obtain⟨qq3,dd3,ee3⟩:∃q d,u3=.slice q 8 d:=by obtain⟨q,d,h⟩:=OwnF.sli oo3;rw[List.length_append,←HL2.out] at h;exact⟨q,d,h⟩
 subst ee3
 obtain⟨L3,hL3⟩:∃L,L2++exWr 1=L:=⟨_,rfl⟩
 have HL3:=hid (show([⟨1,1,0,0,0,0,0,0⟩,⟨1,2,1,0,0,0,0,0⟩]:List Ev)++exRd 1++exRd 2++exWr 1=L3 by rw[HL2.out];exact hL3)
 have O3:=hid (show OwnF Ev.cells 69 8 Y3 w.heap.size (.slice qq3 8 dd3) L3 by rw[←hL3];exact oo3)
 have K3:=hid (I3.out.trans (g3.below hx3 fun j hj=>(OwnF.lt J3.out j hj).1))
 have T3:=hid (row_grw S3.out g3 (OwnF.neT J3.out S3.out (by decide)))
 clear oo3 g3 P3 I3 J3 S3 hn3 hb3 hL3 HL2
 go_wp2_with fail
 refine(x_write 2 _).mono ?_
 rintro e X4 ⟨v4,rfl,o4,b4⟩
 have P4:=hid o4
 have I4:=hid (K3.out.trans (b4.mono K3.out.size))
 have J4:=hid (OwnF.below O3.out b4)
 have S4:=hid (row_below T3.out b4 (row_lt T3.out))
 have hx4:=I4.out.size
 obtain⟨q4,d4,e4⟩:∃q d,v4=.slice q 2 d:=OwnF.sli o4
 subst e4
 clear o4 b4
 have hn4:(L3).length+(exWr 2).length≤9223372036854775807:=by rw[←HL3.out];decide
 have hb4:((L3).length+(exWr 2).length)*64≤140737488355328:=by rw[←HL3.out];decide
 go_wp2_with (at_builtin;refine wpList_appA rfl _ _ _ rfl _ 64 Tryz.underlying23 infoE rfl J4.out (exWr 2) rfl (OwnF.sl P4.out) hx4 rfl rfl Ev.len ev_one hn4 hb4 ?_;refine Stop.halt ?_)
 refine Stop.go ?_
 intro u4 Y4 oo4 g4
 obtain⟨qq4,dd4,ee4⟩:∃q d,u4=.slice q 10 d:=by obtain⟨q,d,h⟩:=OwnF.sli oo4;rw[List.length_append,←HL3.out] at h;exact⟨q,d,h⟩
 subst ee4
 obtain⟨L4,hL4⟩:∃L,L3++exWr 2=L:=⟨_,rfl⟩
 have HL4:=hid (show([⟨1,1,0,0,0,0,0,0⟩,⟨1,2,1,0,0,0,0,0⟩]:List Ev)++exRd 1++exRd 2++exWr 1++exWr 2=L4 by rw[HL3.out];exact hL4)
 have O4:=hid (show OwnF Ev.cells 69 8 Y4 w.heap.size (.slice qq4 10 dd4) L4 by rw[←hL4];exact oo4)
 have K4:=hid (I4.out.trans (g4.below hx4 fun j hj=>(OwnF.lt J4.out j hj).1))
 have T4:=hid (row_grw S4.out g4 (OwnF.neT J4.out S4.out (by decide)))
 clear oo4 g4 P4 I4 J4 S4 hn4 hb4 hL4 HL3
 have lz:OwnF Ev.cells 69 8 (Y4.alloc (.cells #[.int .i64 4,.int .i64 1,.int .i64 0,.int .i64 0,.int .i64 0,.int .i64 0,.int .i64 0,.int .i64 0,.int .i64 5,.int .i64 1,.int .i64 0,.int .i64 0,.int .i64 0,.int .i64 0,.int .i64 0,.int .i64 0,.int .i64 4,.int .i64 2,.int .i64 0,.int .i64 0,.int .i64 0,.int .i64 0,.int .i64 0,.int .i64 0] 69)) w.heap.size (.slice (some ⟨Y4.heap.size,0,none⟩) 3 3) [⟨4,1,0,0,0,0,0,0⟩,⟨5,1,0,0,0,0,0,0⟩,⟨4,2,0,0,0,0,0,0⟩]:=by
  have:=OwnF.lit (f:=Ev.cells) (e:=69) (sz:=8) Y4 w.heap.size K4.out.size [⟨4,1,0,0,0,0,0,0⟩,⟨5,1,0,0,0,0,0,0⟩,⟨4,2,0,0,0,0,0,0⟩] Ev.len (by simp)
  simpa[Ev.cells] using this
 have bz:Below w.heap.size w (Y4.alloc (.cells #[.int .i64 4,.int .i64 1,.int .i64 0,.int .i64 0,.int .i64 0,.int .i64 0,.int .i64 0,.int .i64 0,.int .i64 5,.int .i64 1,.int .i64 0,.int .i64 0,.int .i64 0,.int .i64 0,.int .i64 0,.int .i64 0,.int .i64 4,.int .i64 2,.int .i64 0,.int .i64 0,.int .i64 0,.int .i64 0,.int .i64 0,.int .i64 0] 69)):=K4.out.alloc K4.out.size _
 have hx5:=bz.size
 have hn5:L4.length+([⟨4,1,0,0,0,0,0,0⟩,⟨5,1,0,0,0,0,0,0⟩,⟨4,2,0,0,0,0,0,0⟩]:List Ev).length≤9223372036854775807:=by rw[←HL4.out];decide
 have hb5:(L4.length+([⟨4,1,0,0,0,0,0,0⟩,⟨5,1,0,0,0,0,0,0⟩,⟨4,2,0,0,0,0,0,0⟩]:List Ev).length)*64≤140737488355328:=by rw[←HL4.out];decide
 have LZ5:=hid lz
 have BZ5:=hid bz
 have OZ5:=hid (OwnF.alloc O4.out (.cells #[.int .i64 4,.int .i64 1,.int .i64 0,.int .i64 0,.int .i64 0,.int .i64 0,.int .i64 0,.int .i64 0,.int .i64 5,.int .i64 1,.int .i64 0,.int .i64 0,.int .i64 0,.int .i64 0,.int .i64 0,.int .i64 0,.int .i64 4,.int .i64 2,.int .i64 0,.int .i64 0,.int .i64 0,.int .i64 0,.int .i64 0,.int .i64 0] 69))
 have RZ5:=hid (row_old (o:=.cells #[.int .i64 4,.int .i64 1,.int .i64 0,.int .i64 0,.int .i64 0,.int .i64 0,.int .i64 0,.int .i64 0,.int .i64 5,.int .i64 1,.int .i64 0,.int .i64 0,.int .i64 0,.int .i64 0,.int .i64 0,.int .i64 0,.int .i64 4,.int .i64 2,.int .i64 0,.int .i64 0,.int .i64 0,.int .i64 0,.int .i64 0,.int .i64 0] 69) T4.out)
 clear lz bz
 go_wp2_with (at_builtin;refine wpList_appA rfl _ _ _ rfl _ 64 Tryz.underlying23 infoE rfl OZ5.out [⟨4,1,0,0,0,0,0,0⟩,⟨5,1,0,0,0,0,0,0⟩,⟨4,2,0,0,0,0,0,0⟩] rfl (OwnF.sl LZ5.out) hx5 rfl rfl Ev.len ev_one hn5 hb5 ?_;refine Stop.halt ?_)
 refine Stop.go ?_
 intro u5 Y5 oo5 g5
 obtain⟨qq5,dd5,ee5⟩:∃q d,u5=.slice q 13 d:=by obtain⟨q,d,h⟩:=OwnF.sli oo5;rw[List.length_append,←HL4.out] at h;exact⟨q,d,h⟩
 subst ee5
 have O5:=hid (show OwnF Ev.cells 69 8 Y5 w.heap.size (.slice qq5 13 dd5) exE by
  have e:exE=L4++[⟨4,1,0,0,0,0,0,0⟩,⟨5,1,0,0,0,0,0,0⟩,⟨4,2,0,0,0,0,0,0⟩]:=by rw[←HL4.out];rfl
  rw[e];exact oo5)
 have K5:=hid (BZ5.out.trans (g5.below hx5 fun j hj=>(OwnF.lt OZ5.out j hj).1))
 have T5:=hid (row_grw RZ5.out g5 (OwnF.neT OZ5.out RZ5.out (by decide)))
 clear oo5 g5 LZ5 BZ5 OZ5 RZ5 hn5 hb5 HL4
 have hl5:=row_lt T5.out
 have yf:=fun o=>row_free T5.out o
 have y:=row_cell T5.out
 have y0:=y 0
 have y1:=y 1
 simp at y0 y1
 clear y
 go_wp2_with fail
 have S6:=row_set (row_set T5.out 0 (.slice (some ⟨Y5.heap.size,0,none⟩) 1 1)) 1 (.slice qq5 13 dd5)
 have B6:=(K5.out.setCell (p:=⟨w.heap.size,0,none⟩) (Nat.le_refl _) (.slice (some ⟨Y5.heap.size,0,none⟩) 1 1)).setCell (p:=⟨w.heap.size,1,none⟩) (Nat.le_refl _) (.slice qq5 13 dd5)
 have O6:=OwnF.other (j:=1) (OwnF.other (j:=0) O5.out (OwnF.neT O5.out T5.out (by decide)) (.slice (some ⟨Y5.heap.size,0,none⟩) 1 1)) (OwnF.neT O5.out T5.out (by decide)) (.slice qq5 13 dd5)
 have z6:((Y5.setCell ⟨w.heap.size,0,none⟩ (.slice (some ⟨Y5.heap.size,0,none⟩) 1 1)).setCell ⟨w.heap.size,1,none⟩ (.slice qq5 13 dd5)).heap.size=Y5.heap.size:=by simp
 obtain⟨X,hX⟩:∃X,X=(Y5.setCell ⟨w.heap.size,0,none⟩ (.slice (some ⟨Y5.heap.size,0,none⟩) 1 1)).setCell ⟨w.heap.size,1,none⟩ (.slice qq5 13 dd5):=⟨_,rfl⟩
 rw[←hX] at S6 B6 O6 z6 ⊢
 clear hX
 have lo:OwnF Ob.cells 62 2 (X.alloc (.cells #[.int .i64 1,.int .i64 0] 62)) w.heap.size (.slice (some ⟨X.heap.size,0,none⟩) 1 1) [⟨1,0⟩]:=by
  have:=OwnF.lit (f:=Ob.cells) (e:=62) (sz:=2) X w.heap.size B6.size [⟨1,0⟩] Ob.len (by simp)
  simpa[Ob.cells] using this
 rw[z6] at lo
 have R7:=row_old (o:=.cells #[.int .i64 1,.int .i64 0] 62) S6
 have c0:=row_cell R7 0
 have c1:=row_cell R7 1
 simp at c0 c1
 refine bodyPost_ret (v:=.agg #[.slice (some ⟨Y5.heap.size,0,none⟩) 1 1,.slice qq5 13 dd5]) (by simp[results,Tryz.results26,go_sem,c0,c1]) rfl ?_
 exact⟨_,_,rfl,lo,OwnF.alloc O6 _,B6.alloc B6.size _⟩
end
section
attribute [local irreducible] wpL
structure GlF (w:World):Prop where
 wd:WordsG w
 er:ErrsF w
 pr:ErrIn w 6
theorem GlF.below {w w':World} (h:GlF w) (hb:Below w.heap.size w w'):GlF w':=⟨h.wd.below hb,h.er.below hb,h.pr.below hb⟩
theorem l_small15 (ov vv:Value) (os:List Ob) (es:List Ev) (w:World) (ho:Sl w w.heap.size 2 ov os.length (os.flatMap Ob.cells)) (he:Sl w w.heap.size 8 vv es.length (es.flatMap Ev.cells)):
  Calls Tryz.prog 8 #[.agg #[ov,vv]] w fun e w'=>e=.returned (.bool (decide (os.length≤100)&&decide (es.length≤120)))∧Below w.heap.size w w':=by
 obtain⟨ao,co,rfl,mo⟩:=ho.ex
 obtain⟨ae,ce,rfl,me⟩:=he.ex
 have b0:Below w.heap.size w (w.alloc (.cells #[.slice ao os.length co,.slice ae es.length ce] 25)):=(Below.refl _ w).alloc (Nat.le_refl _) _
 have B0:=hid b0
 clear ho he b0
 by_cases h1:os.length≤100
 ·have q1:decide ((os.length:Int)≤100)=true:=by simp;omega
  by_cases h2:es.length≤120
  ·have q2:decide ((es.length:Int)≤120)=true:=by simp;omega
   have hR:(decide (os.length≤100)&&decide (es.length≤120))=true:=by simp[h1,h2]
   rw[hR]
   clear h1 h2 hR
   go_enter Tryz.func8,Tryz.ntmps8
   go_wp2
   go_ret
   exact⟨rfl,B0.out⟩
  ·have q2:decide ((es.length:Int)≤120)=false:=by simp;omega
   have hR:(decide (os.length≤100)&&decide (es.length≤120))=false:=by simp[h2]
   rw[hR]
   clear h1 h2 hR
   go_enter Tryz.func8,Tryz.ntmps8
   go_wp2
   go_ret
   exact⟨rfl,B0.out⟩
 ·have q1:decide ((os.length:Int)≤100)=false:=by simp;omega
  have hR:(decide (os.length≤100)&&decide (es.length≤120))=false:=by simp[h1]
  rw[hR]
  clear h1 hR
  go_enter Tryz.func8,Tryz.ntmps8
  go_wp2
  go_ret
  exact⟨rfl,B0.out⟩
theorem ex_hist:histB [⟨1,0⟩] exK=true:=by decide+kernel
theorem ex_runK:runG [] 0 (exK.take 13)=some (exA 13)∧runG [] 0 (exK.take 14)=some (exA 14):=by
 have h1:=ex_run 13 (by decide)
 have h2:=ex_run 14 (by decide)
 unfold exA
 exact⟨by cases e:runG [] 0 (exK.take 13) with|none=>rw[e] at h1;cases h1|some A=>rfl,by cases e:runG [] 0 (exK.take 14) with|none=>rw[e] at h2;cases h2|some A=>rfl⟩
theorem ex_histE:histB [⟨1,0⟩] exE=true:=by decide+kernel
theorem ex_premA:premA [⟨1,0⟩] [] (exA 13)=true∧premA [⟨1,0⟩] [] (exA 14)=true:=by decide+kernel
theorem ex_prem13:premR [⟨1,0⟩] (tableG [⟨1,0⟩] exE)=some (exA 13):=by
 unfold tableG
 rw[if_pos ex_histE,←exK_take,ex_runK.1]
 unfold premR
 simp only
 rw[if_pos ex_premA.1]
theorem exK_all:exK.take 14=exK:=rfl
theorem ex_prem14:premR [⟨1,0⟩] (tableG [⟨1,0⟩] exK)=some (exA 14):=by
 unfold tableG
 rw[if_pos ex_hist,←exK_all,ex_runK.2]
 unfold premR
 simp only
 rw[if_pos ex_premA.2]
theorem ex_pre {i:Nat} {a:FAn} (h:PreIs [⟨1,0⟩] exK i a):∃A,A=exA i∧JudgeIs 3 [0] A a:=by
 obtain⟨A,h1,h2⟩:=h
 have h3:=(table_parts (premR_some h1).1).2.2.2
 have:exA i=A:=by unfold exA;rw[h3];rfl
 exact⟨A,this.symm,h2⟩
theorem ex_ids:((exA 13).map (·.id)).Nodup:=by decide+kernel
theorem ex_takenIds:takenIds (exA 13) (takenF 1 (exA 13)) (exA 13).length=[1]:=by decide+kernel
theorem ex_len:(exA 13).length=2:=by decide+kernel
theorem ex_dO:∀o ∈ ([⟨1,0⟩]:List Ob),dI o.kind:=fun o ho=>by
 simp at ho
 subst ho
 exact dI_val9 ⟨by decide,by decide⟩
theorem ex_dE:∀e ∈ exE,dI e.ret:=fun e he=>dI_val9 ((by decide+kernel:∀e ∈ exE,-1000000000≤e.ret∧e.ret≤1000000000) e he)
theorem ex_dK:∀e ∈ exK,dI e.ret:=fun e he=>dI_val9 ((by decide+kernel:∀e ∈ exK,-1000000000≤e.ret∧e.ret≤1000000000) e he)
theorem sl_ofI {w:World} {B n:Nat} {v:Value} {l:List Int} (h:OwnI w B v l) (hn:l.length=n):Sl w w.heap.size 1 v n (l.map (.int .i64)):=by
 subst hn
 rw[←flat_int]
 exact OwnF.sl h
theorem exK_len:exK.length=14:=rfl
theorem ex_no14 {a:FAn} (hp:PreIs [⟨1,0⟩] exK 14 a):a.kind=3∧a.cyc=[1,2]:=by
 obtain⟨A,hA,h⟩:=ex_pre hp
 rw[hA] at h
 exact ex_judge h
theorem ex_yes14 {j:Nat} {a:FAn} (h:j < 14) (hp:PreIs [⟨1,0⟩] exK j a):a.kind=1:=by
 obtain⟨A,hA,hj⟩:=ex_pre hp
 rw[hA] at hj
 exact ex_judge_yes h hj
theorem ex_j4 {w w':World} {e:Ending} (hr:(∃va,e=.returned (.tuple #[.agg #[.int .i64 1,.slice none 0 0,va,.int .i64 0,.int .i64 0,.int .i64 0,.slice none 0 0],.nilIface])∧(∃a n c,va=.slice a n c)∧∀j,j≤exK.length→∃a,PreIs [⟨1,0⟩] exK j a∧a.kind=1)∨
  ∃(j:Nat) (a:FAn) (vs vc:Value),j≤exK.length∧PreIs [⟨1,0⟩] exK j a∧a.kind≠1∧e=.returned (.tuple #[ansV {a with pre:=j} vs vc,.nilIface])∧AnsAt w' w.heap.size vs vc a):
  ∃(a2:FAn) (vs vc:Value),a2.kind=3∧a2.cyc=[1,2]∧e=.returned (.tuple #[ansV {a2 with pre:=14} vs vc,.nilIface])∧AnsAt w' w.heap.size vs vc a2:=by
 rw[exK_len] at hr
 rcases hr with⟨va,-,-,hall⟩|⟨j,a2,vs,vc,hj,hp,hk,he,hA⟩
 ·obtain ⟨a2,hp,hk⟩:=hall 14 (Nat.le_refl _)
  have:=(ex_no14 hp).1
  omega
 ·by_cases h:j < 14
  ·exact absurd (ex_yes14 h hp) hk
  ·obtain rfl:j=14:=by omega
   have:=ex_no14 hp
   exact⟨a2,vs,vc,this.1,this.2,he,hA⟩
theorem l_first15 (w:World) (hG:GlF w):Calls Tryz.prog 7 #[] w fun e w'=>e=.returned (.bool true)∧Below w.heap.size w w':=by
 have HG:=hid hG
 clear hG
 go_enter Tryz.func7,Tryz.ntmps7
 go_wp2_with fail
 refine(x_Example _).mono ?_
 rintro e W1 ⟨ov,vv,rfl,ho,hv,b1⟩
 obtain⟨ao,co,e1⟩:∃a c,ov=.slice a 1 c:=OwnF.sli ho
 obtain⟨av,cv,e2⟩:∃a c,vv=.slice a 13 c:=OwnF.sli hv
 subst e1 e2
 have b2:Below w.heap.size w ((W1.alloc (.cells #[.slice ao 1 co,.slice av 13 cv] 25)).alloc (.cells #[.slice ao 1 co,.slice av 13 cv] 25)):=(b1.alloc b1.size _).alloc (by have:=b1.size;simp;omega) _
 have r1:=row_old (o:=.cells #[.slice ao 1 co,.slice av 13 cv] 25) (row_new W1 (.cells #[.slice ao 1 co,.slice av 13 cv] 25))
 have r2:=row_new (W1.alloc (.cells #[.slice ao 1 co,.slice av 13 cv] 25)) (.cells #[.slice ao 1 co,.slice av 13 cv] 25)
 have ho2:=OwnF.alloc (OwnF.alloc ho (.cells #[.slice ao 1 co,.slice av 13 cv] 25)) (.cells #[.slice ao 1 co,.slice av 13 cv] 25)
 have hv2:=OwnF.alloc (OwnF.alloc hv (.cells #[.slice ao 1 co,.slice av 13 cv] 25)) (.cells #[.slice ao 1 co,.slice av 13 cv] 25)
 simp only[World.size_alloc] at r2
 have B2:=hid b2
 have R1:=hid r1
 have R2:=hid r2
 have O2:=hid ho2
 have V2:=hid hv2
 have hz1:w.heap.size≤W1.heap.size:=b1.size
 clear ho hv b1 b2 r1 r2 ho2 hv2
 go_wp2_with fail
 generalize (W1.alloc (.cells #[.slice ao 1 co,.slice av 13 cv] 25)).alloc (.cells #[.slice ao 1 co,.slice av 13 cv] 25)=W2 at *
 have h12:=row_lt R2.out
 refine(u_Events _ exE _ (OwnF.sl V2.out) (by decide)).mono ?_
 rintro e W3 ⟨u3,rfl,o3,b3⟩
 obtain⟨a3,c3,e3⟩:∃a c,u3=.slice a 13 c:=OwnF.sli o3
 subst e3
 have hz2:=B2.out.size
 have B3:=hid (B2.out.trans (b3.mono hz2))
 have R1:=hid (row_below R1.out b3 (row_lt R1.out))
 have R2:=hid (row_below R2.out b3 (row_lt R2.out))
 have O2:=hid (OwnF.below O2.out b3)
 have VLT:=hid (fun k hk=>(OwnF.lt V2.out k hk).2)
 have V2:=hid (OwnF.below V2.out b3)
 have hz3:=b3.size
 have h12:W1.heap.size+1 < W2.heap.size:=h12
 have O3:=hid o3
 have hxl:exE.length≤13:=Nat.le_refl _
 clear o3 b3
 go_wp2_with (at_builtin;refine wpList_appF rfl _ _ _ rfl _ 64 Tryz.underlying23 infoE rfl O3.out ⟨5,2,0,0,0,0,0,0⟩ hz3 (by rfl) (by rfl) (by first|rfl|simp) rfl (ev_one _) (by first|omega|(simp only[List.length_append,List.length_cons,List.length_nil,List.length_replicate];omega)) (by first|omega|(simp only[List.length_append,List.length_cons,List.length_nil,List.length_replicate];omega)) ?_;refine Stop.halt ?_)
 refine Stop.go ?_
 intro g4 c4 W4 o4 G4
 have hx14:exE.length+1=14:=rfl
 rw[hx14] at o4 G4 ⊢
 clear hx14 hxl
 have hw3:w.heap.size≤W3.heap.size:=by omega
 have K4:=hid (show OwnF Ev.cells 69 8 W4 w.heap.size (.slice (some ⟨g4,0,none⟩) 14 c4) exK from OwnF.base o4 (by omega))
 have B4:=hid (B3.out.trans (G4.below hw3 fun k hk=>by have:=(OwnF.lt O3.out k hk).1;omega))
 have R1:=hid (row_grw R1.out G4 (OwnF.neT O3.out R1.out (by decide)))
 have R2:=hid (row_grw R2.out G4 (OwnF.neT O3.out R2.out (by decide)))
 have O4:=hid (OwnF.grwT O2.out O3.out (by decide) G4)
 have V4:=hid (OwnF.grw V2.out G4 fun k hk e=>by
  have h1:=(OwnF.lt O3.out k e).1
  have h2:=VLT.out k hk
  omega)
 have l2:=row_lt R2.out
 have f2:=row_free R2.out 1
 have y2:=row_cell R2.out
 have y20:=y2 0
 have y21:=y2 1
 have y1:=row_cell R1.out
 have y10:=y1 0
 have y11:=y1 1
 simp at y20 y21 y10 y11
 have l1:=row_lt R1.out
 have R25:=hid (row_set R2.out 1 (.slice (some ⟨g4,0,none⟩) 14 c4))
 have R15:=hid (row_other R1.out (show W1.heap.size+1≠W1.heap.size by omega) (j:=1) (v:=(.slice (some ⟨g4,0,none⟩) 14 c4)))
 have O5:=hid (OwnF.other (j:=1) O4.out (OwnF.neT O4.out R2.out (by decide)) (.slice (some ⟨g4,0,none⟩) 14 c4))
 have V5:=hid (OwnF.other (j:=1) V4.out (OwnF.neT V4.out R2.out (by decide)) (.slice (some ⟨g4,0,none⟩) 14 c4))
 have K5:=hid (OwnF.other (j:=1) K4.out (OwnF.neT K4.out R2.out (by decide)) (.slice (some ⟨g4,0,none⟩) 14 c4))
 have B5:=hid (B4.out.setCell (p:=⟨W1.heap.size+1,1,none⟩) (show w.heap.size≤W1.heap.size+1 by omega) (.slice (some ⟨g4,0,none⟩) 14 c4))
 clear o4 G4 y2 y1 R1 R2 O4 V4 K4 B4 VLT O2 V2 O3
 go_wp2_with fail
 generalize W4.setCell ⟨W1.heap.size+1,1,none⟩ (.slice (some ⟨g4,0,none⟩) 14 c4)=W5 at *
 have R2:=hid (show W5.heap[W1.heap.size+1]?=some (.cells #[.slice ao 1 co,.slice (some ⟨g4,0,none⟩) 14 c4] 25 (0,0)) by simpa using R25.out)
 have R1:=R15
 clear R25 R15 y20 y21 y10 y11 l1 l2 f2
 have HE5:HisG W5 (.slice ao 1 co) (.slice av 13 cv) [⟨1,0⟩] exE:=⟨OwnF.sl O5.out,OwnF.sl V5.out,ex_dO,ex_dE,HG.out.wd.below B5.out,HG.out.er.below B5.out,HG.out.pr.below B5.out⟩
 refine(f_JudgeS HE5.toT ex_prem13 (.inr (.inr rfl)) (by rw[ex_len];omega) ex_ids).mono ?_
 rintro e W6 ⟨a,vs,vc,rfl,hJ,hA,b6⟩
 obtain⟨hk1,hst⟩:=ex_judge13 hJ
 have hS:=hA.1
 rw[hst] at hS
 obtain⟨aS,cS,e1⟩:∃x y,vs=.slice x 2 y:=OwnF.sli hS
 obtain⟨aC,cC,e2⟩:=OwnF.sli hA.2
 subst e1 e2
 have B6:=hid (B5.out.trans (b6.mono B5.out.size))
 have S6:=hid (OwnF.base hS B5.out.size)
 clear hA hS hJ hst HE5
 have R1:=hid (row_below R1.out b6 (row_lt R1.out))
 have R2:=hid (row_below R2.out b6 (row_lt R2.out))
 have O5:=hid (OwnF.below O5.out b6)
 have V5:=hid (OwnF.below V5.out b6)
 have K5:=hid (OwnF.below K5.out b6)
 clear b6
 have y1:=row_cell R2.out 0
 have y2:=row_cell R2.out 1
 simp at y1 y2
 have l2:=row_lt R2.out
 unfold ansV
 rw[hk1]
 go_wp2_with fail
 have b7:Below W6.heap.size W6 (W6.alloc (.cells #[.int .i64 1,.slice aS 2 cS,.slice none 0 0,.int .i64 a.pre,.int .i64 a.tx,.int .i64 a.deed,.slice aC a.cyc.length cC] 32)):=(Below.refl _ W6).alloc (Nat.le_refl _) _
 have R3:=hid (row_new W6 (.cells #[.int .i64 1,.slice aS 2 cS,.slice none 0 0,.int .i64 a.pre,.int .i64 a.tx,.int .i64 a.deed,.slice aC a.cyc.length cC] 32))
 have B7:=hid (B6.out.trans (b7.mono B6.out.size))
 have S6:=hid (OwnF.below S6.out b7)
 have R1:=hid (row_below R1.out b7 (row_lt R1.out))
 have R2:=hid (row_below R2.out b7 (row_lt R2.out))
 have O5:=hid (OwnF.below O5.out b7)
 have V5:=hid (OwnF.below V5.out b7)
 have K5:=hid (OwnF.below K5.out b7)
 clear b7 y1 y2 l2
 generalize W6.alloc (.cells #[.int .i64 1,.slice aS 2 cS,.slice none 0 0,.int .i64 a.pre,.int .i64 a.tx,.int .i64 a.deed,.slice aC a.cyc.length cC] 32)=W7 at *
 have HK7:HisG W7 (.slice ao 1 co) (.slice (some ⟨g4,0,none⟩) 14 c4) [⟨1,0⟩] exK:=⟨OwnF.sl O5.out,OwnF.sl K5.out,ex_dO,ex_dK,HG.out.wd.below B7.out,HG.out.er.below B7.out,HG.out.pr.below B7.out⟩
 refine(f_Judge4 HK7 ex_prem14 (by decide)).mono ?_
 rintro e W8 ⟨hr,b8⟩
 obtain⟨a2,vs,vc,hk3,hcy,rfl,hA⟩:=ex_j4 hr
 have hC:=hA.2
 rw[hcy] at hC
 obtain⟨aS2,cS2,e1⟩:=OwnF.sli hA.1
 obtain⟨aC2,cC2,e2⟩:∃x y,vc=.slice x 2 y:=OwnF.sli hC
 subst e1 e2
 have hz7:=B7.out.size
 have B8:=hid (B7.out.trans (b8.mono hz7))
 have C8:=hid (OwnF.base hC hz7)
 clear hA hC hr HK7 hcy
 have R1:=hid (row_below R1.out b8 (row_lt R1.out))
 have R2:=hid (row_below R2.out b8 (row_lt R2.out))
 have R3:=hid (row_below R3.out b8 (row_lt R3.out))
 have O5:=hid (OwnF.below O5.out b8)
 have V5:=hid (OwnF.below V5.out b8)
 have K5:=hid (OwnF.below K5.out b8)
 have S6:=hid (OwnF.below S6.out b8)
 clear b8
 have y1:=row_cell R1.out
 have y10:=y1 0
 have y11:=y1 1
 simp at y10 y11
 have l1:=row_lt R1.out
 unfold ansV
 simp only[hk3]
 go_wp2_with fail
 have b9:Below W8.heap.size W8 (W8.alloc (.cells #[.int .i64 3,.slice aS2 a2.steps.length cS2,.slice none 0 0,.int .i64 14,.int .i64 a2.tx,.int .i64 a2.deed,.slice aC2 2 cC2] 32)):=(Below.refl _ W8).alloc (Nat.le_refl _) _
 have R5:=hid (row_new W8 (.cells #[.int .i64 3,.slice aS2 a2.steps.length cS2,.slice none 0 0,.int .i64 14,.int .i64 a2.tx,.int .i64 a2.deed,.slice aC2 2 cC2] 32))
 have B9:=hid (B8.out.trans (b9.mono B8.out.size))
 have C8:=hid (OwnF.below C8.out b9)
 have R1:=hid (row_below R1.out b9 (row_lt R1.out))
 have R2:=hid (row_below R2.out b9 (row_lt R2.out))
 have R3:=hid (row_below R3.out b9 (row_lt R3.out))
 have O5:=hid (OwnF.below O5.out b9)
 have V5:=hid (OwnF.below V5.out b9)
 have K5:=hid (OwnF.below K5.out b9)
 have S6:=hid (OwnF.below S6.out b9)
 clear b9 y1 y10 y11 l1
 generalize W8.alloc (.cells #[.int .i64 3,.slice aS2 a2.steps.length cS2,.slice none 0 0,.int .i64 14,.int .i64 a2.tx,.int .i64 a2.deed,.slice aC2 2 cC2] 32)=W9 at *
 have HE9:HisG W9 (.slice ao 1 co) (.slice av 13 cv) [⟨1,0⟩] exE:=⟨OwnF.sl O5.out,OwnF.sl V5.out,ex_dO,ex_dE,HG.out.wd.below B9.out,HG.out.er.below B9.out,HG.out.pr.below B9.out⟩
 refine(f_TakenS HE9.toT ex_prem13 (.inl rfl)).mono ?_
 rintro e W10 ⟨vt,rfl,hT,b10⟩
 rw[ex_takenIds] at hT
 obtain⟨aT,cT,e1⟩:∃x y,vt=.slice x 1 y:=OwnF.sli hT
 subst e1
 have T10:=hid hT
 have B10:=hid (B9.out.trans (b10.mono B9.out.size))
 clear hT HE9
 have R1:=hid (row_below R1.out b10 (row_lt R1.out))
 have R2:=hid (row_below R2.out b10 (row_lt R2.out))
 have R3:=hid (row_below R3.out b10 (row_lt R3.out))
 have R5:=hid (row_below R5.out b10 (row_lt R5.out))
 have O5:=hid (OwnF.below O5.out b10)
 have V5:=hid (OwnF.below V5.out b10)
 have K5:=hid (OwnF.below K5.out b10)
 have S6:=hid (OwnF.below S6.out b10)
 have C8:=hid (OwnF.below C8.out b10)
 clear b10
 have y1:=row_cell R1.out
 have y10:=y1 0
 have y11:=y1 1
 simp at y10 y11
 have l1:=row_lt R1.out
 have HE10:HisG W10 (.slice ao 1 co) (.slice av 13 cv) [⟨1,0⟩] exE:=⟨OwnF.sl O5.out,OwnF.sl V5.out,ex_dO,ex_dE,HG.out.wd.below B10.out,HG.out.er.below B10.out,HG.out.pr.below B10.out⟩
 have VC:=hid (f_Versions (o:=0) HE10.toT ex_prem13 (.inl rfl) (by rw[ex_len];omega) ⟨by omega,by decide⟩)
 clear HE10 y1
 go_wp2_with fail
 refine VC.out.mono ?_
 rintro e W11 ⟨vv,b,rfl,hV,hb,b11⟩
 have hvx:versF 1 (([⟨1,0⟩]:List Ob).map (·.init)) (exA 13) 0=([0,1],true):=ex_vers
 rw[hvx] at hV hb
 subst hb
 obtain⟨aV,cV,e1⟩:∃x y,vv=.slice x 2 y:=OwnF.sli hV
 subst e1
 have U11:=hid hV
 have B11:=hid (B10.out.trans (b11.mono B10.out.size))
 clear hV hvx VC y10 y11 l1
 have R1:=hid (row_below R1.out b11 (row_lt R1.out))
 have R2:=hid (row_below R2.out b11 (row_lt R2.out))
 have R3:=hid (row_below R3.out b11 (row_lt R3.out))
 have R5:=hid (row_below R5.out b11 (row_lt R5.out))
 have O5:=hid (OwnF.below O5.out b11)
 have V5:=hid (OwnF.below V5.out b11)
 have K5:=hid (OwnF.below K5.out b11)
 have S6:=hid (OwnF.below S6.out b11)
 have C8:=hid (OwnF.below C8.out b11)
 have T10:=hid (OwnF.below T10.out b11)
 clear b11
 have y3:=row_cell R3.out 1
 simp at y3
 have l3:=row_lt R3.out
 go_wp2_with fail
 clear y3 l3
 have bl11:Below W11.heap.size W11 (W11.alloc (.cells #[.int .i64 2,.bool false,.int .i64 1,.bool true] 87)):=(Below.refl _ W11).alloc (Nat.le_refl _) _
 have ll11:OwnF stpC 87 2 (W11.alloc (.cells #[.int .i64 2,.bool false,.int .i64 1,.bool true] 87)) W11.heap.size (.slice (some ⟨W11.heap.size,0,none⟩) 2 2) [(2,false),(1,true)]:=by
  have:=OwnF.lit (f:=stpC) (e:=87) (sz:=2) W11 W11.heap.size (Nat.le_refl _) [(2,false),(1,true)] (fun _=>rfl) (by simp)
  simpa[stpC] using this
 have S6:=hid (OwnF.below S6.out bl11)
 have LL:=hid ll11
 have B12:=hid (B11.out.trans (bl11.mono B11.out.size))
 have R2:=hid (row_below R2.out bl11 (row_lt R2.out))
 have R3:=hid (row_below R3.out bl11 (row_lt R3.out))
 have R5:=hid (row_below R5.out bl11 (row_lt R5.out))
 have C8:=hid (OwnF.below C8.out bl11)
 have T10:=hid (OwnF.below T10.out bl11)
 have U11:=hid (OwnF.below U11.out bl11)
 clear bl11 ll11
 generalize W11.alloc (.cells #[.int .i64 2,.bool false,.int .i64 1,.bool true] 87)=W12 at *
 refine(sameSteps_eq _ _ [(2,false),(1,true)] 2 _ rfl (OwnF.sl S6.out) (OwnF.sl LL.out)).mono ?_
 rintro e W13 ⟨rfl,b13⟩
 have B13:=hid (B12.out.trans (b13.mono B12.out.size))
 have R2:=hid (row_below R2.out b13 (row_lt R2.out))
 have R3:=hid (row_below R3.out b13 (row_lt R3.out))
 have R5:=hid (row_below R5.out b13 (row_lt R5.out))
 have C8:=hid (OwnF.below C8.out b13)
 have T10:=hid (OwnF.below T10.out b13)
 have U11:=hid (OwnF.below U11.out b13)
 clear b13 LL S6
 have y5:=row_cell R5.out 6
 simp at y5
 have l5:=row_lt R5.out
 go_wp2_with fail
 have bl13:Below W13.heap.size W13 (W13.alloc (.cells #[.int .i64 1,.int .i64 2] 3)):=(Below.refl _ W13).alloc (Nat.le_refl _) _
 have ll13:OwnF intC 3 1 (W13.alloc (.cells #[.int .i64 1,.int .i64 2] 3)) W13.heap.size (.slice (some ⟨W13.heap.size,0,none⟩) 2 2) [1,2]:=by
  have:=OwnF.lit (f:=intC) (e:=3) (sz:=1) W13 W13.heap.size (Nat.le_refl _) [1,2] (fun _=>rfl) (by simp)
  simpa[intC] using this
 have C8:=hid (OwnF.below C8.out bl13)
 have LL:=hid ll13
 have B14:=hid (B13.out.trans (bl13.mono B13.out.size))
 have R2:=hid (row_below R2.out bl13 (row_lt R2.out))
 have R3:=hid (row_below R3.out bl13 (row_lt R3.out))
 have R5:=hid (row_below R5.out bl13 (row_lt R5.out))
 have T10:=hid (OwnF.below T10.out bl13)
 have U11:=hid (OwnF.below U11.out bl13)
 clear bl13 ll13
 generalize W13.alloc (.cells #[.int .i64 1,.int .i64 2] 3)=W14 at *
 refine(sameInts_eq _ _ [1,2] 2 _ (sl_ofI C8.out rfl) (sl_ofI LL.out rfl)).mono ?_
 rintro e W15 ⟨rfl,b15⟩
 have B15:=hid (B14.out.trans (b15.mono B14.out.size))
 have R2:=hid (row_below R2.out b15 (row_lt R2.out))
 have R3:=hid (row_below R3.out b15 (row_lt R3.out))
 have R5:=hid (row_below R5.out b15 (row_lt R5.out))
 have T10:=hid (OwnF.below T10.out b15)
 have U11:=hid (OwnF.below U11.out b15)
 clear b15 LL C8
 clear y5 l5
 go_wp2_with fail
 have bl15:Below W15.heap.size W15 (W15.alloc (.cells #[.int .i64 1] 3)):=(Below.refl _ W15).alloc (Nat.le_refl _) _
 have ll15:OwnF intC 3 1 (W15.alloc (.cells #[.int .i64 1] 3)) W15.heap.size (.slice (some ⟨W15.heap.size,0,none⟩) 1 1) [1]:=by
  have:=OwnF.lit (f:=intC) (e:=3) (sz:=1) W15 W15.heap.size (Nat.le_refl _) [1] (fun _=>rfl) (by simp)
  simpa[intC] using this
 have T10:=hid (OwnF.below T10.out bl15)
 have LL:=hid ll15
 have B16:=hid (B15.out.trans (bl15.mono B15.out.size))
 have R2:=hid (row_below R2.out bl15 (row_lt R2.out))
 have R3:=hid (row_below R3.out bl15 (row_lt R3.out))
 have R5:=hid (row_below R5.out bl15 (row_lt R5.out))
 have U11:=hid (OwnF.below U11.out bl15)
 clear bl15 ll15
 generalize W15.alloc (.cells #[.int .i64 1] 3)=W16 at *
 refine(sameInts_eq _ _ [1] 1 _ (sl_ofI T10.out rfl) (sl_ofI LL.out rfl)).mono ?_
 rintro e W17 ⟨rfl,b17⟩
 have B17:=hid (B16.out.trans (b17.mono B16.out.size))
 have R2:=hid (row_below R2.out b17 (row_lt R2.out))
 have R3:=hid (row_below R3.out b17 (row_lt R3.out))
 have R5:=hid (row_below R5.out b17 (row_lt R5.out))
 have U11:=hid (OwnF.below U11.out b17)
 clear b17 LL T10
 go_wp2_with fail
 have bl17:Below W17.heap.size W17 (W17.alloc (.cells #[.int .i64 0,.int .i64 1] 3)):=(Below.refl _ W17).alloc (Nat.le_refl _) _
 have ll17:OwnF intC 3 1 (W17.alloc (.cells #[.int .i64 0,.int .i64 1] 3)) W17.heap.size (.slice (some ⟨W17.heap.size,0,none⟩) 2 2) [0,1]:=by
  have:=OwnF.lit (f:=intC) (e:=3) (sz:=1) W17 W17.heap.size (Nat.le_refl _) [0,1] (fun _=>rfl) (by simp)
  simpa[intC] using this
 have U11:=hid (OwnF.below U11.out bl17)
 have LL:=hid ll17
 have B18:=hid (B17.out.trans (bl17.mono B17.out.size))
 have R2:=hid (row_below R2.out bl17 (row_lt R2.out))
 have R3:=hid (row_below R3.out bl17 (row_lt R3.out))
 have R5:=hid (row_below R5.out bl17 (row_lt R5.out))
 clear bl17 ll17
 generalize W17.alloc (.cells #[.int .i64 0,.int .i64 1] 3)=W18 at *
 refine(sameInts_eq _ _ [0,1] 2 _ (sl_ofI U11.out rfl) (sl_ofI LL.out rfl)).mono ?_
 rintro e W19 ⟨rfl,b19⟩
 have B19:=hid (B18.out.trans (b19.mono B18.out.size))
 have R2:=hid (row_below R2.out b19 (row_lt R2.out))
 have R3:=hid (row_below R3.out b19 (row_lt R3.out))
 have R5:=hid (row_below R5.out b19 (row_lt R5.out))
 clear b19 LL U11
 have y30:=row_cell R3.out 0
 have y50:=row_cell R5.out 0
 have y53:=row_cell R5.out 3
 have y21:=row_cell R2.out 1
 simp at y30 y50 y53 y21
 have l2:=row_lt R2.out
 have l3:=row_lt R3.out
 have l5:=row_lt R5.out
 go_wp2_with fail
 refine bodyPost_ret (v:=.bool true) (by simp[results,Tryz.results7,go_sem]) rfl ⟨rfl,B19.out⟩
end
