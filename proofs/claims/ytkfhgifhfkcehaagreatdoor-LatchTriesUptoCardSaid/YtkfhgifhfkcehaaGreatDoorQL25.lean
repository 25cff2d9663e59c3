/- Parts of the proof, merged by program out of 2 texts (ShR, ShS): the first: The automaton of well-formed histories takes a begin. Conditions: those of each theorem, as typed. -/
import Derived.Test.YtkfhgifhfkcehaaGreatDoorQL24
set_option linter.unusedVariables false
set_option linter.unusedSimpArgs false
set_option linter.unusedSectionVars false
set_option maxRecDepth 100000
set_option maxHeartbeats 4000000
namespace Go.Proofs.YtkfhgifhfkcehaaGreatDoor
open Go.Maps Go.RowKit
section
attribute [local irreducible] wpL
def FeedRet (w:World) (B bA:Nat) (os:List Ob) (n:Nat) (A':Au) (e:Ending) (w':World):Prop:=e=.returned .nilIface∧AuAt w' B bA os (n+1) A'∧Below B w w'
theorem KeepsN_turned {N:Nat→Prop} {w w':World} {b:Nat} (h:w.mapTurned w' b) (hb:¬N b):RK.KeepsN N w w':=⟨by rw[turned_size h];exact Nat.le_refl _,fun k hk=>turned_other h (by rintro rfl;exact hb hk)⟩
theorem feed_begin (xk xx xh xj xo xy xv xr:Int) {B bA n:Nat} {os:List Ob} {A:Au} (w:World) (hx:EvOk os.length ⟨xk,xx,xh,xj,xo,xy,xv,xr⟩) (hk:xk=1) (hi:¬hasId xx A) (hb:¬isBusy xh A) (hn:n < 400) (hA:A.length≤1000) (h:AuAt w B bA os n A) (hW:WordsAt w):
  Calls Tryz.prog 70 #[.pointer (some ⟨bA,0,none⟩),evV ⟨xk,xx,xh,xj,xo,xy,xv,xr⟩] w (FeedRet w B bA os n (A++[newSt ⟨xk,xx,xh,xj,xo,xy,xv,xr⟩ n])):=by
 obtain⟨bY,bZ,ov,tv,bs,h⟩:=h
 have r0:=h.row
 have l0:=row_lt r0
 have y:=row_cell r0
 have y1:=y 1
 simp at y1
 have b0:Below w.heap.size w (w.alloc (.cells #[.int .i64 xk,.int .i64 xx,.int .i64 xh,.int .i64 xj,.int .i64 xo,.int .i64 xy,.int .i64 xv,.int .i64 xr] 53)):=(Below.refl _ w).alloc (Nat.le_refl _) _
 have re:=row_new w (.cells #[.int .i64 xk,.int .i64 xx,.int .i64 xh,.int .i64 xj,.int .i64 xo,.int .i64 xy,.int .i64 xv,.int .i64 xr] 53)
 have hv:=hid (e_Valid ⟨xk,xx,xh,xj,xo,xy,xv,xr⟩ os.length hx _ (hW.below b0))
 have q1:((n:Int)==400)=false:=by simp;omega
 have HI:=hid hi
 have HBs:=hid hb
 have H:=hid h
 have HB0:=hid b0
 have RE:=hid re
 have hAB:=h.hB
 have hBw:B≤w.heap.size:=by omega
 subst hk
 clear y r0 h hx hi hb hW b0 re
 go_enter Tryz.func70,Tryz.ntmps70
 go_wp2_with fail
 obtain⟨W,hWW⟩:∃W,W=w.alloc (.cells #[.int .i64 1,.int .i64 xx,.int .i64 xh,.int .i64 xj,.int .i64 xo,.int .i64 xy,.int .i64 xv,.int .i64 xr] 53):=⟨_,rfl⟩
 rw[←hWW] at hv HB0 RE ⊢
 clear hWW
 refine(hv.out).mono ?_
 rintro e W1 ⟨rfl,b1⟩
 have H1:=hid ((H.out.below HB0.out).below b1)
 have B1:=hid (HB0.out.trans (b1.mono HB0.out.size))
 have re1:=row_below RE.out b1 (row_lt RE.out)
 have le:=row_lt re1
 have ra1:=H1.out.row
 have la:=row_lt ra1
 have hea:w.heap.size≠bA:=by omega
 have hz1:=B1.out.size
 have hbew:w.heap.size < W1.heap.size:=le
 have y:=row_cell re1
 have e0:=y 0
 have e1:=y 1
 have e2:=y 2
 simp at e0 e1 e2
 have z:=row_cell ra1
 have a1:=z 1
 have a2:=z 2
 have a3:=z 3
 have a4:=z 4
 simp at a1 a2 a3 a4
 have yf:∀j,W1.frozen? ⟨bA,j,none⟩=false:=fun j=>row_free ra1 j
 obtain⟨MY,hmY,f1,f2⟩:=H1.out.by_.2
 obtain⟨MZ,hmZ,f5⟩:=H1.out.bz.2
 have lY:=hmY.lt
 have lZ:=hmZ.lt
 have lk1:=(hmY.drew.look Tryz.underlying3 Tryz.underlying146 (zeroPs W1.drew) xx (f2 xx HI.out)).2
 have lk2:=(hmZ.drew.drew.look Tryz.underlying3 Tryz.underlying146 (zeroPs W1.drew.drew) xh (f5 xh HBs.out)).1
 simp only[Option.getD_none,Option.isSome_none] at lk1 lk2
 have RE1:=hid re1
 have RA1:=hid ra1
 have F:=hid (And.intro hmY (And.intro f1 (And.intro f2 (And.intro hmZ f5))))
 clear y z re1 ra1 hmY f1 f2 hmZ f5 b1 hv
 go_wp2_with fail
 refine wp_rN (W1.heap.size) [0,0,0,1,0,1,2,0,0,0,0,0] (.fin [0,1,2,3,4,5,6,7,8,9,10,11]) (by kernel_rfl) ?_
 simp only[wpT,selX,guardAt,sD,sE,sF,sG]
 repeat first|(refine wpL_p fun K hK=>?_;go_simp;refine hK _ _ ?_;clear hK K)|(apply wpL_s;(intro w2 hw2;have hk1:=hw2.cell;have hk3:=hw2.1;clear hw2;go_simp;with_reducible rfl);simp only[Act.put,sA,sB,sC])
 refine wpL_e (fun K hK=>?_)
 go_simp
 refine hK _ _ ?_
 clear hK K lk1
 repeat first|(refine wpL_p fun K hK=>?_;go_simp;refine hK _ _ ?_;clear hK K)|refine wpL_nil ?_
 go_wp2_with fail
 refine wp_rN (W1.heap.size) [0,0,0,1,0,1,2,0,0] (.fin [0,1,2,3,4,5,6,7,8]) (by kernel_rfl) ?_
 simp only[wpT,selX,guardAt,sD,sE,sF,sG]
 repeat first|(refine wpL_p fun K hK=>?_;go_simp;refine hK _ _ ?_;clear hK K)|(apply wpL_s;(intro w2 hw2;have hk1:=hw2.cell;have hk3:=hw2.1;clear hw2;go_simp;with_reducible rfl);simp only[Act.put,sA,sB,sC])
 refine wpL_e (fun K hK=>?_)
 go_simp
 refine hK _ _ ?_
 clear hK K lk2
 repeat first|(refine wpL_p fun K hK=>?_;go_simp;refine hK _ _ ?_;clear hK K)|refine wpL_nil ?_
 go_wp2_with fail
 refine wp_rN (W1.heap.size) [0,1,0,1,0,0,0,1,0,0,3,0] (.fin [0,1,2,3,4,5,6,7,8,9,10,11]) (by kernel_rfl) ?_
 simp only[wpT,selX,guardAt,sD,sE,sF,sG]
 repeat first|(refine wpL_p fun K hK=>?_;go_simp;refine hK _ _ ?_;clear hK K)|(apply wpL_s;(intro w2 hw2;have hk1:=hw2.cell;have hk3:=hw2.1;clear hw2;go_simp;with_reducible rfl);simp only[Act.put,sA,sB,sC])
 refine wpL_k (fun K hK=>?_)
 go_simp
 refine hK _ _ (RN.KeepsN.alloc _ _ (Nat.le_refl _)) ?_
 clear hK K
 repeat first|(refine wpL_p fun K hK=>?_;go_simp;refine hK _ _ ?_;clear hK K)|refine wpL_nil ?_
 have bV:Below W1.heap.size W1 (W1.alloc (.cells #[.int .i64 xx,.int .i64 xh,.int .i64 1,.int .i64 n,.int .i64 (-1),.int .i64 (-1),.slice none 0 0,.int .i64 1] 151)).drew.drew.drew:=((Below.refl _ W1).alloc (Nat.le_refl _) _).drew.drew.drew
 have rp:(W1.alloc (.cells #[.int .i64 xx,.int .i64 xh,.int .i64 1,.int .i64 n,.int .i64 (-1),.int .i64 (-1),.slice none 0 0,.int .i64 1] 151)).drew.drew.drew.heap[W1.heap.size]?=some (.cells #[.int .i64 xx,.int .i64 xh,.int .i64 1,.int .i64 n,.int .i64 (-1),.int .i64 (-1),.slice none 0 0,.int .i64 1] 151 (0,0)):=row_new W1 _
 have zV:W1.heap.size < (W1.alloc (.cells #[.int .i64 xx,.int .i64 xh,.int .i64 1,.int .i64 n,.int .i64 (-1),.int .i64 (-1),.slice none 0 0,.int .i64 1] 151)).drew.drew.drew.heap.size:=row_lt rp
 generalize (W1.alloc (.cells #[.int .i64 xx,.int .i64 xh,.int .i64 1,.int .i64 n,.int .i64 (-1),.int .i64 (-1),.slice none 0 0,.int .i64 1] 151)).drew.drew.drew=V at *
 have HV:=hid (H1.out.below bV)
 have BV:=hid (B1.out.trans (bV.mono hz1))
 have BV1:=hid bV
 have rv:=row_below RA1.out bV la
 have ev:=row_below RE1.out bV le
 have lv:=row_lt rv
 have z:=row_cell rv
 clear a1 a2 a3 a4 e0 e1 e2 yf
 have a1:=z 1
 have a2:=z 2
 have a3:=z 3
 have a4:=z 4
 simp at a1 a2 a3 a4
 have hBV:B≤V.heap.size:=by omega
 have hlen:(bs.map fun p=>ptrV p.1).length≤1000:=by rw[List.length_map,HV.out.len];exact hA
 have RV:=hid rv
 have EV:=hid ev
 have RP:=hid rp
 clear z rv ev rp bV F lY lZ
 go_wp2_with (at_builtin;refine wpList_appF rfl _ _ _ rfl _ 8 Tryz.underlying145 infoPs rfl HV.out.txs (ptrV W1.heap.size) hBV (by rfl) (by rfl) (by first|rfl|simp) rfl (ptr_one _) (by first|omega|(simp only[List.length_append,List.length_cons,List.length_nil,List.length_replicate];omega)) (by first|omega|(simp only[List.length_append,List.length_cons,List.length_nil,List.length_replicate];omega)) ?_;refine Stop.halt ?_)
 refine Stop.go ?_
 intro g cap X ho hg
 have c1:=Chg.grw (S:=fun k=>tv.ownBlock=some k) hg (fun _ h=>h)
 have rx:=row_grw RV.out hg (OwnF.neT HV.out.txs RV.out (by decide))
 have ex:=row_grw EV.out hg (OwnF.neT HV.out.txs EV.out (by decide))
 have px:=row_grw RP.out hg (OwnF.neT HV.out.txs RP.out (by decide))
 have notM:∀b,(∃es c,V.heap[b]?=some (.map es c))→¬tv.ownBlock=some b:=fun b hb hk=>by
  obtain⟨cs,fz,hh⟩:=OwnF.typ HV.out.txs hk
  obtain⟨es,c,hb⟩:=hb
  rw[hb] at hh;cases hh
 obtain⟨MY,hmY,f1,f2⟩:=HV.out.by_.2
 obtain⟨MZ,hmZ,f5⟩:=HV.out.bz.2
 have xY:=hmY.chg c1 (notM _ hmY.isMap)
 have xZ:=hmZ.chg c1 (notM _ hmZ.isMap)
 have lx:=row_lt rx
 have zx:V.heap.size≤X.heap.size:=hg.size
 clear a1 a2 a3 a4
 have z:=row_cell rx
 have a2:=z 2
 simp at a2
 have yf:∀j,X.frozen? ⟨bA,j,none⟩=false:=fun j=>row_free rx j
 have HX:=hid (And.intro ho (And.intro hg (And.intro c1 (And.intro rx (And.intro ex (And.intro px (And.intro xY xZ)))))))
 have FF:=hid (And.intro f1 (And.intro f2 f5))
 clear z ho hg c1 rx ex px xY xZ notM hmY hmZ f1 f2 f5
 go_wp2_with fail
 obtain⟨ho,hg,c1,rx,ex,px,xY,xZ⟩:=HX.out
 try simp only[List.length_map] at ho hg
 have hbe:bA≠w.heap.size:=fun e=>hea e.symm
 have hpa:W1.heap.size≠bA:=by omega
 have r1:=row_set rx 2 (.slice (some ⟨g,0,none⟩) (bs.length+1) cap)
 have v1:=row_other (g':=bA) (j:=2) (v:=.slice (some ⟨g,0,none⟩) (bs.length+1) cap) ex hbe
 have p1:=row_other (g':=bA) (j:=2) (v:=.slice (some ⟨g,0,none⟩) (bs.length+1) cap) px (Ne.symm hpa)
 have nY:bY≠bA:=fun e=>by
  obtain⟨es,c,hh⟩:=xY.isMap
  rw[e,rx] at hh;cases hh
 have nZ:bZ≠bA:=fun e=>by
  obtain⟨es,c,hh⟩:=xZ.isMap
  rw[e,rx] at hh;cases hh
 have nYe:bY≠w.heap.size:=fun e=>by
  obtain⟨es,c,hh⟩:=xY.isMap
  rw[e,ex] at hh;cases hh
 have nZe:bZ≠w.heap.size:=fun e=>by
  obtain⟨es,c,hh⟩:=xZ.isMap
  rw[e,ex] at hh;cases hh
 have Y1:=xY.set (g:=bA) (j:=2) (v:=.slice (some ⟨g,0,none⟩) (bs.length+1) cap) nY
 have Z1:=xZ.set (g:=bA) (j:=2) (v:=.slice (some ⟨g,0,none⟩) (bs.length+1) cap) nZ
 have hgne:(Value.slice (some ⟨g,0,none⟩) (bs.length+1) cap).ownBlock≠some bA:=OwnF.neT ho rx (by decide)
 have T1:=OwnF.other (j:=2) ho hgne (.slice (some ⟨g,0,none⟩) (bs.length+1) cap)
 have zX:(X.setCell ⟨bA,2,none⟩ (.slice (some ⟨g,0,none⟩) (bs.length+1) cap)).heap.size=X.heap.size:=by simp
 have c2:Chg (fun k=>k=bA∨tv.ownBlock=some k∨k=bY∨k=bZ) V (X.setCell ⟨bA,2,none⟩ (.slice (some ⟨g,0,none⟩) (bs.length+1) cap)):=(c1.mono fun j hj=>.inr (.inl hj)).set (.inl rfl)
 generalize X.setCell ⟨bA,2,none⟩ (.slice (some ⟨g,0,none⟩) (bs.length+1) cap)=Y at *
 clear a2 yf
 have z:=row_cell r1
 have a1:=z 1
 have a3:=z 3
 have a4:=z 4
 simp at a1 a3 a4
 have y:=row_cell v1
 have e1:=y 1
 have e2:=y 2
 simp at e1 e2
 have HY:=hid (And.intro r1 (And.intro v1 (And.intro p1 (And.intro Y1 (And.intro Z1 (And.intro T1 c2))))))
 have lxY:V.heap.size≤Y.heap.size:=by omega
 clear z y r1 v1 p1 Y1 Z1 T1 c2 ho hg c1 rx ex px xY xZ zX
 refine wp_rK (fun k=>k=bA∨k=w.heap.size) [0,0,0,1,0,1,0,0,0,1,0,1,0,0,3,0,3,3,0,3] (.fin [0,1,2,3,4,5,6,7,8,9,10,11,12,13,14,15,16,17,18,19]) (by kernel_rfl) ?_
 simp only[wpT,selX,guardAt,sD,sE,sF,sG]
 repeat first|(refine wpL_p fun K hK=>?_;go_simp;refine hK _ _ ?_;clear hK K)|(apply wpL_s;(intro w2 hw2;have hk1:=hw2.cell;(try simp only at hk1);have hk3:=hw2.1;clear hw2;go_simp;with_reducible rfl);simp only[Act.put,sA,sB,sC])
 have nNY:¬(bY=bA∨bY=w.heap.size):=fun h=>h.elim nY nYe
 have nNZ:¬(bZ=bA∨bZ=w.heap.size):=fun h=>h.elim nZ nZe
 have hyz:=H1.out.ne
 refine wpL_k (fun K hK=>?_)
 refine HY.out.2.2.2.1.drew.wp_entry Tryz.underlying3 Tryz.underlying146 (zeroPs _) (a:=xx) rfl rfl rfl ?_
 intro X1 v1 n1 M1 ha1 hn1 t1
 refine hK _ _ (KeepsN_turned t1 nNY) ?_
 clear hK K
 repeat (refine wpL_p fun K hK=>?_;go_simp;refine hK _ _ ?_;clear hK K)
 refine wpL_k (fun K hK=>?_)
 refine ha1.wp_stored rfl rfl rfl rfl ?_
 intro X2 hm2 t2
 refine hK _ _ (KeepsN_turned t2 nNY) ?_
 clear hK K
 have zz2:RawM X2 bZ MZ:=((HY.out.2.2.2.2.1.drew).obj (turned_other t1 (Ne.symm hyz))).obj (turned_other t2 (Ne.symm hyz))
 refine wpL_k (fun K hK=>?_)
 refine zz2.wp_entry Tryz.underlying3 Tryz.underlying146 (zeroPs _) (a:=xh) rfl rfl rfl ?_
 intro X3 v3 n3 M3 ha3 hn3 t3
 refine hK _ _ (KeepsN_turned t3 nNZ) ?_
 clear hK K
 repeat (refine wpL_p fun K hK=>?_;go_simp;refine hK _ _ ?_;clear hK K)
 refine wpL_k (fun K hK=>?_)
 refine ha3.wp_stored rfl rfl rfl rfl ?_
 intro X4 hm4 t4
 refine hK _ _ (KeepsN_turned t4 nNZ) ?_
 clear hK K
 have yy4:=(hm2.obj (turned_other t3 hyz)).obj (turned_other t4 hyz)
 obtain⟨r1,v1,p1,Y1,Z1,T1,c2⟩:=HY.out
 have r4:=row_map t4 (row_map t3 (row_map t2 (row_map t1 (row_drew r1))))
 have p4:=row_map t4 (row_map t3 (row_map t2 (row_map t1 (row_drew p1))))
 have c4:=(((c2.drew.trans (Chg.turned (S:=fun k=>k=bY) t1 rfl) fun j _ hj=>.inr (.inr (.inl hj))).trans (Chg.turned (S:=fun k=>k=bY) t2 rfl) fun j _ hj=>.inr (.inr (.inl hj))).trans (Chg.turned (S:=fun k=>k=bZ) t3 rfl) fun j _ hj=>.inr (.inr (.inr hj))).trans (Chg.turned (S:=fun k=>k=bZ) t4 rfl) fun j _ hj=>.inr (.inr (.inr hj))
 have tt:∀{P Q:World} {b:Nat},P.mapTurned Q b→OwnF valC 149 1 P B (.slice (some ⟨g,0,none⟩) (bs.length+1) cap) (bs.map (fun p=>ptrV p.1)++[ptrV W1.heap.size])→OwnF valC 149 1 Q B (.slice (some ⟨g,0,none⟩) (bs.length+1) cap) (bs.map (fun p=>ptrV p.1)++[ptrV W1.heap.size]):=fun {P Q b} ht ho=>OwnF.chg ho (Chg.turned (S:=fun k=>k=b) ht rfl) fun k hk e=>by
  obtain⟨cs,fz,hh⟩:=OwnF.typ ho hk
  obtain⟨es,c,es',c',hb,-⟩:=ht
  rw[e,hb] at hh;cases hh
 have T4:=tt t4 (tt t3 (tt t2 (tt t1 (OwnF.drew T1))))
 have l4:=row_lt r4
 clear a1 a3 a4 e1 e2
 have z:=row_cell r4
 have a1:=z 1
 simp at a1
 have yf:∀j,X4.frozen? ⟨bA,j,none⟩=false:=fun j=>row_free r4 j
 have H4:=hid (And.intro r4 (And.intro p4 (And.intro c4 (And.intro T4 (And.intro yy4 hm4)))))
 have HN:=hid (And.intro hn1 hn3)
 clear z r4 p4 c4 T4 yy4 hm4 tt r1 v1 p1 Y1 Z1 T1 c2 t1 t2 t3 t4 ha1 ha3 hm2 zz2 hn1 hn3 nNY nNZ HY
 repeat refine wpL_nil ?_
 go_wp2
 go_ret
 obtain⟨r4,p4,c4,T4,yy4,hm4⟩:=H4.out
 obtain⟨f1,f2,f5⟩:=FF.out
 have r5:=row_set r4 1 (.int .i64 ((n:Int)+1))
 have cc:Chg (fun k=>k=bA∨tv.ownBlock=some k∨k=bY∨k=bZ) W1 (X4.setCell ⟨bA,1,none⟩ (.int .i64 ((n:Int)+1))):=((Chg.of_below BV1.out).trans c4 fun j _ hj=>hj).set (.inl rfl)
 have key:=H1.out.begun cc (n':=n+1) (p:=W1.heap.size) (tv':=.slice (some ⟨g,0,none⟩) (bs.length+1) cap) (s:=newSt ⟨1,xx,xh,xj,xo,xy,xv,xr⟩ n) r5 (by rw[List.map_append];exact OwnF.other T4 hgne _)
  ⟨row_other p4 (Ne.symm hpa),by show B≤W1.heap.size;omega,OwnF.nil _ _⟩ (Nat.le_refl _) (yy4.set nY) f1 f2 (fun k hk=>(rup_ne hk).trans (HN.out.1 k hk)) rup_same HI.out (hm4.set nZ) f5 (fun k hk=>(rup_ne hk).trans (HN.out.2 k hk)) rfl
 refine⟨rfl,⟨bY,bZ,ov,_,_,key.zmono fun x hx=>isBusy_snoc hx (by simp[newSt])⟩,?_⟩
 have gY:=H1.out.by_.1
 have gZ:=H1.out.bz.1
 have gT:∀k,tv.ownBlock=some k→B≤k:=fun k hk=>(OwnF.lt H1.out.txs k hk).1
 exact(B1.out.mono hBw).trans (cc.below (fun j hj=>by
  rcases hj with rfl|hj|rfl|rfl
  ·exact hAB
  ·exact gT j hj
  ·exact gY
  ·exact gZ) (by omega))
end
theorem wp_mid {P:Program} {c:Code} {Q:Exit→Act→World→Prop} {a:Act} {w:World} (R:Act→Act→World→Prop) (h1:c.wp P (fun e a' X=>e=.normal∧R a a' X) a w) (h2:∀a' X,R a a' X→Q .normal a' X):c.wp P Q a w:=
 wp_mono h1 (by rintro e a' X ⟨rfl,h⟩;exact h2 a' X h)
theorem zeroMove (w:World):(zeroValue 223).run Tryz.prog w=.ok (.agg #[.slice none 0 0,.nilFunc]) w:=by kernel_rfl
theorem DoIs.cf {w:World} {B0:Nat} {k:Int} {F:FuncId} {caps:Array Value} (h:DoIs w B0 k F caps) (args:Array Value) (X:World):Sem.run Tryz.prog (callFunc F args) X=.ok (.enter F args) X:=by
 rcases h with⟨-,rfl,-⟩|⟨-,rfl,-⟩|⟨-,rfl,-⟩|⟨-,rfl,-⟩|⟨rfl,-⟩ <;> kernel_rfl
theorem DoIs.base {w:World} {B0 B1:Nat} {k:Int} {F:FuncId} {caps:Array Value} (h:DoIs w B0 k F caps) (hB:B1≤B0):DoIs w B1 k F caps:=by
 rcases h with h|h|h|h|⟨h1,c,st,h2,h3,h4,h5⟩
 ·exact .inl h
 ·exact .inr (.inl h)
 ·exact .inr (.inr (.inl h))
 ·exact .inr (.inr (.inr (.inl h)))
 ·exact .inr (.inr (.inr (.inr ⟨h1,c,st,h2,h3,h4,by omega⟩)))
theorem DoIs.set {w:World} {B0 b j:Nat} {u:Value} {k:Int} {F:FuncId} {caps:Array Value} (h:DoIs w B0 k F caps) (hb:b < B0):DoIs (w.setCell ⟨b,j,none⟩ u) B0 k F caps:=by
 rcases h with h|h|h|h|⟨h1,c,st,h2,h3,h4,h5⟩
 ·exact .inl h
 ·exact .inr (.inl h)
 ·exact .inr (.inr (.inl h))
 ·exact .inr (.inr (.inr (.inl h)))
 ·exact .inr (.inr (.inr (.inr ⟨h1,c,st,h2,h3,row_other h4 (by omega),h5⟩)))
theorem move_cases {n:Nat} {x:Ev} {s s':St} (hm:moveSt n x s=some s'):
  x.kind=2∧s.stand=1∧s'=callSt x n s∨(x.kind=3∧s.stand=2∧∃d,s.deeds.getLast?=some d∧fitsR d.op x.ret∧s'=retSt x.ret x.val n s)∨x.kind=4∧s.stand=1∧s'=tryS n s∨x.kind=5∧s.stand=3∧s'=endS 3 n s∨
   x.kind=6∧(s.stand=1∨s.stand=2∨s.stand=3∨s.stand=4)∧s'=endS 4 n s∨x.kind=7∧s.stand=1∧s'=canS s:=by
 unfold moveSt at hm
 split at hm
 ·rename_i hk
  split at hm
  ·rename_i h1;exact .inl ⟨hk,h1,(Option.some.inj hm).symm⟩
  ·cases hm
 ·split at hm
  ·rename_i hk
   split at hm
   ·rename_i h1
    cases hd:s.deeds.getLast? with
    |none=>rw[hd] at hm;cases hm
    |some d=>
     rw[hd] at hm
     simp only at hm
     split at hm
     ·rename_i h2
      refine .inr (.inl ⟨hk,h1,d,rfl,h2,?_⟩)
      rw[←Option.some.inj hm]
      unfold retSt
      rw[hd]
      rfl
     ·cases hm
   ·cases hm
  ·split at hm
   ·rename_i hk
    split at hm
    ·rename_i h1;exact .inr (.inr (.inl ⟨hk,h1,(Option.some.inj hm).symm⟩))
    ·cases hm
   ·split at hm
    ·rename_i hk
     split at hm
     ·rename_i h1;exact .inr (.inr (.inr (.inl ⟨hk,h1,(Option.some.inj hm).symm⟩)))
     ·cases hm
    ·split at hm
     ·rename_i hk
      split at hm
      ·rename_i h1;exact .inr (.inr (.inr (.inr (.inl ⟨hk,h1,(Option.some.inj hm).symm⟩))))
      ·cases hm
     ·split at hm
      ·rename_i hk
       split at hm
       ·rename_i h1;exact .inr (.inr (.inr (.inr (.inr ⟨hk,h1,(Option.some.inj hm).symm⟩))))
       ·cases hm
      ·cases hm
theorem move_from {n:Nat} {x:Ev} {s s':St} (hm:moveSt n x s=some s'):s.stand ∈ fromOf x.kind∧2≤x.kind∧x.kind < 8:=by
 rcases move_cases hm with⟨h1,h2,-⟩|⟨h1,h2,-⟩|⟨h1,h2,-⟩|⟨h1,h2,-⟩|⟨h1,h2,-⟩|⟨h1,h2,-⟩ <;> rw[h1] <;> first|(rw[h2];decide)|(rcases h2 with h2|h2|h2|h2 <;> rw[h2] <;> decide)
theorem move_keeps {n:Nat} {x:Ev} {s s':St} (hm:moveSt n x s=some s'):s'.id=s.id∧s'.thread=s.thread∧s.stand≠5:=by
 rcases move_cases hm with⟨h1,h2,rfl⟩|⟨h1,h2,d,hd,-,rfl⟩|⟨h1,h2,rfl⟩|⟨h1,h2,rfl⟩|⟨h1,h2,rfl⟩|⟨h1,h2,rfl⟩
 ·exact ⟨rfl,rfl,by omega⟩
 ·unfold retSt;rw[hd];exact⟨rfl,rfl,by omega⟩
 ·exact ⟨rfl,rfl,by omega⟩
 ·exact ⟨rfl,rfl,by omega⟩
 ·exact ⟨rfl,rfl,by omega⟩
 ·exact ⟨rfl,rfl,by omega⟩
theorem busy_set {A:Au} {k:Nat} {s s':St} {x:Int} (hs:A[k]?=some s) (hth:s'.thread=s.thread) (h5:s'.stand≠5∨x≠s.thread) (h:isBusy x A):isBusy x (A.set k s'):=by
 obtain⟨t,ht,hx,hst⟩:=h
 obtain⟨j,hj⟩:=List.mem_iff_getElem?.1 ht
 by_cases e:k=j
 ·subst e
  rw[hs] at hj
  obtain rfl:=Option.some.inj hj
  refine⟨s',mem_set_self hs,by rw[hth,hx],?_⟩
  rcases h5 with h5|h5
  ·exact h5
  ·exact absurd hx.symm h5
 ·exact ⟨t,List.mem_iff_getElem?.2 ⟨j,by rw[List.getElem?_set_ne e];exact hj⟩,hx,hst⟩
theorem from_len (k:Int):(fromOf k).length≤4:=by
 unfold fromOf
 repeat' split
 all_goals decide
theorem from_sl {w:World} {g:Nat} {k:Int} (h:w.heap[g]?=some (.cells ((fromOf k).map (.int .i64)).toArray 3 (0,0))):Sl w w.heap.size 1 (.slice (some ⟨g,0,none⟩) (fromOf k).length (fromOf k).length) (fromOf k).length ((fromOf k).map (.int .i64)):=
 ⟨_,_,rfl,by have:=from_len k;omega,by simp,fun _=>⟨g,0,rfl,row_lt h,fun j u hu=>by rw[Nat.zero_add,row_cell h];simpa using hu⟩⟩
theorem do_call {W:World} {B B0 p n:Nat} {dv:Value} {s s':St} {F:FuncId} {caps:Array Value} (xk xx xh xj xo xy xv xr:Int) (hst:StAt W B (p,dv) s) (hd:DoIs W B0 xk F caps) (hp:p < B0) (hm:moveSt n ⟨xk,xx,xh,xj,xo,xy,xv,xr⟩ s=some s') (hl:s.deeds.length≤1000):
  Calls Tryz.prog F (#[.pointer (some ⟨p,0,none⟩),evV ⟨xk,xx,xh,xj,xo,xy,xv,xr⟩,.int .i64 n]++caps) W (MvRet W B (p,dv) s'):=by
 rcases move_cases hm with⟨h1,h2,rfl⟩|⟨h1,h2,d,hdl,hf,rfl⟩|⟨h1,h2,rfl⟩|⟨h1,h2,rfl⟩|⟨h1,h2,rfl⟩|⟨h1,h2,rfl⟩ <;> simp only at h1 <;> rcases hd with⟨e1,rfl,rfl⟩|⟨e1,rfl,rfl⟩|⟨e1,rfl,rfl⟩|⟨e1,rfl,rfl⟩|⟨rfl,c,st,e1,rfl,hc,hcB⟩ <;> first|(exfalso;omega)|skip
 ·exact mv_call xk xx xh xj xo xy xv xr n hst hl
 ·exact mv_ret xk xx xh xj xo xy xv xr n d hst hdl hf hl
 ·exact mv_try xk xx xh xj xo xy xv xr n hst
 ·obtain rfl:st=3:=by omega
  exact mv_end xk xx xh xj xo xy xv xr n c 3 hc (by omega) hst
 ·obtain rfl:st=4:=by omega
  exact mv_end xk xx xh xj xo xy xv xr n c 4 hc (by omega) hst
 ·exact mv_can xk xx xh xj xo xy xv xr n hst
