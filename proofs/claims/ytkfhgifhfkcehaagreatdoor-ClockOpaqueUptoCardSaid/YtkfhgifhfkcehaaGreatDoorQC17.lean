/- Parts of the proof; the first: The automaton of well-formed histories takes a begin. Conditions: those of each theorem, as typed. -/
import Derived.Test.YtkfhgifhfkcehaaGreatDoorQC16
import Derived.Test.YtkfhgifhfkcehaaGreatDoorQC13
set_option linter.unusedVariables false
set_option linter.unusedSimpArgs false
set_option linter.unusedSectionVars false
set_option maxRecDepth 100000
set_option maxHeartbeats 4000000
namespace Go.Proofs.YtkfhgifhfkcehaaGreatDoor
open Go.Maps Go.RowKit
section
attribute [local irreducible] xL
def FeedRet (w:World) (B bA:Nat) (os:List Ob) (n:Nat) (A':Au) (e:Ending) (w':World):Prop:=e=.returned .nilIface/\AuAt w' B bA os (n+1) A'/\Below B w w'
theorem KeepsN_turned {N:Nat->Prop} {w w':World} {b:Nat} (h:w.mapTurned w' b) (hb:¬N b):RK.KeepsN N w w':=⟨by rw[turned_size h];exact Nat.le_refl _,fun k hk=>xH h (by rintro rfl;exact hb hk)⟩
theorem feed_begin (xk xx xh xj xo xy xv xr:Int) {B bA n:Nat} {os:List Ob} {A:Au} (w:World) (hx:EvOk os.length ⟨xk,xx,xh,xj,xo,xy,xv,xr⟩) (hk:xk=1) (hi:¬hasId xx A) (hb:¬isBusy xh A) (hn:n < 400) (hA:A.length<=1000) (h:AuAt w B bA os n A) (hW:xa w):
  Calls Tryz.prog 70 #[.pointer (some ⟨bA,0,none⟩),yv ⟨xk,xx,xh,xj,xo,xy,xv,xr⟩] w (FeedRet w B bA os n (A++[yE ⟨xk,xx,xh,xj,xo,xy,xv,xr⟩ n])):=by
 obtain⟨bY,bZ,ov,tv,bs,h⟩:=h;have r0:=h.row;have l0:=qh r0;have y:=qg r0;have y1:=y 1;simp at y1;have b0:Below w.heap.size w (w.alloc (.cells #[.int .i64 xk,.int .i64 xx,.int .i64 xh,.int .i64 xj,.int .i64 xo,.int .i64 xy,.int .i64 xv,.int .i64 xr] 53)):=(Below.refl _ w).alloc (Nat.le_refl _) _;have re:=qy w (.cells #[.int .i64 xk,.int .i64 xx,.int .i64 xh,.int .i64 xj,.int .i64 xo,.int .i64 xy,.int .i64 xv,.int .i64 xr] 53);have hv:=qj (e_Valid ⟨xk,xx,xh,xj,xo,xy,xv,xr⟩ os.length hx _ (hW.below b0));have q1:((n:Int)==400)=false:=by simp;omega
 have HI:=qj hi;have HBs:=qj hb;have H:=qj h;have HB0:=qj b0;have RE:=qj re;have hAB:=h.hB;have hBw:B<=w.heap.size:=by omega
 subst hk;clear y r0 h hx hi hb hW b0 re;go_enter Tryz.func70,Tryz.ntmps70;go_wp2_with fail;obtain⟨W,hWW⟩:∃W,W=w.alloc (.cells #[.int .i64 1,.int .i64 xx,.int .i64 xh,.int .i64 xj,.int .i64 xo,.int .i64 xy,.int .i64 xv,.int .i64 xr] 53):=⟨_,rfl⟩
 rw[←hWW] at hv HB0 RE ⊢;clear hWW;refine(hv.o).mono ?_;rintro e W1 ⟨rfl,b1⟩;have H1:=qj ((H.o.below HB0.o).below b1);have B1:=qj (HB0.o.trans (b1.mono HB0.o.size));have re1:=qp RE.o b1 (qh RE.o);have le:=qh re1;have ra1:=H1.o.row;have la:=qh ra1;have hea:w.heap.size≠bA:=by omega
 have hz1:=B1.o.size;have hbew:w.heap.size < W1.heap.size:=le;have y:=qg re1;have e0:=y 0;have e1:=y 1;have e2:=y 2;simp at e0 e1 e2;have z:=qg ra1;have a1:=z 1;have a2:=z 2;have a3:=z 3;have a4:=z 4;simp at a1 a2 a3 a4;have yf:∀j,W1.frozen? ⟨bA,j,none⟩=false:=fun j=>qx ra1 j;obtain⟨MY,hmY,f1,f2⟩:=H1.o.by_.2;obtain⟨MZ,hmZ,f5⟩:=H1.o.bz.2;have lY:=hmY.lt;have lZ:=hmZ.lt;have lk1:=(hmY.drew.look Tryz.underlying3 Tryz.underlying146 (zeroPs W1.drew) xx (f2 xx HI.o)).2;have lk2:=(hmZ.drew.drew.look Tryz.underlying3 Tryz.underlying146 (zeroPs W1.drew.drew) xh (f5 xh HBs.o)).1;simp only[Option.getD_none,Option.isSome_none] at lk1 lk2;have RE1:=qj re1;have RA1:=qj ra1;have F:=qj (And.intro hmY (And.intro f1 (And.intro f2 (And.intro hmZ f5))));clear y z re1 ra1 hmY f1 f2 hmZ f5 b1 hv;go_wp2_with fail;refine qT (W1.heap.size) [0,0,0,1,0,1,2,0,0,0,0,0] (.fin [0,1,2,3,4,5,6,7,8,9,10,11]) (by kernel_rfl) ?_;simp only[yp,qP,qD,sD,sE,sF,sG]
 repeat first|(refine qC fun K hK=>?_;go_simp;refine hK _ _ ?_;clear hK K)|(apply qJ;(intro w2 hw2;have hk1:=hw2.cell;have hk3:=hw2.1;clear hw2;go_simp;with_reducible rfl);simp only[Act.put,sA,sB,sC])
 refine qN (fun K hK=>?_);go_simp;refine hK _ _ ?_;clear hK K lk1
 repeat first|(refine qC fun K hK=>?_;go_simp;refine hK _ _ ?_;clear hK K)|refine qA ?_
 go_wp2_with fail;refine qT (W1.heap.size) [0,0,0,1,0,1,2,0,0] (.fin [0,1,2,3,4,5,6,7,8]) (by kernel_rfl) ?_;simp only[yp,qP,qD,sD,sE,sF,sG]
 repeat first|(refine qC fun K hK=>?_;go_simp;refine hK _ _ ?_;clear hK K)|(apply qJ;(intro w2 hw2;have hk1:=hw2.cell;have hk3:=hw2.1;clear hw2;go_simp;with_reducible rfl);simp only[Act.put,sA,sB,sC])
 refine qN (fun K hK=>?_);go_simp;refine hK _ _ ?_;clear hK K lk2
 repeat first|(refine qC fun K hK=>?_;go_simp;refine hK _ _ ?_;clear hK K)|refine qA ?_
 go_wp2_with fail;refine qT (W1.heap.size) [0,1,0,1,0,0,0,1,0,0,3,0] (.fin [0,1,2,3,4,5,6,7,8,9,10,11]) (by kernel_rfl) ?_;simp only[yp,qP,qD,sD,sE,sF,sG]
 repeat first|(refine qC fun K hK=>?_;go_simp;refine hK _ _ ?_;clear hK K)|(apply qJ;(intro w2 hw2;have hk1:=hw2.cell;have hk3:=hw2.1;clear hw2;go_simp;with_reducible rfl);simp only[Act.put,sA,sB,sC])
 refine qI (fun K hK=>?_);go_simp;refine hK _ _ (RN.KeepsN.alloc _ _ (Nat.le_refl _)) ?_;clear hK K
 repeat first|(refine qC fun K hK=>?_;go_simp;refine hK _ _ ?_;clear hK K)|refine qA ?_
 have bV:Below W1.heap.size W1 (W1.alloc (.cells #[.int .i64 xx,.int .i64 xh,.int .i64 1,.int .i64 n,.int .i64 (-1),.int .i64 (-1),.slice none 0 0,.int .i64 1] 151)).drew.drew.drew:=((Below.refl _ W1).alloc (Nat.le_refl _) _).drew.drew.drew;have rp:(W1.alloc (.cells #[.int .i64 xx,.int .i64 xh,.int .i64 1,.int .i64 n,.int .i64 (-1),.int .i64 (-1),.slice none 0 0,.int .i64 1] 151)).drew.drew.drew.heap[W1.heap.size]?=some (.cells #[.int .i64 xx,.int .i64 xh,.int .i64 1,.int .i64 n,.int .i64 (-1),.int .i64 (-1),.slice none 0 0,.int .i64 1] 151 (0,0)):=qy W1 _;have zV:W1.heap.size < (W1.alloc (.cells #[.int .i64 xx,.int .i64 xh,.int .i64 1,.int .i64 n,.int .i64 (-1),.int .i64 (-1),.slice none 0 0,.int .i64 1] 151)).drew.drew.drew.heap.size:=qh rp;generalize (W1.alloc (.cells #[.int .i64 xx,.int .i64 xh,.int .i64 1,.int .i64 n,.int .i64 (-1),.int .i64 (-1),.slice none 0 0,.int .i64 1] 151)).drew.drew.drew=V at *;have HV:=qj (H1.o.below bV);have BV:=qj (B1.o.trans (bV.mono hz1));have BV1:=qj bV;have rv:=qp RA1.o bV la;have ev:=qp RE1.o bV le;have lv:=qh rv;have z:=qg rv;clear a1 a2 a3 a4 e0 e1 e2 yf;have a1:=z 1;have a2:=z 2;have a3:=z 3;have a4:=z 4;simp at a1 a2 a3 a4;have hBV:B<=V.heap.size:=by omega
 have hlen:(bs.map fun p=>ptrV p.1).length<=1000:=by rw[List.length_map,HV.o.len];exact hA
 have RV:=qj rv;have EV:=qj ev;have RP:=qj rp;clear z rv ev rp bV F lY lZ;go_wp2_with (at_builtin;refine qU rfl _ _ _ rfl _ 8 Tryz.underlying145 infoPs rfl HV.o.txs (ptrV W1.heap.size) hBV (by rfl) (by rfl) (by first|rfl|simp) rfl (ptr_one _) (by first|omega|(simp only[List.length_append,List.length_cons,List.length_nil,List.length_replicate];omega)) (by first|omega|(simp only[List.length_append,List.length_cons,List.length_nil,List.length_replicate];omega)) ?_;refine xt.halt ?_)
 refine xt.go ?_;intro g cap X ho hg;have c1:=yH.grw (S:=fun k=>tv.ownBlock=some k) hg (fun _ h=>h);have rx:=qQ RV.o hg (qq.neT HV.o.txs RV.o (by decide));have ex:=qQ EV.o hg (qq.neT HV.o.txs EV.o (by decide));have px:=qQ RP.o hg (qq.neT HV.o.txs RP.o (by decide));have notM:∀b,(∃es c,V.heap[b]?=some (.map es c))->¬tv.ownBlock=some b:=fun b hb hk=>by
  obtain⟨cs,fz,hh⟩:=qq.typ HV.o.txs hk;obtain⟨es,c,hb⟩:=hb;rw[hb] at hh;cases hh
 obtain⟨MY,hmY,f1,f2⟩:=HV.o.by_.2;obtain⟨MZ,hmZ,f5⟩:=HV.o.bz.2;have xY:=hmY.chg c1 (notM _ hmY.isMap);have xZ:=hmZ.chg c1 (notM _ hmZ.isMap);have lx:=qh rx;have zx:V.heap.size<=X.heap.size:=hg.size;clear a1 a2 a3 a4;have z:=qg rx;have a2:=z 2;simp at a2;have yf:∀j,X.frozen? ⟨bA,j,none⟩=false:=fun j=>qx rx j;have HX:=qj (And.intro ho (And.intro hg (And.intro c1 (And.intro rx (And.intro ex (And.intro px (And.intro xY xZ)))))));have FF:=qj (And.intro f1 (And.intro f2 f5));clear z ho hg c1 rx ex px xY xZ notM hmY hmZ f1 f2 f5;go_wp2_with fail;obtain⟨ho,hg,c1,rx,ex,px,xY,xZ⟩:=HX.o
 try simp only[List.length_map] at ho hg
 have hbe:bA≠w.heap.size:=fun e=>hea e.symm;have hpa:W1.heap.size≠bA:=by omega
 have r1:=qB rx 2 (.slice (some ⟨g,0,none⟩) (bs.length+1) cap);have v1:=qK (g':=bA) (j:=2) (v:=.slice (some ⟨g,0,none⟩) (bs.length+1) cap) ex hbe;have p1:=qK (g':=bA) (j:=2) (v:=.slice (some ⟨g,0,none⟩) (bs.length+1) cap) px (Ne.symm hpa);have nY:bY≠bA:=fun e=>by
  obtain⟨es,c,hh⟩:=xY.isMap;rw[e,rx] at hh;cases hh
 have nZ:bZ≠bA:=fun e=>by
  obtain⟨es,c,hh⟩:=xZ.isMap;rw[e,rx] at hh;cases hh
 have nYe:bY≠w.heap.size:=fun e=>by
  obtain⟨es,c,hh⟩:=xY.isMap;rw[e,ex] at hh;cases hh
 have nZe:bZ≠w.heap.size:=fun e=>by
  obtain⟨es,c,hh⟩:=xZ.isMap;rw[e,ex] at hh;cases hh
 have Y1:=xY.set (g:=bA) (j:=2) (v:=.slice (some ⟨g,0,none⟩) (bs.length+1) cap) nY;have Z1:=xZ.set (g:=bA) (j:=2) (v:=.slice (some ⟨g,0,none⟩) (bs.length+1) cap) nZ;have hgne:(Value.slice (some ⟨g,0,none⟩) (bs.length+1) cap).ownBlock≠some bA:=qq.neT ho rx (by decide);have T1:=qq.other (j:=2) ho hgne (.slice (some ⟨g,0,none⟩) (bs.length+1) cap);have zX:(X.setCell ⟨bA,2,none⟩ (.slice (some ⟨g,0,none⟩) (bs.length+1) cap)).heap.size=X.heap.size:=by simp
 have c2:yH (fun k=>k=bA\/tv.ownBlock=some k\/k=bY\/k=bZ) V (X.setCell ⟨bA,2,none⟩ (.slice (some ⟨g,0,none⟩) (bs.length+1) cap)):=(c1.mono fun j hj=>.inr (.inl hj)).set (.inl rfl);generalize X.setCell ⟨bA,2,none⟩ (.slice (some ⟨g,0,none⟩) (bs.length+1) cap)=Y at *;clear a2 yf;have z:=qg r1;have a1:=z 1;have a3:=z 3;have a4:=z 4;simp at a1 a3 a4;have y:=qg v1;have e1:=y 1;have e2:=y 2;simp at e1 e2;have HY:=qj (And.intro r1 (And.intro v1 (And.intro p1 (And.intro Y1 (And.intro Z1 (And.intro T1 c2))))));have lxY:V.heap.size<=Y.heap.size:=by omega
 clear z y r1 v1 p1 Y1 Z1 T1 c2 ho hg c1 rx ex px xY xZ zX;refine wp_rK (fun k=>k=bA\/k=w.heap.size) [0,0,0,1,0,1,0,0,0,1,0,1,0,0,3,0,3,3,0,3] (.fin [0,1,2,3,4,5,6,7,8,9,10,11,12,13,14,15,16,17,18,19]) (by kernel_rfl) ?_;simp only[yp,qP,qD,sD,sE,sF,sG]
 repeat first|(refine qC fun K hK=>?_;go_simp;refine hK _ _ ?_;clear hK K)|(apply qJ;(intro w2 hw2;have hk1:=hw2.cell;(try simp only at hk1);have hk3:=hw2.1;clear hw2;go_simp;with_reducible rfl);simp only[Act.put,sA,sB,sC])
 have nNY:¬(bY=bA\/bY=w.heap.size):=fun h=>h.elim nY nYe;have nNZ:¬(bZ=bA\/bZ=w.heap.size):=fun h=>h.elim nZ nZe;have hyz:=H1.o.ne;refine qI (fun K hK=>?_);refine HY.o.2.2.2.1.drew.wp_entry Tryz.underlying3 Tryz.underlying146 (zeroPs _) (a:=xx) rfl rfl rfl ?_;intro X1 v1 n1 M1 ha1 hn1 t1;refine hK _ _ (KeepsN_turned t1 nNY) ?_;clear hK K
 repeat (refine qC fun K hK=>?_;go_simp;refine hK _ _ ?_;clear hK K)
 refine qI (fun K hK=>?_);refine ha1.wp_stored rfl rfl rfl rfl ?_;intro X2 hm2 t2;refine hK _ _ (KeepsN_turned t2 nNY) ?_;clear hK K;have zz2:xp X2 bZ MZ:=((HY.o.2.2.2.2.1.drew).obj (xH t1 (Ne.symm hyz))).obj (xH t2 (Ne.symm hyz));refine qI (fun K hK=>?_);refine zz2.wp_entry Tryz.underlying3 Tryz.underlying146 (zeroPs _) (a:=xh) rfl rfl rfl ?_;intro X3 v3 n3 M3 ha3 hn3 t3;refine hK _ _ (KeepsN_turned t3 nNZ) ?_;clear hK K
 repeat (refine qC fun K hK=>?_;go_simp;refine hK _ _ ?_;clear hK K)
 refine qI (fun K hK=>?_);refine ha3.wp_stored rfl rfl rfl rfl ?_;intro X4 hm4 t4;refine hK _ _ (KeepsN_turned t4 nNZ) ?_;clear hK K;have yy4:=(hm2.obj (xH t3 hyz)).obj (xH t4 hyz);obtain⟨r1,v1,p1,Y1,Z1,T1,c2⟩:=HY.o;have r4:=row_map t4 (row_map t3 (row_map t2 (row_map t1 (row_drew r1))));have p4:=row_map t4 (row_map t3 (row_map t2 (row_map t1 (row_drew p1))));have c4:=(((c2.drew.trans (yH.turned (S:=fun k=>k=bY) t1 rfl) fun j _ hj=>.inr (.inr (.inl hj))).trans (yH.turned (S:=fun k=>k=bY) t2 rfl) fun j _ hj=>.inr (.inr (.inl hj))).trans (yH.turned (S:=fun k=>k=bZ) t3 rfl) fun j _ hj=>.inr (.inr (.inr hj))).trans (yH.turned (S:=fun k=>k=bZ) t4 rfl) fun j _ hj=>.inr (.inr (.inr hj));have tt:∀{P Q:World} {b:Nat},P.mapTurned Q b->qq yz 149 1 P B (.slice (some ⟨g,0,none⟩) (bs.length+1) cap) (bs.map (fun p=>ptrV p.1)++[ptrV W1.heap.size])->qq yz 149 1 Q B (.slice (some ⟨g,0,none⟩) (bs.length+1) cap) (bs.map (fun p=>ptrV p.1)++[ptrV W1.heap.size]):=fun {P Q b} ht ho=>qq.chg ho (yH.turned (S:=fun k=>k=b) ht rfl) fun k hk e=>by
  obtain⟨cs,fz,hh⟩:=qq.typ ho hk;obtain⟨es,c,es',c',hb,-⟩:=ht;rw[e,hb] at hh;cases hh
 have T4:=tt t4 (tt t3 (tt t2 (tt t1 (qq.drew T1))));have l4:=qh r4;clear a1 a3 a4 e1 e2;have z:=qg r4;have a1:=z 1;simp at a1;have yf:∀j,X4.frozen? ⟨bA,j,none⟩=false:=fun j=>qx r4 j;have H4:=qj (And.intro r4 (And.intro p4 (And.intro c4 (And.intro T4 (And.intro yy4 hm4)))));have HN:=qj (And.intro hn1 hn3);clear z r4 p4 c4 T4 yy4 hm4 tt r1 v1 p1 Y1 Z1 T1 c2 t1 t2 t3 t4 ha1 ha3 hm2 zz2 hn1 hn3 nNY nNZ HY
 repeat refine qA ?_
 go_wp2;go_ret;obtain⟨r4,p4,c4,T4,yy4,hm4⟩:=H4.o;obtain⟨f1,f2,f5⟩:=FF.o;have r5:=qB r4 1 (.int .i64 ((n:Int)+1));have cc:yH (fun k=>k=bA\/tv.ownBlock=some k\/k=bY\/k=bZ) W1 (X4.setCell ⟨bA,1,none⟩ (.int .i64 ((n:Int)+1))):=((yH.of_below BV1.o).trans c4 fun j _ hj=>hj).set (.inl rfl);have key:=H1.o.begun cc (n':=n+1) (p:=W1.heap.size) (tv':=.slice (some ⟨g,0,none⟩) (bs.length+1) cap) (s:=yE ⟨1,xx,xh,xj,xo,xy,xv,xr⟩ n) r5 (by rw[List.map_append];exact qq.other T4 hgne _)
  ⟨qK p4 (Ne.symm hpa),by show B<=W1.heap.size;omega,qq.nil _ _⟩ (Nat.le_refl _) (yy4.set nY) f1 f2 (fun k hk=>(xI hk).trans (HN.o.1 k hk)) yi HI.o (hm4.set nZ) f5 (fun k hk=>(xI hk).trans (HN.o.2 k hk)) rfl
 refine⟨rfl,⟨bY,bZ,ov,_,_,key.zmono fun x hx=>isBusy_snoc hx (by simp[yE])⟩,?_⟩;have gY:=H1.o.by_.1;have gZ:=H1.o.bz.1;have gT:∀k,tv.ownBlock=some k->B<=k:=fun k hk=>(qq.lt H1.o.txs k hk).1;exact(B1.o.mono hBw).trans (cc.below (fun j hj=>by
  rcases hj with rfl|hj|rfl|rfl
  ·exact hAB
  ·exact gT j hj
  ·exact gY
  ·exact gZ) (by omega))
end
theorem wp_mid {P:Program} {c:Code} {Q:Exit->Act->World->Prop} {a:Act} {w:World} (R:Act->Act->World->Prop) (h1:c.wp P (fun e a' X=>e=.normal/\R a a' X) a w) (h2:∀a' X,R a a' X->Q .normal a' X):c.wp P Q a w:=
 wp_mono h1 (by rintro e a' X ⟨rfl,h⟩;exact h2 a' X h)
theorem zeroMove (w:World):(zeroValue 223).run Tryz.prog w=.ok (.agg #[.slice none 0 0,.nilFunc]) w:=by kernel_rfl
theorem DoIs.cf {w:World} {B0:Nat} {k:Int} {F:FuncId} {caps:Array Value} (h:DoIs w B0 k F caps) (args:Array Value) (X:World):Sem.run Tryz.prog (callFunc F args) X=.ok (.enter F args) X:=by
 rcases h with⟨-,rfl,-⟩|⟨-,rfl,-⟩|⟨-,rfl,-⟩|⟨-,rfl,-⟩|⟨rfl,-⟩ <;> kernel_rfl
theorem DoIs.base {w:World} {B0 B1:Nat} {k:Int} {F:FuncId} {caps:Array Value} (h:DoIs w B0 k F caps) (hB:B1<=B0):DoIs w B1 k F caps:=by
 rcases h with h|h|h|h|⟨h1,c,st,h2,h3,h4,h5⟩
 ·exact .inl h
 ·exact .inr (.inl h)
 ·exact .inr (.inr (.inl h))
 ·exact .inr (.inr (.inr (.inl h)))
 ·exact .inr (.inr (.inr (.inr ⟨h1,c,st,h2,h3,h4,by omega⟩)))
theorem DoIs.set {w:World} {B0 b j:Nat} {u:Value} {k:Int} {F:FuncId} {caps:Array Value} (h:DoIs w B0 k F caps) (hb:b < B0):DoIs (w.setCell ⟨b,j,none⟩ u) B0 k F caps:=by
 rcases h with h|h|h|h|⟨h1,c,st,h2,h3,h4,h5⟩
 ·exact .inl h
 ·exact .inr (.inl h)
 ·exact .inr (.inr (.inl h))
 ·exact .inr (.inr (.inr (.inl h)))
 ·exact .inr (.inr (.inr (.inr ⟨h1,c,st,h2,h3,qK h4 (by omega),h5⟩)))
theorem move_cases {n:Nat} {x:Ev} {s s':St} (hm:xJ n x s=some s'):
  x.kind=2/\s.stand=1/\s'=callSt x n s\/(x.kind=3/\s.stand=2/\∃d,s.deeds.getLast?=some d/\fitsR d.op x.ret/\s'=yU x.ret x.val n s)\/x.kind=4/\s.stand=1/\s'=tryS n s\/x.kind=5/\s.stand=3/\s'=endS 3 n s\/
   x.kind=6/\(s.stand=1\/s.stand=2\/s.stand=3\/s.stand=4)/\s'=endS 4 n s\/x.kind=7/\s.stand=1/\s'=canS s:=by
 unfold xJ at hm
 split at hm
 ·rename_i hk
  split at hm
  ·rename_i h1;exact .inl ⟨hk,h1,(Option.some.inj hm).symm⟩
  ·cases hm
 ·split at hm
  ·rename_i hk
   split at hm
   ·rename_i h1
    cases hd:s.deeds.getLast? with
    |none=>rw[hd] at hm;cases hm
    |some d=>
     rw[hd] at hm;simp only at hm
     split at hm
     ·rename_i h2
      refine .inr (.inl ⟨hk,h1,d,rfl,h2,?_⟩);rw[←Option.some.inj hm];unfold yU;rw[hd];rfl
     ·cases hm
   ·cases hm
  ·split at hm
   ·rename_i hk
    split at hm
    ·rename_i h1;exact .inr (.inr (.inl ⟨hk,h1,(Option.some.inj hm).symm⟩))
    ·cases hm
   ·split at hm
    ·rename_i hk
     split at hm
     ·rename_i h1;exact .inr (.inr (.inr (.inl ⟨hk,h1,(Option.some.inj hm).symm⟩)))
     ·cases hm
    ·split at hm
     ·rename_i hk
      split at hm
      ·rename_i h1;exact .inr (.inr (.inr (.inr (.inl ⟨hk,h1,(Option.some.inj hm).symm⟩))))
      ·cases hm
     ·split at hm
      ·rename_i hk
       split at hm
       ·rename_i h1;exact .inr (.inr (.inr (.inr (.inr ⟨hk,h1,(Option.some.inj hm).symm⟩))))
       ·cases hm
      ·cases hm
theorem move_from {n:Nat} {x:Ev} {s s':St} (hm:xJ n x s=some s'):s.stand ∈ xQ x.kind/\2<=x.kind/\x.kind < 8:=by
 rcases move_cases hm with⟨h1,h2,-⟩|⟨h1,h2,-⟩|⟨h1,h2,-⟩|⟨h1,h2,-⟩|⟨h1,h2,-⟩|⟨h1,h2,-⟩ <;> rw[h1] <;> first|(rw[h2];decide)|(rcases h2 with h2|h2|h2|h2 <;> rw[h2] <;> decide)
theorem move_keeps {n:Nat} {x:Ev} {s s':St} (hm:xJ n x s=some s'):s'.id=s.id/\s'.thread=s.thread/\s.stand≠5:=by
 rcases move_cases hm with⟨h1,h2,rfl⟩|⟨h1,h2,d,hd,-,rfl⟩|⟨h1,h2,rfl⟩|⟨h1,h2,rfl⟩|⟨h1,h2,rfl⟩|⟨h1,h2,rfl⟩
 ·exact ⟨rfl,rfl,by omega⟩
 ·unfold yU;rw[hd];exact⟨rfl,rfl,by omega⟩
 ·exact ⟨rfl,rfl,by omega⟩
 ·exact ⟨rfl,rfl,by omega⟩
 ·exact ⟨rfl,rfl,by omega⟩
 ·exact ⟨rfl,rfl,by omega⟩
theorem busy_set {A:Au} {k:Nat} {s s':St} {x:Int} (hs:A[k]?=some s) (hth:s'.thread=s.thread) (h5:s'.stand≠5\/x≠s.thread) (h:isBusy x A):isBusy x (A.set k s'):=by
 obtain⟨t,ht,hx,hst⟩:=h;obtain⟨j,hj⟩:=List.mem_iff_getElem?.1 ht;by_cases e:k=j
 ·subst e
  rw[hs] at hj;obtain rfl:=Option.some.inj hj;refine⟨s',zg hs,by rw[hth,hx],?_⟩;rcases h5 with h5|h5
  ·exact h5
  ·exact absurd hx.symm h5
 ·exact ⟨t,List.mem_iff_getElem?.2 ⟨j,by rw[List.getElem?_set_ne e];exact hj⟩,hx,hst⟩
theorem from_len (k:Int):(xQ k).length<=4:=by
 unfold xQ
 repeat' split
 all_goals decide
theorem from_sl {w:World} {g:Nat} {k:Int} (h:w.heap[g]?=some (.cells ((xQ k).map (.int .i64)).toArray 3 (0,0))):Sl w w.heap.size 1 (.slice (some ⟨g,0,none⟩) (xQ k).length (xQ k).length) (xQ k).length ((xQ k).map (.int .i64)):=
 ⟨_,_,rfl,by have:=from_len k;omega,by simp,fun _=>⟨g,0,rfl,qh h,fun j u hu=>by rw[Nat.zero_add,qg h];simpa using hu⟩⟩
theorem do_call {W:World} {B B0 p n:Nat} {dv:Value} {s s':St} {F:FuncId} {caps:Array Value} (xk xx xh xj xo xy xv xr:Int) (hst:zm W B (p,dv) s) (hd:DoIs W B0 xk F caps) (hp:p < B0) (hm:xJ n ⟨xk,xx,xh,xj,xo,xy,xv,xr⟩ s=some s') (hl:s.deeds.length<=1000):
  Calls Tryz.prog F (#[.pointer (some ⟨p,0,none⟩),yv ⟨xk,xx,xh,xj,xo,xy,xv,xr⟩,.int .i64 n]++caps) W (MvRet W B (p,dv) s'):=by
 rcases move_cases hm with⟨h1,h2,rfl⟩|⟨h1,h2,d,hdl,hf,rfl⟩|⟨h1,h2,rfl⟩|⟨h1,h2,rfl⟩|⟨h1,h2,rfl⟩|⟨h1,h2,rfl⟩ <;> simp only at h1 <;> rcases hd with⟨e1,rfl,rfl⟩|⟨e1,rfl,rfl⟩|⟨e1,rfl,rfl⟩|⟨e1,rfl,rfl⟩|⟨rfl,c,st,e1,rfl,hc,hcB⟩ <;> first|(exfalso;omega)|skip
 ·exact mv_call xk xx xh xj xo xy xv xr n hst hl
 ·exact mv_ret xk xx xh xj xo xy xv xr n d hst hdl hf hl
 ·exact mv_try xk xx xh xj xo xy xv xr n hst
 ·obtain rfl:st=3:=by omega
  exact mv_end xk xx xh xj xo xy xv xr n c 3 hc (by omega) hst
 ·obtain rfl:st=4:=by omega
  exact mv_end xk xx xh xj xo xy xv xr n c 4 hc (by omega) hst
 ·exact mv_can xk xx xh xj xo xy xv xr n hst
section
attribute [local irreducible] xL
theorem feed_else (xk xx xh xj xo xy xv xr:Int) {B bA n:Nat} {os:List Ob} {A:Au} {k:Nat} {s s':St} (w:World) (hx:EvOk os.length ⟨xk,xx,xh,xj,xo,xy,xv,xr⟩) (hk:xk≠2) (hs:A[k]?=some s) (hi:s.id=xx) (hm:xJ n ⟨xk,xx,xh,xj,xo,xy,xv,xr⟩ s=some s') (hn:n < 400) (hA:A.length<=1000) (hl:s.deeds.length<=1000) (hro:∀o ∈ os,o.kind=1) (h:AuAt w B bA os n A) (hW:xa w):
  Calls Tryz.prog 70 #[.pointer (some ⟨bA,0,none⟩),yv ⟨xk,xx,xh,xj,xo,xy,xv,xr⟩] w (FeedRet w B bA os n (A.set k s')):=by
 obtain⟨bY,bZ,ov,tv,bs,h⟩:=h;have r0:=h.row;have l0:=qh r0;have y:=qg r0;have y1:=y 1;simp at y1;have b0:Below w.heap.size w (w.alloc (.cells #[.int .i64 xk,.int .i64 xx,.int .i64 xh,.int .i64 xj,.int .i64 xo,.int .i64 xy,.int .i64 xv,.int .i64 xr] 53)):=(Below.refl _ w).alloc (Nat.le_refl _) _;have re:=qy w (.cells #[.int .i64 xk,.int .i64 xx,.int .i64 xh,.int .i64 xj,.int .i64 xo,.int .i64 xy,.int .i64 xv,.int .i64 xr] 53);have hv:=qj (e_Valid ⟨xk,xx,xh,xj,xo,xy,xv,xr⟩ os.length hx _ (hW.below b0));have q1:((n:Int)==400)=false:=by simp;omega
 obtain⟨hfr,hk2,hk8⟩:=move_from hm;obtain⟨hid',hth',hst5⟩:=move_keeps hm;simp only at hfr hk2 hk8;have qk1:(xk==1)=false:=by simp;omega
 have HM:=qj hm;have HFR:=qj hfr;have HS:=qj hs;have HX:=qj hx;have HRO:=qj hro;have H:=qj h;have HB0:=qj b0;have RE:=qj re;have hAB:=h.hB;have hBw:B<=w.heap.size:=by omega
 have qk2:(xk==2)=false:=by simpa using hk
 clear y r0 h hx hs hm b0 re hfr hro;go_enter Tryz.func70,Tryz.ntmps70;go_wp2_with fail;obtain⟨W,hWW⟩:∃W,W=w.alloc (.cells #[.int .i64 xk,.int .i64 xx,.int .i64 xh,.int .i64 xj,.int .i64 xo,.int .i64 xy,.int .i64 xv,.int .i64 xr] 53):=⟨_,rfl⟩
 rw[←hWW] at hv HB0 RE ⊢;clear hWW;refine(hv.o).mono ?_;rintro e W1 ⟨rfl,b1⟩;have H1:=qj ((H.o.below HB0.o).below b1);have B1:=qj (HB0.o.trans (b1.mono HB0.o.size));have re1:=qp RE.o b1 (qh RE.o);have le:=qh re1;have ra1:=H1.o.row;have la:=qh ra1;have hea:w.heap.size≠bA:=by omega
 have hz1:=B1.o.size;have hbew:w.heap.size < W1.heap.size:=le;have y:=qg re1;have e0:=y 0;have e1:=y 1;have e3:=y 3;have e4:=y 4;have e5:=y 5;have e6:=y 6;have e7:=y 7;have e2:=y 2;simp at e0 e1 e2 e3 e4 e5 e6 e7;have z:=qg ra1;have a0:=z 0;have a1:=z 1;have a3:=z 3;simp at a0 a1 a3;obtain⟨bp,hbp,hst⟩:=H1.o.get HS.o;obtain⟨p,dv⟩:=bp;obtain⟨MY,hmY,f1,f2⟩:=H1.o.by_.2;have hMp:MY xx=some (ptrV p):=by rw[←hi];exact f1 k _ s hbp HS.o
 have lY:=hmY.lt;have RE1:=qj re1;have RA1:=qj ra1;have HST:=qj hst;have HBP:=qj hbp;have F:=qj (And.intro hmY hMp);clear y z re1 ra1 hst hbp hmY hMp f1 f2 b1 hv;go_wp2_with fail;have lk1:=(F.o.1.drew.look Tryz.underlying3 Tryz.underlying146 (zeroPs W1.drew) xx F.o.2).2;simp only[Option.getD_some,Option.isSome_some] at lk1;unfold ptrV at lk1;refine qT (W1.heap.size) [0,0,0,1,0,1,2,0,0,0,0,0] (.fin [0,1,2,3,4,5,6,7,8,9,10,11]) (by kernel_rfl) ?_;simp only[yp,qP,qD,sD,sE,sF,sG]
 repeat first|(refine qC fun K hK=>?_;go_simp;refine hK _ _ ?_;clear hK K)|(apply qJ;(intro w2 hw2;have hk1:=hw2.cell;have hk3:=hw2.1;clear hw2;go_simp;with_reducible rfl);simp only[Act.put,sA,sB,sC])
 refine qN (fun K hK=>?_);go_simp;refine hK _ _ ?_;clear hK K lk1
 repeat first|(refine qC fun K hK=>?_;go_simp;refine hK _ _ ?_;clear hK K)|refine qA ?_
 go_wp2_with fail;have bV:Below W1.heap.size W1 W1.drew:=(Below.refl _ W1).drew;have zV:W1.drew.heap.size=W1.heap.size:=rfl;generalize W1.drew=V at *;have HV:=qj (H1.o.below bV);have BV:=qj (B1.o.trans (bV.mono hz1));have re2:=qp RE1.o bV le;have le2:=qh re2;have ra2:=HV.o.row;have la2:=qh ra2;have rp2:=(HV.o.sts _ _ _ HBP.o HS.o).row;have lp2:=qh rp2;clear e0 e1 e2 e3 e4 e5 e6 e7 a0 a1 a3 F;have y:=qg re2;have e0:=y 0;simp at e0;have RE2:=qj re2;have BV1:=qj bV;simp only at lp2;have hVW:W1.heap.size<=V.heap.size:=by omega
 clear y re2 ra2 rp2 bV zV;refine wp_mid (fun a a' X=>∃(bm bq g:Nat) (F:FuncId) (caps:Array Value),a'={tmps:=((((a.tmps.setIfInBounds 122 (.map (some bm))).setIfInBounds 123 (.pointer (some ⟨w.heap.size,0,none⟩))).setIfInBounds 124 (.int .i64 xk)).setIfInBounds 125 (.agg #[.slice (some ⟨g,0,none⟩) (xQ xk).length (xQ xk).length,.func (.func F) #[] caps])).setIfInBounds 8 (.pointer (some ⟨bq,0,none⟩)),defers:=a.defers}/\
  X.heap[bq]?=some (.cells #[.slice (some ⟨g,0,none⟩) (xQ xk).length (xQ xk).length,.func (.func F) #[] caps] 223 (0,0))/\X.heap[g]?=some (.cells ((xQ xk).map (.int .i64)).toArray 3 (0,0))/\DoIs X V.heap.size xk F caps/\Below V.heap.size V X/\V.heap.size<=g/\V.heap.size<=bq) ?_ ?_
 ·
  refine qT (V.heap.size) [3,0,1,2,3,2] (.frk [1,2] (.frk [0] (.fin [3,4,5]) (.fin [4,3,5])) (.fin [4,0,3,5])) (by kernel_rfl) ?_;simp only[yp,qP,qD,sD,sE,sF,sG]
  repeat first|(refine qC fun K hK=>?_;go_simp;refine hK _ _ ?_;clear hK K)|(apply qJ;(intro w2 hw2;have hk1:=hw2.cell;have hk3:=hw2.1;clear hw2;go_simp;with_reducible rfl);simp only[Act.put,sA,sB,sC])|refine qA ?_
  refine⟨?_,?_⟩
  ·
   refine qI (fun K hK=>?_);go_simp;refine(s_moves _).mono ?_;rintro e X ⟨bm,M,rfl,hM,hv,bX⟩;refine hK _ _ (RN.KeepsN.of_below (bX.mono (Nat.le_refl _))) ?_;clear hK K;have bX1:Below V.heap.size V X:=(Below.refl _ V).drew.trans (bX.mono (Nat.le_refl _));obtain⟨v,hMk,g,F,caps,rfl,hg,hgB,hD⟩:=hv xk hk2 hk8;have hgB:V.heap.size<=g:=hgB;have hD:DoIs X V.heap.size xk F caps:=hD;have hlg:=qh hg;have hMd:=hM;clear bX hv
   repeat refine qA ?_
   refine⟨?_,?_⟩
   ·
    have lk:=(hM.look Tryz.underlying3 Tryz.underlying224 (zeroMove _) xk hMk).1;simp only[Option.getD_some] at lk;refine qN (fun K hK=>?_);go_simp;refine hK _ _ ?_;clear hK K lk;refine qI (fun K hK=>?_);go_simp;refine hK _ _ (RN.KeepsN.alloc _ _ bX1.size) ?_;clear hK K;have hM:=hM.below ((Below.refl X.heap.size X).alloc (Nat.le_refl _) (.cells #[.slice none 0 0,.nilFunc] 223)) hM.lt;refine qN (fun K hK=>?_);go_simp;refine hK _ _ ?_;clear hK K
    repeat refine qA ?_
    exact⟨rfl,bm,_,g,F,caps,rfl,qy X _,qF hg,hD.row (fun _ _ _ _ h=>qF h),bX1.alloc bX1.size _,hgB,bX1.size⟩
   ·
    refine qI (fun K hK=>?_);go_simp;refine hK _ _ (RN.KeepsN.alloc _ _ bX1.size) ?_;clear hK K;have hM:=hM.below ((Below.refl X.heap.size X).alloc (Nat.le_refl _) (.cells #[.slice none 0 0,.nilFunc] 223)) hM.lt;have lk:=(hM.look Tryz.underlying3 Tryz.underlying224 (zeroMove _) xk hMk).1;simp only[Option.getD_some] at lk;refine qN (fun K hK=>?_);go_simp;refine hK _ _ ?_;clear hK K lk;refine qN (fun K hK=>?_);go_simp;refine hK _ _ ?_;clear hK K
    repeat refine qA ?_
    exact⟨rfl,bm,_,g,F,caps,rfl,qy X _,qF hg,hD.row (fun _ _ _ _ h=>qF h),bX1.alloc bX1.size _,hgB,bX1.size⟩
  ·
   refine qI (fun K hK=>?_);go_simp;refine hK _ _ (RN.KeepsN.alloc _ _ (Nat.le_refl _)) ?_;clear hK K;have bA2:Below V.heap.size V (V.alloc (.cells #[.slice none 0 0,.nilFunc] 223)).drew:=((Below.refl _ V).alloc (Nat.le_refl _) _).drew;have zA2:=bA2.size;have rq:(V.alloc (.cells #[.slice none 0 0,.nilFunc] 223)).drew.heap[V.heap.size]?=some (.cells #[.slice none 0 0,.nilFunc] 223 (0,0)):=qy V _;generalize (V.alloc (.cells #[.slice none 0 0,.nilFunc] 223)).drew=V2 at *;refine qI (fun K hK=>?_);go_simp;refine(s_moves _).mono ?_;rintro e X ⟨bm,M,rfl,hM,hv,bX⟩;refine hK _ _ (RN.KeepsN.of_below (bX.mono zA2)) ?_;clear hK K;have bX1:Below V.heap.size V X:=bA2.trans (bX.mono zA2);obtain⟨v,hMk,g,F,caps,rfl,hg,hgB,hD⟩:=hv xk hk2 hk8;have hgq:V.heap.size≠g:=by have:=qh rq;omega
   have hqV:=qh rq;have rq:=qp rq bX (qh rq);have hgB:V.heap.size<=g:=Nat.le_trans zA2 hgB;have q0:=qg rq 0;have q1:=qg rq 1;simp at q0 q1;have qf:∀j,X.frozen? ⟨V.heap.size,j,none⟩=false:=fun j=>qx rq j;have lq:=qh rq;have hlg:=qh hg;have hMd:=hM;clear bX hv;have lk:=(hM.look Tryz.underlying3 Tryz.underlying224 (zeroMove _) xk hMk).1;simp only[Option.getD_some] at lk;refine qN (fun K hK=>?_);go_simp;refine hK _ _ ?_;clear hK K lk;refine qN (fun K hK=>?_);go_simp;refine hK _ _ ?_;clear hK K
   repeat refine qA ?_
   exact⟨rfl,bm,_,g,F,caps,rfl,qB (qB rq 0 _) 1 _,qK (qK hg hgq) hgq,((hD.set hqV).set hqV).base zA2,(bX1.setCell (p:=⟨V.heap.size,0,none⟩) (Nat.le_refl _) _).setCell (p:=⟨V.heap.size,1,none⟩) (Nat.le_refl _) _,hgB,Nat.le_refl _⟩
 ·rintro a' X ⟨bm,bq,g,F,caps,rfl,hq,hg,hD,bX,hgV,hqV⟩
  have HXA:=qj (HV.o.below bX);have zX:=bX.size;have BX:=qj (BV.o.trans (bX.mono (by omega)));have q0:=qg hq 0;have q1':=qg hq 1;simp only[List.getElem?_toArray,List.getElem?_cons_zero,List.getElem?_cons_succ] at q0 q1';have lq:=qh hq;have hstX:=HXA.o.sts _ _ _ HBP.o HS.o;have rp:=hstX.row;have lp:=qh rp;simp only at lp;have py:=qg rp;have p7:=py 7;simp[stCs] at p7;have rex:=qp RE2.o bX le2;have lex:=qh rex;have y:=qg rex;have e0:=y 0;have e1:=y 1;have e2:=y 2;have e3:=y 3;have e4:=y 4;have e5:=y 5;have e6:=y 6;have e7:=y 7;simp at e0 e1 e2 e3 e4 e5 e6 e7;have rax:=HXA.o.row;have lax:=qh rax;have z:=qg rax;have a1:=z 1;simp at a1;have hct:=qj (s_Contains _ (xQ xk) s.stand X.drew (from_sl (w:=X.drew) hg) HFR.o);have hcf:=hD.cf;have hpV:p < V.heap.size:=lp2;have hdo:=qj (do_call (W:=X.drew.drew) xk xx xh xj xo xy xv xr (hstX.chg (S:=fun _=>False) (yH.refl X).drew.drew fun _ _ h=>h) (hD.row fun _ _ _ _ h=>h) hpV HM.o hl);obtain⟨fl,hfl⟩:∃fl,fl=(xQ xk).length:=⟨_,rfl⟩
  have HSX:=qj hstX;have RPX:=qj rp;rw[←hfl] at q0 hct ⊢;clear hfl y z py rp rex rax hq hg hD bX hstX;go_wp2_with fail;refine qT (X.heap.size) [0,1,0,0,0,1,3,0] (.fin [0,1,2,3,4,5,6,7]) (by kernel_rfl) ?_;simp only[yp,qP,qD,sD,sE,sF,sG]
  repeat first|(refine qC fun K hK=>?_;go_simp;refine hK _ _ ?_;clear hK K)|(apply qJ;(intro w2 hw2;have hk1:=hw2.cell;have hk3:=hw2.1;clear hw2;go_simp;with_reducible rfl);simp only[Act.put,sA,sB,sC])
  refine qI (fun K hK=>?_);go_simp;refine(hct.o).mono ?_;rintro e W5 ⟨he,hw5⟩;subst he;refine hK _ _ (by rw[hw5];exact RN.KeepsN.of_below (Below.refl _ _)) ?_;clear hK K hct;rw[hw5];clear hw5 W5
  repeat first|(refine qC fun K hK=>?_;go_simp;refine hK _ _ ?_;clear hK K)|refine qA ?_
  go_wp2_with fail;refine qT (X.heap.size) [0,1,0,1,0,0,0,1,2,0] (.fin [0,1,2,3,4,5,6,7,8,9]) (by kernel_rfl) ?_;simp only[yp,qP,qD,sD,sE,sF,sG]
  repeat first|(refine qC fun K hK=>?_;go_simp;refine hK _ _ ?_;clear hK K)|(apply qJ;(intro w2 hw2;have hk1:=hw2.cell;have hk3:=hw2.1;clear hw2;go_simp;with_reducible rfl);simp only[Act.put,sA,sB,sC])
  refine qN (fun K hK=>?_);go_simp;refine(hdo.o).mono ?_;rintro e Y ⟨rfl,dv',hstY,hcY,hown⟩;refine hK _ _ ?_;clear hK K hdo;have hcX:yH (stS (p,dv)) X Y:=((yH.refl X).drew.drew).trans hcY fun _ _ h=>h;have HYA:=qj (HXA.o.moved HBP.o HS.o hcX hstY hid' hth' hown);have ray:=HYA.o.row;have lay:=qh ray;have rpy:=hstY.row;have lpy:=qh rpy;simp only at lpy;have y:=qg rpy;have p7:=y 7;have p1:=y 1;simp[stCs] at p7 p1;have z:=qg ray;have a1:=z 1;have a4:=z 4;simp at a1 a4;have yf:∀j,Y.frozen? ⟨bA,j,none⟩=false:=fun j=>qx ray j;obtain⟨MZ,hmZ,f5⟩:=HYA.o.bz.2;have gZ:=HYA.o.bz.1;have nZ:bZ≠bA:=fun e=>by
   obtain⟨es,c,hh⟩:=hmZ.isMap;rw[e,ray] at hh;cases hh
  have zY:X.heap.size<=Y.heap.size:=hcX.size;have BY:=qj ((BX.o.mono hBw).trans (hcX.below (fun j hj=>HSX.o.ge hj) (by omega)));have RAY:=qj ray;have HMZ:=qj hmZ;have F5:=qj f5;have hs5:s'.thread=s.thread:=hth';have lZ:=hmZ.lt;have hAY:bA < Y.heap.size:=lay;clear y z ray rpy hcY hown hmZ f5 hcX q0 q1' e0 e1 e2 e3 e4 e5 e6 e7;by_cases h5:s'.stand=5
  ·have q5':(s'.stand==5)=true:=by simpa using h5
   rw[h5] at p7
   repeat first|(refine qC fun K hK=>?_;go_simp;refine hK _ _ ?_;clear hK K)|refine qA ?_
   go_wp2_with fail;refine qT (Y.heap.size) [0,0,0,1,0,0,0,0,1,2] (.fin [0,1,2,3,4,5,6,7,8,9]) (by kernel_rfl) ?_;simp only[yp,qP,qD,sD,sE,sF,sG]
   repeat first|(refine qC fun K hK=>?_;go_simp;refine hK _ _ ?_;clear hK K)|(apply qJ;(intro w2 hw2;have hk1:=hw2.cell;have hk3:=hw2.1;clear hw2;go_simp;with_reducible rfl);simp only[Act.put,sA,sB,sC])
   refine qN (fun K hK=>?_);refine HMZ.o.drew.wp_drop Tryz.underlying3 Tryz.underlying146 rfl rfl rfl ?_;intro Q hmQ tQ;refine hK _ _ ?_;clear hK K;have rq:=row_map tQ (row_drew RAY.o);have zq:=qg rq;clear a1 a4 yf;have a1:=zq 1;simp at a1;have yf:∀j,Q.frozen? ⟨bA,j,none⟩=false:=fun j=>qx rq j;have lq':=qh rq;have HMQ:=qj hmQ;have TQ:=qj tQ;have RQ:=qj rq;clear zq rq hmQ tQ
   repeat refine qA ?_
   go_wp2;go_ret;refine⟨rfl,⟨bY,bZ,_,_,_,HYA.o.turn (n':=n+1) (Z':=fun x=>isBusy x (A.set k s')) (((yH.refl (S:=fun j=>j=bA\/j=bZ) Y).drew.trans (yH.turned (S:=fun j=>j=bA\/j=bZ) TQ.o (.inr rfl)) fun _ _ h=>h).set (.inl rfl)) (qB RQ.o 1 _) (HMQ.o.set nZ) fun x hx=>?_⟩,?_⟩
   ·by_cases e:x=s.thread
    ·subst e;exact yi
    ·rw [xI e]
     exact F5.o x fun hb=>hx (busy_set HS.o hth' (.inr e) hb)
   ·exact ((BY.o.drew).trans (Below.turned TQ.o gZ)).setCell (p:=⟨bA,1,none⟩) hAB _
  ·have q5':(s'.stand==5)=false:=by simpa using h5
   repeat first|(refine qC fun K hK=>?_;go_simp;refine hK _ _ ?_;clear hK K)|refine qA ?_
   go_wp2;go_ret;refine⟨rfl,⟨bY,bZ,_,_,_,HYA.o.turn (n':=n+1) (Z':=fun x=>isBusy x (A.set k s')) ((yH.refl (S:=fun j=>j=bA\/j=bZ) Y).set (.inl rfl)) (qB RAY.o 1 _) (HMZ.o.set nZ) fun x hx=>F5.o x fun hb=>hx (busy_set HS.o hth' (.inl h5) hb)⟩,?_⟩;exact BY.o.setCell (p:=⟨bA,1,none⟩) hAB _
theorem feed_call (xk xx xh xj xo xy xv xr:Int) {B bA n:Nat} {os:List Ob} {A:Au} {k:Nat} {s s':St} (w:World) (hx:EvOk os.length ⟨xk,xx,xh,xj,xo,xy,xv,xr⟩) (hk:xk=2) (hs:A[k]?=some s) (hi:s.id=xx) (hm:xJ n ⟨xk,xx,xh,xj,xo,xy,xv,xr⟩ s=some s') (hn:n < 400) (hA:A.length<=1000) (hl:s.deeds.length<=1000) (hro:∀o ∈ os,o.kind=1) (h:AuAt w B bA os n A) (hW:xa w):
  Calls Tryz.prog 70 #[.pointer (some ⟨bA,0,none⟩),yv ⟨xk,xx,xh,xj,xo,xy,xv,xr⟩] w (FeedRet w B bA os n (A.set k s')):=by
 obtain⟨bY,bZ,ov,tv,bs,h⟩:=h;have r0:=h.row;have l0:=qh r0;have y:=qg r0;have y1:=y 1;simp at y1;have b0:Below w.heap.size w (w.alloc (.cells #[.int .i64 xk,.int .i64 xx,.int .i64 xh,.int .i64 xj,.int .i64 xo,.int .i64 xy,.int .i64 xv,.int .i64 xr] 53)):=(Below.refl _ w).alloc (Nat.le_refl _) _;have re:=qy w (.cells #[.int .i64 xk,.int .i64 xx,.int .i64 xh,.int .i64 xj,.int .i64 xo,.int .i64 xy,.int .i64 xv,.int .i64 xr] 53);have hv:=qj (e_Valid ⟨xk,xx,xh,xj,xo,xy,xv,xr⟩ os.length hx _ (hW.below b0));have q1:((n:Int)==400)=false:=by simp;omega
 obtain⟨hfr,hk2,hk8⟩:=move_from hm;obtain⟨hid',hth',hst5⟩:=move_keeps hm;simp only at hfr hk2 hk8;have qk1:(xk==1)=false:=by simp;omega
 have HM:=qj hm;have HFR:=qj hfr;have HS:=qj hs;have HX:=qj hx;have HRO:=qj hro;have H:=qj h;have HB0:=qj b0;have RE:=qj re;have hAB:=h.hB;have hBw:B<=w.heap.size:=by omega
 subst hk;clear y r0 h hx hs hm b0 re hfr hro;go_enter Tryz.func70,Tryz.ntmps70;go_wp2_with fail;obtain⟨W,hWW⟩:∃W,W=w.alloc (.cells #[.int .i64 2,.int .i64 xx,.int .i64 xh,.int .i64 xj,.int .i64 xo,.int .i64 xy,.int .i64 xv,.int .i64 xr] 53):=⟨_,rfl⟩
 rw[←hWW] at hv HB0 RE ⊢;clear hWW;refine(hv.o).mono ?_;rintro e W1 ⟨rfl,b1⟩;have H1:=qj ((H.o.below HB0.o).below b1);have B1:=qj (HB0.o.trans (b1.mono HB0.o.size));have re1:=qp RE.o b1 (qh RE.o);have le:=qh re1;have ra1:=H1.o.row;have la:=qh ra1;have hea:w.heap.size≠bA:=by omega
 have hz1:=B1.o.size;have hbew:w.heap.size < W1.heap.size:=le;have y:=qg re1;have e0:=y 0;have e1:=y 1;have e3:=y 3;have e4:=y 4;have e5:=y 5;have e6:=y 6;have e7:=y 7;have e2:=y 2;simp at e0 e1 e2 e3 e4 e5 e6 e7;have z:=qg ra1;have a0:=z 0;have a1:=z 1;have a3:=z 3;simp at a0 a1 a3;obtain⟨bp,hbp,hst⟩:=H1.o.get HS.o;obtain⟨p,dv⟩:=bp;obtain⟨MY,hmY,f1,f2⟩:=H1.o.by_.2;have hMp:MY xx=some (ptrV p):=by rw[←hi];exact f1 k _ s hbp HS.o
 have lY:=hmY.lt;obtain⟨ao,co,rfl,-⟩:∃a c,ov=.slice a os.length c/\True:=by
  rcases qq.form H1.o.obs with⟨h1,h2⟩|⟨g,cap,h1,-⟩
  ·exact ⟨_,_,by rw[h1,h2];rfl,trivial⟩
  ·exact ⟨_,_,h1,trivial⟩
 have hcall:∃c:Nat,c < os.length/\xj=c/\(xo=1\/xo=2):=by
  rcases HX.o.form with⟨i,h1,h2,h⟩|⟨c,h1,h2,h⟩|⟨c,v,h1,h2,h3,h4,h⟩|h|⟨v,h3,h4,h⟩|⟨k,hk,h⟩ <;> simp only[Ev.mk.injEq,true_and] at h
  ·exact absurd h.1 (by decide)
  ·exact ⟨c,h1,h.2.1,.inl h.2.2.1⟩
  ·exact ⟨c,h1,h.2.1,.inr h.2.2.1⟩
  ·exact absurd h.1 (by decide)
  ·exact absurd h.1 (by decide)
  ·omega
 obtain⟨c,hcl,rfl,hop⟩:=hcall;obtain⟨b',off',o,hat',hb',hx',hc'⟩:=(qq.sl H1.o.obs).atF Ob.len rfl hcl;have k0:W1.cell? ⟨b',off'+c*2+0,none⟩=some (.int .i64 o.kind):=hc' 0 (by decide);have hk1:=HRO.o o (List.mem_of_getElem? hx');obtain⟨ok,on⟩:=o;simp only at hk1;subst hk1;simp at k0;have q5:decide (os.length<=c)=false:=by simp;omega
 subst hat';clear hx' hc';have RE1:=qj re1;have RA1:=qj ra1;have HST:=qj hst;have HBP:=qj hbp;have F:=qj (And.intro hmY hMp);clear y z re1 ra1 hst hbp hmY hMp f1 f2 b1 hv;go_wp2_with fail;refine qT (W1.heap.size) [0,1,0,0,0,1,0,0] (.fin [0,1,2,3,4,5,6,7]) (by kernel_rfl) ?_;simp only[yp,qP,qD,sD,sE,sF,sG]
 repeat first|(refine qC fun K hK=>?_;go_simp;refine hK _ _ ?_;clear hK K)|(apply qJ;(intro w2 hw2;have hk1:=hw2.cell;have hk3:=hw2.1;clear hw2;go_simp;with_reducible rfl);simp only[Act.put,sA,sB,sC])|refine qA ?_
 go_wp2_with fail;refine qT (W1.heap.size) [0,1,3,0,0,0,1,0,1,0,0,1,0] (.fin [0,1,3,4,5,6,7,8,9,10,11,2,12]) (by kernel_rfl) ?_;simp only[yp,qP,qD,sD,sE,sF,sG]
 repeat first|(refine qC fun K hK=>?_;go_simp;refine hK _ _ ?_;clear hK K)|(apply qJ;(intro w2 hw2;have hk1:=hw2.cell;have hk3:=hw2.1;clear hw2;go_simp;with_reducible rfl);simp only[Act.put,sA,sB,sC])
 refine qI (fun K hK=>?_);go_simp;refine(e_Of xo hop _).mono ?_;rintro e W5 ⟨he,hw5⟩;subst he;refine hK _ _ (by rw[hw5];exact RN.KeepsN.of_below (Below.refl _ _)) ?_;clear hK K;rw[hw5];clear hw5 W5
 repeat first|(refine qC fun K hK=>?_;go_simp;refine hK _ _ ?_;clear hK K)|refine qA ?_
 go_wp2_with fail;have lk1:=(F.o.1.drew.drew.drew.look Tryz.underlying3 Tryz.underlying146 (zeroPs W1.drew.drew.drew) xx F.o.2).2;simp only[Option.getD_some,Option.isSome_some] at lk1;unfold ptrV at lk1;refine qT (W1.heap.size) [0,0,0,1,0,1,2,0,0,0,0,0] (.fin [0,1,2,3,4,5,6,7,8,9,10,11]) (by kernel_rfl) ?_;simp only[yp,qP,qD,sD,sE,sF,sG]
 repeat first|(refine qC fun K hK=>?_;go_simp;refine hK _ _ ?_;clear hK K)|(apply qJ;(intro w2 hw2;have hk1:=hw2.cell;have hk3:=hw2.1;clear hw2;go_simp;with_reducible rfl);simp only[Act.put,sA,sB,sC])
 refine qN (fun K hK=>?_);go_simp;refine hK _ _ ?_;clear hK K lk1
 repeat first|(refine qC fun K hK=>?_;go_simp;refine hK _ _ ?_;clear hK K)|refine qA ?_
 go_wp2_with fail;have bV:Below W1.heap.size W1 W1.drew.drew.drew:=(Below.refl _ W1).drew.drew.drew;have zV:W1.drew.drew.drew.heap.size=W1.heap.size:=rfl;generalize W1.drew.drew.drew=V at *;have HV:=qj (H1.o.below bV);have BV:=qj (B1.o.trans (bV.mono hz1));have re2:=qp RE1.o bV le;have le2:=qh re2;have ra2:=HV.o.row;have la2:=qh ra2;have rp2:=(HV.o.sts _ _ _ HBP.o HS.o).row;have lp2:=qh rp2;clear e0 e1 e2 e3 e4 e5 e6 e7 a0 a1 a3 F k0 hb';have y:=qg re2;have e0:=y 0;simp at e0;have RE2:=qj re2;have BV1:=qj bV;simp only at lp2;have hVW:W1.heap.size<=V.heap.size:=by omega
 clear y re2 ra2 rp2 bV zV;refine wp_mid (fun a a' X=>∃(bm bq g:Nat) (F:FuncId) (caps:Array Value),a'={tmps:=((((a.tmps.setIfInBounds 122 (.map (some bm))).setIfInBounds 123 (.pointer (some ⟨w.heap.size,0,none⟩))).setIfInBounds 124 (.int .i64 2)).setIfInBounds 125 (.agg #[.slice (some ⟨g,0,none⟩) (xQ 2).length (xQ 2).length,.func (.func F) #[] caps])).setIfInBounds 8 (.pointer (some ⟨bq,0,none⟩)),defers:=a.defers}/\
  X.heap[bq]?=some (.cells #[.slice (some ⟨g,0,none⟩) (xQ 2).length (xQ 2).length,.func (.func F) #[] caps] 223 (0,0))/\X.heap[g]?=some (.cells ((xQ 2).map (.int .i64)).toArray 3 (0,0))/\DoIs X V.heap.size 2 F caps/\Below V.heap.size V X/\V.heap.size<=g/\V.heap.size<=bq) ?_ ?_
 ·
  refine qT (V.heap.size) [3,0,1,2,3,2] (.frk [1,2] (.frk [0] (.fin [3,4,5]) (.fin [4,3,5])) (.fin [4,0,3,5])) (by kernel_rfl) ?_;simp only[yp,qP,qD,sD,sE,sF,sG]
  repeat first|(refine qC fun K hK=>?_;go_simp;refine hK _ _ ?_;clear hK K)|(apply qJ;(intro w2 hw2;have hk1:=hw2.cell;have hk3:=hw2.1;clear hw2;go_simp;with_reducible rfl);simp only[Act.put,sA,sB,sC])|refine qA ?_
  refine⟨?_,?_⟩
  ·
   refine qI (fun K hK=>?_);go_simp;refine(s_moves _).mono ?_;rintro e X ⟨bm,M,rfl,hM,hv,bX⟩;refine hK _ _ (RN.KeepsN.of_below (bX.mono (Nat.le_refl _))) ?_;clear hK K;have bX1:Below V.heap.size V X:=(Below.refl _ V).drew.trans (bX.mono (Nat.le_refl _));obtain⟨v,hMk,g,F,caps,rfl,hg,hgB,hD⟩:=hv 2 (by decide) (by decide);have hgB:V.heap.size<=g:=hgB;have hD:DoIs X V.heap.size 2 F caps:=hD;have hlg:=qh hg;have hMd:=hM;clear bX hv
   repeat refine qA ?_
   refine⟨?_,?_⟩
   ·
    have lk:=(hM.look Tryz.underlying3 Tryz.underlying224 (zeroMove _) 2 hMk).1;simp only[Option.getD_some] at lk;refine qN (fun K hK=>?_);go_simp;refine hK _ _ ?_;clear hK K lk;refine qI (fun K hK=>?_);go_simp;refine hK _ _ (RN.KeepsN.alloc _ _ bX1.size) ?_;clear hK K;have hM:=hM.below ((Below.refl X.heap.size X).alloc (Nat.le_refl _) (.cells #[.slice none 0 0,.nilFunc] 223)) hM.lt;refine qN (fun K hK=>?_);go_simp;refine hK _ _ ?_;clear hK K
    repeat refine qA ?_
    exact⟨rfl,bm,_,g,F,caps,rfl,qy X _,qF hg,hD.row (fun _ _ _ _ h=>qF h),bX1.alloc bX1.size _,hgB,bX1.size⟩
   ·
    refine qI (fun K hK=>?_);go_simp;refine hK _ _ (RN.KeepsN.alloc _ _ bX1.size) ?_;clear hK K;have hM:=hM.below ((Below.refl X.heap.size X).alloc (Nat.le_refl _) (.cells #[.slice none 0 0,.nilFunc] 223)) hM.lt;have lk:=(hM.look Tryz.underlying3 Tryz.underlying224 (zeroMove _) 2 hMk).1;simp only[Option.getD_some] at lk;refine qN (fun K hK=>?_);go_simp;refine hK _ _ ?_;clear hK K lk;refine qN (fun K hK=>?_);go_simp;refine hK _ _ ?_;clear hK K
    repeat refine qA ?_
    exact⟨rfl,bm,_,g,F,caps,rfl,qy X _,qF hg,hD.row (fun _ _ _ _ h=>qF h),bX1.alloc bX1.size _,hgB,bX1.size⟩
  ·
   refine qI (fun K hK=>?_);go_simp;refine hK _ _ (RN.KeepsN.alloc _ _ (Nat.le_refl _)) ?_;clear hK K;have bA2:Below V.heap.size V (V.alloc (.cells #[.slice none 0 0,.nilFunc] 223)).drew:=((Below.refl _ V).alloc (Nat.le_refl _) _).drew;have zA2:=bA2.size;have rq:(V.alloc (.cells #[.slice none 0 0,.nilFunc] 223)).drew.heap[V.heap.size]?=some (.cells #[.slice none 0 0,.nilFunc] 223 (0,0)):=qy V _;generalize (V.alloc (.cells #[.slice none 0 0,.nilFunc] 223)).drew=V2 at *;refine qI (fun K hK=>?_);go_simp;refine(s_moves _).mono ?_;rintro e X ⟨bm,M,rfl,hM,hv,bX⟩;refine hK _ _ (RN.KeepsN.of_below (bX.mono zA2)) ?_;clear hK K;have bX1:Below V.heap.size V X:=bA2.trans (bX.mono zA2);obtain⟨v,hMk,g,F,caps,rfl,hg,hgB,hD⟩:=hv 2 (by decide) (by decide);have hgq:V.heap.size≠g:=by have:=qh rq;omega
   have hqV:=qh rq;have rq:=qp rq bX (qh rq);have hgB:V.heap.size<=g:=Nat.le_trans zA2 hgB;have q0:=qg rq 0;have q1:=qg rq 1;simp at q0 q1;have qf:∀j,X.frozen? ⟨V.heap.size,j,none⟩=false:=fun j=>qx rq j;have lq:=qh rq;have hlg:=qh hg;have hMd:=hM;clear bX hv;have lk:=(hM.look Tryz.underlying3 Tryz.underlying224 (zeroMove _) 2 hMk).1;simp only[Option.getD_some] at lk;refine qN (fun K hK=>?_);go_simp;refine hK _ _ ?_;clear hK K lk;refine qN (fun K hK=>?_);go_simp;refine hK _ _ ?_;clear hK K
   repeat refine qA ?_
   exact⟨rfl,bm,_,g,F,caps,rfl,qB (qB rq 0 _) 1 _,qK (qK hg hgq) hgq,((hD.set hqV).set hqV).base zA2,(bX1.setCell (p:=⟨V.heap.size,0,none⟩) (Nat.le_refl _) _).setCell (p:=⟨V.heap.size,1,none⟩) (Nat.le_refl _) _,hgB,Nat.le_refl _⟩
 ·rintro a' X ⟨bm,bq,g,F,caps,rfl,hq,hg,hD,bX,hgV,hqV⟩
  have HXA:=qj (HV.o.below bX);have zX:=bX.size;have BX:=qj (BV.o.trans (bX.mono (by omega)));have q0:=qg hq 0;have q1':=qg hq 1;simp only[List.getElem?_toArray,List.getElem?_cons_zero,List.getElem?_cons_succ] at q0 q1';have lq:=qh hq;have hstX:=HXA.o.sts _ _ _ HBP.o HS.o;have rp:=hstX.row;have lp:=qh rp;simp only at lp;have py:=qg rp;have p7:=py 7;simp[stCs] at p7;have rex:=qp RE2.o bX le2;have lex:=qh rex;have y:=qg rex;have e0:=y 0;have e1:=y 1;have e2:=y 2;have e3:=y 3;have e4:=y 4;have e5:=y 5;have e6:=y 6;have e7:=y 7;simp at e0 e1 e2 e3 e4 e5 e6 e7;have rax:=HXA.o.row;have lax:=qh rax;have z:=qg rax;have a1:=z 1;simp at a1;have hct:=qj (s_Contains _ (xQ 2) s.stand X.drew (from_sl (w:=X.drew) hg) HFR.o);have hcf:=hD.cf;have hpV:p < V.heap.size:=lp2;have hdo:=qj (do_call (W:=X.drew.drew) 2 xx xh c xo xy xv xr (hstX.chg (S:=fun _=>False) (yH.refl X).drew.drew fun _ _ h=>h) (hD.row fun _ _ _ _ h=>h) hpV HM.o hl);obtain⟨fl,hfl⟩:∃fl,fl=(xQ 2).length:=⟨_,rfl⟩
  have HSX:=qj hstX;have RPX:=qj rp;rw[←hfl] at q0 hct ⊢;clear hfl y z py rp rex rax hq hg hD bX hstX;go_wp2_with fail;refine qT (X.heap.size) [0,1,0,0,0,1,3,0] (.fin [0,1,2,3,4,5,6,7]) (by kernel_rfl) ?_;simp only[yp,qP,qD,sD,sE,sF,sG]
  repeat first|(refine qC fun K hK=>?_;go_simp;refine hK _ _ ?_;clear hK K)|(apply qJ;(intro w2 hw2;have hk1:=hw2.cell;have hk3:=hw2.1;clear hw2;go_simp;with_reducible rfl);simp only[Act.put,sA,sB,sC])
  refine qI (fun K hK=>?_);go_simp;refine(hct.o).mono ?_;rintro e W5 ⟨he,hw5⟩;subst he;refine hK _ _ (by rw[hw5];exact RN.KeepsN.of_below (Below.refl _ _)) ?_;clear hK K hct;rw[hw5];clear hw5 W5
  repeat first|(refine qC fun K hK=>?_;go_simp;refine hK _ _ ?_;clear hK K)|refine qA ?_
  go_wp2_with fail;refine qT (X.heap.size) [0,1,0,1,0,0,0,1,2,0] (.fin [0,1,2,3,4,5,6,7,8,9]) (by kernel_rfl) ?_;simp only[yp,qP,qD,sD,sE,sF,sG]
  repeat first|(refine qC fun K hK=>?_;go_simp;refine hK _ _ ?_;clear hK K)|(apply qJ;(intro w2 hw2;have hk1:=hw2.cell;have hk3:=hw2.1;clear hw2;go_simp;with_reducible rfl);simp only[Act.put,sA,sB,sC])
  refine qN (fun K hK=>?_);go_simp;refine(hdo.o).mono ?_;rintro e Y ⟨rfl,dv',hstY,hcY,hown⟩;refine hK _ _ ?_;clear hK K hdo;have hcX:yH (stS (p,dv)) X Y:=((yH.refl X).drew.drew).trans hcY fun _ _ h=>h;have HYA:=qj (HXA.o.moved HBP.o HS.o hcX hstY hid' hth' hown);have ray:=HYA.o.row;have lay:=qh ray;have rpy:=hstY.row;have lpy:=qh rpy;simp only at lpy;have y:=qg rpy;have p7:=y 7;have p1:=y 1;simp[stCs] at p7 p1;have z:=qg ray;have a1:=z 1;have a4:=z 4;simp at a1 a4;have yf:∀j,Y.frozen? ⟨bA,j,none⟩=false:=fun j=>qx ray j;obtain⟨MZ,hmZ,f5⟩:=HYA.o.bz.2;have gZ:=HYA.o.bz.1;have nZ:bZ≠bA:=fun e=>by
   obtain⟨es,c,hh⟩:=hmZ.isMap;rw[e,ray] at hh;cases hh
  have zY:X.heap.size<=Y.heap.size:=hcX.size;have BY:=qj ((BX.o.mono hBw).trans (hcX.below (fun j hj=>HSX.o.ge hj) (by omega)));have RAY:=qj ray;have HMZ:=qj hmZ;have F5:=qj f5;have hs5:s'.thread=s.thread:=hth';have lZ:=hmZ.lt;have hAY:bA < Y.heap.size:=lay;clear y z ray rpy hcY hown hmZ f5 hcX q0 q1' e0 e1 e2 e3 e4 e5 e6 e7;by_cases h5:s'.stand=5
  ·have q5':(s'.stand==5)=true:=by simpa using h5
   rw[h5] at p7
   repeat first|(refine qC fun K hK=>?_;go_simp;refine hK _ _ ?_;clear hK K)|refine qA ?_
   go_wp2_with fail;refine qT (Y.heap.size) [0,0,0,1,0,0,0,0,1,2] (.fin [0,1,2,3,4,5,6,7,8,9]) (by kernel_rfl) ?_;simp only[yp,qP,qD,sD,sE,sF,sG]
   repeat first|(refine qC fun K hK=>?_;go_simp;refine hK _ _ ?_;clear hK K)|(apply qJ;(intro w2 hw2;have hk1:=hw2.cell;have hk3:=hw2.1;clear hw2;go_simp;with_reducible rfl);simp only[Act.put,sA,sB,sC])
   refine qN (fun K hK=>?_);refine HMZ.o.drew.wp_drop Tryz.underlying3 Tryz.underlying146 rfl rfl rfl ?_;intro Q hmQ tQ;refine hK _ _ ?_;clear hK K;have rq:=row_map tQ (row_drew RAY.o);have zq:=qg rq;clear a1 a4 yf;have a1:=zq 1;simp at a1;have yf:∀j,Q.frozen? ⟨bA,j,none⟩=false:=fun j=>qx rq j;have lq':=qh rq;have HMQ:=qj hmQ;have TQ:=qj tQ;have RQ:=qj rq;clear zq rq hmQ tQ
   repeat refine qA ?_
   go_wp2;go_ret;refine⟨rfl,⟨bY,bZ,_,_,_,HYA.o.turn (n':=n+1) (Z':=fun x=>isBusy x (A.set k s')) (((yH.refl (S:=fun j=>j=bA\/j=bZ) Y).drew.trans (yH.turned (S:=fun j=>j=bA\/j=bZ) TQ.o (.inr rfl)) fun _ _ h=>h).set (.inl rfl)) (qB RQ.o 1 _) (HMQ.o.set nZ) fun x hx=>?_⟩,?_⟩
   ·by_cases e:x=s.thread
    ·subst e;exact yi
    ·rw [xI e]
     exact F5.o x fun hb=>hx (busy_set HS.o hth' (.inr e) hb)
   ·exact ((BY.o.drew).trans (Below.turned TQ.o gZ)).setCell (p:=⟨bA,1,none⟩) hAB _
  ·have q5':(s'.stand==5)=false:=by simpa using h5
   repeat first|(refine qC fun K hK=>?_;go_simp;refine hK _ _ ?_;clear hK K)|refine qA ?_
   go_wp2;go_ret;refine⟨rfl,⟨bY,bZ,_,_,_,HYA.o.turn (n':=n+1) (Z':=fun x=>isBusy x (A.set k s')) ((yH.refl (S:=fun j=>j=bA\/j=bZ) Y).set (.inl rfl)) (qB RAY.o 1 _) (HMZ.o.set nZ) fun x hx=>F5.o x fun hb=>hx (busy_set HS.o hth' (.inl h5) hb)⟩,?_⟩;exact BY.o.setCell (p:=⟨bA,1,none⟩) hAB _
end
section
variable {P:Pg} {A:Au}
theorem fed_path:∀{l:List Ev} {A:Au},Fed l A->∃f:Nat->Au,f 0=[]/\f l.length=A/\∀(i:Nat) (e:Ev),l[i]?=some e->Feed (f i) i e (f (i+1)):=by
 intro l A h
 induction h with
 |nil=>exact⟨fun _=>[],rfl,rfl,fun i e he=>by simp at he⟩
 |@snoc l A A' e h hf ih=>
  obtain⟨f,h0,h1,h2⟩:=ih;refine⟨fun i=>if i<=l.length then f i else A',by simp[h0],by
   show(if (l++[e]).length<=l.length then _ else _)=_;rw[if_neg (by simp)],fun i x hx=>?_⟩
  by_cases hlt:i < l.length
  ·rw [List.getElem?_append_left hlt] at hx
   have:=h2 i x hx;simp only[Nat.le_of_lt hlt,if_true,show i+1<=l.length by omega];exact this
  ·have hl:=(List.getElem?_eq_some_iff.1 hx).1
   simp only[List.length_append,List.length_cons,List.length_nil] at hl;obtain rfl:i=l.length:=by omega
   simp only[List.getElem?_concat_length,Option.some.injEq] at hx;subst hx;simp only[Nat.le_refl,if_true,show ¬l.length+1<=l.length by omega,if_false,h1];exact hf
end
