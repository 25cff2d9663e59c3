/- Parts of the proof. Conditions: those of each theorem, as typed. -/
import Derived.Test.YtcpfbphcldocpaaGreatDoorQW16
import Derived.Test.YtcpfbphcldocpaaGreatDoorQW12
import Derived.Deep.LoopGhost
import Derived.OneCell
import Derived.Sort.OwnSortedInts
set_option linter.unusedVariables false
set_option linter.unusedSimpArgs false
set_option linter.unusedSectionVars false
set_option maxRecDepth 100000
set_option maxHeartbeats 4000000
namespace Go.Proofs.YtcpfbphcldocpaaGreatDoor
open Go.Maps Go.RowKit Go.Sort
theorem qfT (w:World):Calls Tryz.prog 70 #[] w fun e w'=>∃p,e=.returned (.pointer (some ⟨p,0,none⟩))/\jt w' w.heap.size w'.heap.size p [] []/\Below w.heap.size w w':=by
 have hmm:=@run_makeMap Tryz.prog;go_enter Tryz.func70,Tryz.ntmps70;go_wp2;go_ret;refine⟨_,rfl,⟨w.heap.size,fun _=>0,[],fun _=>[],?_⟩,((Below.refl _ _).alloc (Nat.le_refl _) _).alloc (by simp) _⟩;exact⟨qV (by simp),by simp,by simp;omega,(qO.made w).alloc _,List.Pairwise.nil,rfl,fun _ _ h=>by simp at h,fun _ _ _ _ h=>by simp at h,fun _ _ _ _ _ h=>by simp at h,UE.nil,fun _ h=>by simp at h,fun _ h=>by simp at h⟩
section
variable {w:World} {lo hi p:Nat} {N:List Int} {E:List jX}
theorem Wi (h:jt w lo hi p N E) (hhi:hi<=w.heap.size) (hN:N.length<=1000000) (a:Int) (ha:dI a):Calls Tryz.prog 72 #[.pointer (some ⟨p,0,none⟩),.int .i64 a] w fun e w'=>
  e=.returned (.bool (decide (a ∉ N)))/\jt w' lo w'.heap.size p (yL a N) E/\uc w w'/\Below lo w w':=by
 obtain⟨b,ow,M,A,h⟩:=h;have hp:=qa h.ptr 0;have hlo:=h.hb;have q:∀(w:World) (r:Option Nat),(binOp .neq 103 (.map r) (.map none)).run Tryz.prog w=.ok (.bool !r.isNone) w:=fun w r=>run_neq_map_nil w _ _ _ r Tryz.underlying103;have hmm:=@run_makeMap Tryz.prog;cases hf:fnd a M with
 |some u=>
  have l1:=h.look ha hf;have hin:=h.inN (h.here hf);have E1:=qh (show decide (a ∉ N)=false by simpa using hin);have E2:=qh (Zn h.ok.srtN hin);have H:=qh h;clear h hf hin;go_enter Tryz.func72,Tryz.ntmps72;go_wp2;go_ret;exact⟨by rw[E1.o];rfl,by rw[E2.o];exact⟨b,ow,M,A,H.o.raise hhi⟩,uc.refl _,Below.refl _ _⟩
 |none=>
  have l1:=h.look ha hf;have hout:=h.gone hf;have E1:=qh (show decide (a ∉ N)=true by simpa using hout);have hM:=h.lenM;have hMl:M.length<=1000000:=by omega
  have H:=qh h;have HF:=qh hf;clear h hf hout hM;go_enter Tryz.func72,Tryz.ntmps72;go_wp2_with (at_mapUpdate;refine qK.halt ?_)
  refine qK.go ?_;refine(H.o.o.alloc (.map #[] 0)).wpList_store zy jj H.o.domM H.o.srtM Tryz.underlying104 (v:=w.heap.size) (by unfold maxLen;omega) ha rfl rfl (by rfl) (by rfl) (by rfl) ?_;intro w1 h1 t1;have H1:=qh h1.tight;have T1:=qh t1;have z1:=qU t1;clear h1 t1;go_wp2;go_ret;exact⟨by rw[E1.o];rfl,⟨_,_,_,_,H.o.node_new hhi HF.o T1.o H1.o ha⟩,(uc.alloc _ _).trans (uc.turned T1.o),((Below.refl _ _).alloc (by omega) _).trans (Below.turned T1.o (by omega))⟩
theorem Kw (h:jt w lo hi p N E) (hN:N.length<=1000000):Calls Tryz.prog 109 #[.pointer (some ⟨p,0,none⟩)] w fun e w'=>∃v,e=.returned v/\xJ w' w.heap.size v N/\Below w.heap.size w w':=by
 obtain⟨b,ow,M,A,h⟩:=h;have hp:=qa h.ptr 0;have hM:=h.lenM;have hMl:M.length<=1000000:=by omega
 have H:=qh h;clear h hM;go_enter Tryz.func109,Tryz.ntmps109;go_wp2_with fail;refine(qgU (some b) _).mono ?_;rintro e w1 ⟨rfl,rfl⟩;go_wp2_with fail;refine(qdJ H.o.o H.o.srtM hMl).mono ?_;rintro e w1 ⟨v,rfl,h1,h2⟩;rw[H.o.keys] at h1;have H1:=qh h1;have H2:=qh h2;clear h1 h2;go_wp2;go_ret;exact⟨v,rfl,H1.o.base (by omega),((Below.refl _ _).alloc (Nat.le_refl _) _).trans (H2.o.mono (by omega))⟩
theorem qfS (h:jt w lo hi p N E) (hE:E.length<=1000000) (a:Int) (ha:dI a):Calls Tryz.prog 114 #[.pointer (some ⟨p,0,none⟩),.int .i64 a] w fun e w'=>∃v,e=.returned v/\xJ w' w.heap.size v (row (xF E) a)/\Below w.heap.size w w':=by
 obtain⟨b,ow,M,A,h⟩:=h;have hp:=qa h.ptr 0;cases hf:fnd a M with
 |none=>
  have l1:=h.look ha hf;have hr:=qh (h.gone_row hf);clear hf h;go_enter Tryz.func114,Tryz.ntmps114;go_wp2_with fail;refine(qff none _).mono ?_;rintro e w1 ⟨rfl,rfl⟩;go_wp2_with fail;refine(WS w).mono ?_;rintro e w1 ⟨v,rfl,h1,h2⟩;have H1:=qh h1;have H2:=qh h2;clear h1 h2;go_wp2;go_ret;exact⟨v,rfl,by rw[hr.o];exact H1.o.base (by omega),((Below.refl _ _).alloc (Nat.le_refl _) _).trans (H2.o.mono (by omega))⟩
 |some u=>
  have l1:=h.look ha hf;have hu:=h.here hf;have hl:=h.lenA hu;have hAl:(A a).length<=1000000:=by omega
  have H:=qh (h.inn a u hu).2;clear hf hu h hl;go_enter Tryz.func114,Tryz.ntmps114;go_wp2_with fail;refine(qff (some u) _).mono ?_;rintro e w1 ⟨rfl,rfl⟩;go_wp2_with fail;refine(qdI H.o.1 H.o.2.1 hAl).mono ?_;rintro e w1 ⟨v,rfl,h1,h2⟩;rw[H.o.2.2] at h1;have H1:=qh h1;have H2:=qh h2;clear h1 h2;go_wp2;go_ret;exact⟨v,rfl,H1.o.base (by omega),((Below.refl _ _).alloc (Nat.le_refl _) _).trans (H2.o.mono (by omega))⟩
theorem qeg (h:jt w lo hi p N E) (hhi:hi<=w.heap.size) (hN:N.length<=900000) (hE:E.length<=900000) (a c k:Int) (ha:dI a) (hc:dI c) (hk:dI k):Calls Tryz.prog 73 #[.pointer (some ⟨p,0,none⟩),.int .i64 a,.int .i64 c,.int .i64 k] w fun e w'=>
  e=.returned (.bool (decide ((a,c,k) ∉ E)))/\jt w' lo w'.heap.size p (yL c (yL a N)) (vJ (a,c,k) E)/\uc w w'/\Below lo w w':=by
 have hmm:=@run_makeMap Tryz.prog;have q:∀(w:World) (r:Option Nat),(binOp .eql 102 (.map r) (.map none)).run Tryz.prog w=.ok (.bool r.isNone) w:=fun w r=>run_eql_map_nil w _ _ _ r Tryz.underlying102;go_enter Tryz.func73,Tryz.ntmps73;go_wp2_with fail;refine(Wi h hhi (by omega) a ha).mono ?_;rintro e w1 ⟨rfl,h1,k1,b1⟩;have H1:=qh h1;have K1:=qh k1;have B1:=qh b1;have hl1:=zj (n:=a) (l:=N);clear h h1 k1 b1;go_wp2_with fail;refine(Wi H1.o (Nat.le_refl _) (by omega) c hc).mono ?_;rintro e w2 ⟨rfl,h2,k2,b2⟩;have hl2:=zj (n:=c) (l:=yL a N);have haN:a ∈ yL c (yL a N):=xa.2 (.inr (xa.2 (.inl rfl)));have hcN:c ∈ yL c (yL a N):=xa.2 (.inl rfl);have K2:=qh (K1.o.trans k2);have B2:=qh (B1.o.trans b2);generalize hN2:yL c (yL a N)=N2 at *;have HN2:=qh hN2;have HAN:=qh haN;have HCN:=qh hcN;clear k2 b2 H1 K1 B1 haN hcN hl1 hN2;obtain⟨b,ow,M,A,h2⟩:=h2;have hp:=qa h2.ptr 0;obtain⟨u,hf⟩:=h2.there HAN.o;have l1:=h2.look ha hf;have hu:=h2.here hf;have hbl:=h2.hb;have hpl:=h2.hp;have hul:=(h2.inn a u hu).1;cases hg:fnd c (A a) with
 |some v=>
  have hv:=h2.hereA hu hg;have l2:=h2.lookA hu hc hg;have l3:=h2.lookK hu hv hk;have hvl:=(h2.leaf a u c v hu hv).1;have hkl:=Ju E a c;have H:=qh h2;have HU:=qh hu;have HV:=qh hv;clear hf hg h2 hu hv;go_wp2_with (at_mapUpdate;refine qK.halt ?_)
  refine qK.go ?_;refine(H.o.leaf a u c v HU.o HV.o).2.wpList_store zy YO (UL (H.o.domK a c)) (MP (jQ H.o.ok.srtE a c)) Tryz.underlying102 (v:=()) (by rw[VD];unfold maxLen;omega) hk rfl rfl (by rfl) (by rfl) (by rfl) ?_;intro w3 h3 t3;rw[UJ] at h3;have H3:=qh h3.tight;have T3:=qh t3;have z3:=qU t3;clear h3 t3 l1 l2 l3;go_wp2;go_ret;exact⟨by simp,by rw[HN2.o];exact⟨_,_,_,_,(H.o.edge_old HU.o HV.o T3.o H3.o hk).raise (hi':=w3.heap.size) (by omega)⟩,K2.o.trans (uc.turned T3.o),B2.o.trans (Below.turned T3.o (by omega))⟩
 |none=>
  have l2:=h2.lookA hu hc hg;have hAl:=h2.lenA hu;have hE1:=qh (show decide ((a,c,k) ∈ E)=false by simpa using fun hm=>h2.goneA hu hg (xG.2 (um.2 ⟨k,hm⟩)));have HE2:=qh (show decide ((a,c,k) ∉ E)=true by have:=hE1.o;simpa using this);have H:=qh h2;have HU:=qh hu;have HG:=qh hg;have HF:=qh hf;clear hf hg h2 hu;go_wp2_with (at_mapUpdate;refine qK.halt ?_)
  refine qK.go ?_;refine((H.o.inn a u HU.o).2.1.alloc (.map #[] 0)).wpList_store zy jj (H.o.domA HU.o) (H.o.inn a u HU.o).2.2.1 Tryz.underlying103 (v:=w2.heap.size) (by unfold maxLen;omega) hc rfl rfl (by rfl) (by rfl) (by rfl) ?_;intro w3 h3 t3;have z3:=qU t3;rw[World.size_alloc] at z3;have hp3:=qa ((qE t3 (ZK H.o.ptr (H.o.inn a u HU.o).2.1)).trans (qD (o:=.map #[] 0) H.o.ptr)) 0;have l31:=qfd ((H.o.o.alloc (.map #[] 0)).obj (qE t3 (by omega))) H.o.domM ha;rw[HF.o] at l31;have l32:=qfe h3 (yJ.upd (v:=w2.heap.size) (H.o.domA HU.o) hc) hc;rw[un (H.o.inn a u HU.o).2.2.1] at l32;have hi3:qaU w3 w2.heap.size (ju []):=((qO.made w2):qaU _ _ (ju [])).obj (qE t3 (by omega));have l33:=Vd hi3 (by simp) hk;have H3:=qh h3.tight;have T3:=qh t3;have HI:=qh hi3;clear h3 t3 hi3 l1 l2;go_wp2_with (at_mapUpdate;refine qK.halt ?_)
  refine qK.go ?_;refine HI.o.wpList_store zy YO (by simp[ju,yJ]) List.Pairwise.nil Tryz.underlying102 (v:=()) (by simp[ju,maxLen]) hk rfl rfl (by rfl) (by rfl) (by rfl) ?_;intro w4 h4 t4;have H4:=qh h4.tight;have T4:=qh t4;clear h4 t4 l31 l32 l33;go_wp2;go_ret;refine⟨by rw[HE2.o];rfl,by rw[HN2.o];exact⟨_,_,_,_,H.o.edge_new (Nat.le_refl _) HU.o HCN.o HG.o T3.o T4.o H3.o H4.o hk⟩,K2.o.trans ((uc.alloc _ _).trans ((uc.turned T3.o).trans (uc.turned T4.o))),?_⟩;exact B2.o.trans (((Below.refl _ _).alloc (by omega) _).trans ((Below.turned T3.o (by omega)).trans (Below.turned T4.o (by omega))))
end
section
attribute [local irreducible] xE
def VN:Nat->Nat
 |0=>117
 |1=>119
 |2=>120
 |_=>122
def NT (n:Nat):Nat->Array Value
 |0=>#[.pointer (some ⟨n,0,none⟩)]
 |1=>#[.pointer (some ⟨n+1,0,none⟩),.pointer (some ⟨n+1+1,0,none⟩)]
 |_=>#[.pointer (some ⟨n+1,0,none⟩)]
theorem qbt (q:Nat) (args:Array Value) (w:World):(callFunc (VN q) args).run Tryz.prog w=.ok (.enter (VN q) args) w:=by
 match q with
 |0=>exact enters_of Tryz.func117 (by kernel_rfl) rfl args w
 |1=>exact enters_of Tryz.func119 (by kernel_rfl) rfl args w
 |2=>exact enters_of Tryz.func120 (by kernel_rfl) rfl args w
 |q+3=>exact enters_of Tryz.func122 (by kernel_rfl) rfl args w
theorem Rq {w:World} {pW n q:Nat} (h:yE w pW n) (hq:q < 4):w.cell? ⟨n+1+1+1,q*2,none⟩=some (.int .i64 ((q:Int)+1))/\w.cell? ⟨n+1+1+1,q*2+1,none⟩=some (.func (.func (VN q)) #[] (NT n q)):=by
 have y:=qa h.list
 match q,hq with
 |0,_=>exact⟨y 0,y 1⟩
 |1,_=>exact⟨y 2,y 3⟩
 |2,_=>exact⟨y 4,y 5⟩
 |3,_=>exact⟨y 6,y 7⟩
section
variable {w:World} {lo hi pW bB n:Nat} {lev:Int} {ov vv lv:Value} {ms:List xz} {A:Au} {T:List Bool} {i j:Nat} {m m':xz} {a a':St}
theorem qfv (h:xT w lo hi pW bB lev ov vv ms lv A T) (hov:∃x y z,ov=.slice x y z) (hvv:∃x y z,vv=.slice x y z) (hd:Qg A) (hr:yE w pW n) (h1:ms[i]?=some m) (h2:ms[j]?=some m') (g1:A[i]?=some a) (g2:A[j]?=some a') (q:Nat) (hq:q < 4):
  Calls Tryz.prog (VN q) (#[.pointer (some ⟨m.p,0,none⟩),.pointer (some ⟨m'.p,0,none⟩)]++NT n q) w fun e w'=>e=.returned (.bool (XU lev T i j a a' q))/\Below w.heap.size w w':=by
 have e1:∀a b c:Value,(#[a,b]++#[c]:Array Value)=#[a,b,c]:=fun a b c=>by simp
 have e2:∀a b c d:Value,(#[a,b]++#[c,d]:Array Value)=#[a,b,c,d]:=fun a b c d=>by simp
 match q,hq with
 |0,_=>have:=qfw h hov hvv hr h1 h2 g1 g2;rw[←e1] at this;exact this
 |1,_=>have:=qfx h hd hr h1 h2 g1 g2;rw[←e2] at this;exact this
 |2,_=>have:=qdR h hd hr h1 h2 g1 g2;rw[←e1] at this;exact this
 |3,_=>have:=qfy h hd hr h1 h2 g1 g2;rw[←e1] at this;exact this
theorem qdO (hr:yE w pW n) (hov:∃x y z,ov=.slice x y z) (hvv:∃x y z,vv=.slice x y z) (hd:Qg A) (h1:ms[i]?=some m) (h2:ms[j]?=some m') (g1:A[i]?=some a) (g2:A[j]?=some a') {q:Nat} (hq:q < 4):∃(g:Nat) (lb:Array Value),w.cell? ⟨n+1+1+1,q*2,none⟩=some (.int .i64 ((q:Int)+1))/\w.cell? ⟨n+1+1+1,q*2+1,none⟩=some (.func (.func g) #[] lb)/\(∀args w,(callFunc g args).run Tryz.prog w=.ok (.enter g args) w)/\
  ∀W,xT W lo hi pW bB lev ov vv ms lv A T->yE W pW n->Calls Tryz.prog g (#[.pointer (some ⟨m.p,0,none⟩),.pointer (some ⟨m'.p,0,none⟩)]++lb) W fun e w'=>e=.returned (.bool (XU lev T i j a a' q))/\Below W.heap.size W w':=by
 obtain⟨c0,c1⟩:=Rq hr hq;exact⟨_,_,c0,c1,qbt q,fun W h hr'=>qfv h hov hvv hd hr' h1 h2 g1 g2 q hq⟩
def Zy (g:Gp):Nat:=g.1.length+g.2.length
theorem Mn (g:Gp) (e:jX):Zy (VQ g e)<=Zy g+3:=by
 unfold Zy VQ;have h1:=zj (n:=e.2.1) (l:=yL e.1 g.1);have h2:=zj (n:=e.1) (l:=g.1);have h3:=Zj (p:=e) (l:=g.2);simp only;omega
theorem qax {k:Nat} {g:Gp}:Zy (yN lev T i j a a' g k)<=Zy g+3:=by
 unfold yN
 split
 ·exact Mn g _
 ·omega
theorem QZ {α:Type} {f:Gp->α->Gp} {c:Nat} (hf:∀g x,Zy (f g x)<=Zy g+c):∀(l:List α) (g:Gp),Zy (l.foldl f g)<=Zy g+c*l.length
 |[],g=>by simp
 |x::l,g=>by
  rw[List.foldl_cons];have h1:=QZ hf l (f g x);have h2:=hf g x;rw[List.length_cons,Nat.mul_add];omega
theorem Nn (hal:A.length<=200):(qX lev A T).1.length<=900000/\(qX lev A T).2.length<=900000:=by
 have h1:∀(i:Nat) (a:St) (g:Gp) (j:Nat),Zy (yP lev A T i a g j)<=Zy g+12:=fun i a g j=>by
  unfold yP
  split
  ·rename_i b hb
   have:=QZ (f:=yN lev T i j a b) (c:=3) (fun g x=>qax) (List.range 4) g;simpa using this
  ·omega
 have h2:∀(g:Gp) (i:Nat),Zy (zH lev A T g i)<=Zy g+2401:=fun g i=>by
  unfold zH
  split
  ·split
   ·rename_i a ha hl
    have h3:=QZ (f:=yP lev A T i a) (c:=12) (h1 i a) (List.range A.length) (yL a.id g.1,g.2);have h4:Zy (yL a.id g.1,g.2)<=Zy g+1:=by
     unfold Zy;have:=zj (n:=a.id) (l:=g.1);simp only;omega
    rw[List.length_range] at h3;have:12*A.length<=2400:=by omega
    omega
   ·omega
  ·omega
 have h5:=QZ (f:=zH lev A T) (c:=2401) h2 (List.range A.length) ([],[]);rw[List.length_range] at h5;have h6:Zy (qX lev A T)<=2401*A.length:=by
  unfold qX;simpa[Zy] using h5
 have h7:2401*A.length<=900000:=by omega
 unfold Zy at h6;omega
theorem qev (h:xT w lo hi pW bB lev ov vv ms lv A T) (hov:∃x y z,ov=.slice x y z) (hvv:∃x y z,vv=.slice x y z) (hd:Qg A) (hids:∀s ∈ A,dI s.id) (hal:A.length<=200) (hhi:hi<=w.heap.size):
  Calls Tryz.prog 36 #[.pointer (some ⟨pW,0,none⟩)] w fun e w'=>∃p,e=.returned (.pointer (some ⟨p,0,none⟩))/\jt w' w.heap.size w'.heap.size p (qX lev A T).1 (qX lev A T).2/\Below w.heap.size w w':=by
 have HH:=qh h;have HOV:=qh hov;have HVV:=qh hvv;have HD:=qh hd;have HID:=qh hids;obtain⟨al,cl,hlv⟩:=qj.sli h.lst;subst hlv;have hml:ms.length=A.length:=h.len;have hml2:ms.length<=200:=by omega
 have HML:=qh hml;have rw0:=h.row;have y0:=qa rw0;have y2:=y0 3;simp at y2;have yl:=qd rw0;clear h hov hvv hd hids hml y0;go_enter Tryz.func36,Tryz.ntmps36;go_wp2_with fail;refine(qfT w).mono ?_;rintro e W1 ⟨p,rfl,hg1,b1⟩;have F1:=qh (HH.o.below b1 hhi (Nat.le_refl _));have G1:=qh hg1;have B1:=qh b1;have hz1:=b1.size;have hpl:=hg1.lt;clear hg1 b1;go_wp2_with fail;refine(qdS W1 pW).mono ?_;rintro e W2 ⟨rfl,hr2,b2⟩;have F2:=qh (F1.o.below b2 (by omega) (Nat.le_refl _));have G2:=qh (G1.o.below b2 (Nat.le_refl _));have R2:=qh hr2;have B2:=qh (B1.o.trans (b2.mono hz1));have hz2:=b2.size;have hR2:W1.heap.size+1+1+1 < W2.heap.size:=qd hr2.list;have G2r:=qh (G2.o.raise hz2);clear hr2 b2 F1 G1 B1 G2;generalize W1.heap.size=nR at *;have rw2:=F2.o.row;have yq:=qa rw2 3;simp at yq;have yql:=qd rw2;clear rw2 rw0 y2 yl;go_wp2_with fail
 go_loopw [19] (fun q wr=>∃(k:Nat),k<=ms.length/\q=.int .i64 k/\xT wr lo hi pW bB lev ov vv ms (.slice al ms.length cl) A T/\yE wr pW nR/\jt wr w.heap.size wr.heap.size p ((List.range k).foldl (zH lev A T) ([],[])).1 ((List.range k).foldl (zH lev A T) ([],[])).2/\Zy ((List.range k).foldl (zH lev A T) ([],[]))<=2500*k/\Below w.heap.size w wr/\nR+1+1+1 < wr.heap.size) (fun q _=>ms.length - (intOf q).toNat)
 case atStart=>exact⟨0,by omega,by go_num,F2.o,R2.o,G2r.o,by simp[Zy],B2.o,hR2⟩
 case round=>
  obtain⟨k,hk,rfl,hF,hR,hG,hgz,hB,hzr⟩:=hrel;obtain⟨g,hgd⟩:∃g,(List.range k).foldl (zH lev A T) ([],[])=g:=⟨_,rfl⟩
  rw[hgd] at hG hgz;have HGD:=qh hgd;have HF:=qh hF;have HR:=qh hR;have HG:=qh hG;have HB:=qh hB;have hwz:=hB.size;have hgz':g.1.length+g.2.length<=2500*k:=hgz;clear hgd hF hR hG hB F2 R2 G2r B2 hR2 hgz;by_cases hlt:k < ms.length
  ·obtain ⟨bl,ol,m,hqe,hbl,hmk,hcl⟩:=(qj.sl HF.o.lst).atF xz.len rfl hlt
   subst hqe;have c0:wr.cell? ⟨bl,ol+k,none⟩=some (.pointer (some ⟨m.p,0,none⟩)):=by have:=hcl 0 (by decide);simpa[xz.cells,xD] using this
   obtain⟨m0,s,g1,hsk,hMv⟩:=HF.o.get (k:=k) (by have:=HML.o;omega);rw[hmk] at g1;obtain rfl:=Option.some.inj g1;have HMK:=qh hmk;have HSK:=qh hsk;have ym:=qa hMv.row;have ym0:=ym 0;have ym9:=ym 9;simp at ym0 ym9;have yml:=qd hMv.row;have HRG:=qh (show(List.range (k+1)).foldl (zH lev A T) ([],[])=zH lev A T g k by rw[List.range_succ,List.foldl_append,HGD.o];rfl);obtain⟨lk,hlk⟩:∃lk,xH lev T k=lk:=⟨_,rfl⟩
   rw[hlk] at ym9;have HLK:=qh hlk;clear hmk hsk hMv ym hcl hlk;cases lk with
   |false=>
    go_wp2_with fail;go_roundw
    case rel=>
     have e:zH lev A T g k=g:=by unfold zH;rw[HSK.o];simp only[HLK.o,Bool.false_eq_true,if_false]
     refine⟨k+1,by omega,by go_num,HF.o,HR.o,?_,?_,HB.o,hzr⟩
     ·rw [HRG.o,e];exact HG.o
     ·rw [HRG.o,e];show g.1.length+g.2.length<=_;omega
    case measure=>simp[intOf];omega
   |true=>
    have hsid:=HID.o s (List.mem_of_getElem? HSK.o);have NC:=qh (Wi HG.o (Nat.le_refl _) (by omega) s.id hsid);have hNe:=zj (n:=s.id) (l:=g.1);clear hsid;go_wp2_with fail;refine(NC.o).mono ?_;rintro e W3 ⟨rfl,hg3,k3,b3⟩;have hz3:=k3.size;have F3:=qh (HF.o.below b3 hhi (Nat.le_refl _));have R3:=qh (show yE W3 pW nR from⟨k3.cells HR.o.wd,k3.cells HR.o.same,k3.cells HR.o.any_,k3.cells HR.o.list⟩);have G3:=qh hg3;have B3:=qh (HB.o.trans (b3.mono (Nat.le_refl _)));obtain⟨g3,hg3d⟩:∃g3:Gp,(yL s.id g.1,g.2)=g3:=⟨_,rfl⟩
    have HN1:=qh (show zH lev A T g k=(List.range A.length).foldl (yP lev A T k s) g3 by unfold zH;rw[HSK.o,←hg3d];simp only[HLK.o,if_true]);have hg3z:g3.1.length+g3.2.length<=2500*k+1:=by rw[←hg3d];simp only;omega
    have G3:=qh (show jt W3 w.heap.size W3.heap.size p g3.1 g3.2 by rw[←hg3d];exact G3.o);have hzr3:nR+1+1+1 < W3.heap.size:=by omega
    clear hg3 k3 b3 NC HF HR HG HB hg3d hNe ym0 ym9 yml c0;have rw3:=F3.o.row;have yq:=qa rw3 3;simp at yq;have yql:=qd rw3;clear rw3;go_wp2_with fail
    go_loopw [40] (fun q wq=>∃(j:Nat),j<=ms.length/\q=.int .i64 j/\xT wq lo hi pW bB lev ov vv ms (.slice (some ⟨bl,ol,none⟩) ms.length cl) A T/\yE wq pW nR/\jt wq w.heap.size wq.heap.size p ((List.range j).foldl (yP lev A T k s) g3).1 ((List.range j).foldl (yP lev A T k s) g3).2/\Zy ((List.range j).foldl (yP lev A T k s) g3)<=2500*k+1+12*j/\Below w.heap.size w wq/\nR+1+1+1 < wq.heap.size) (fun q _=>ms.length - (intOf q).toNat)
    case atStart=>exact⟨0,by omega,by go_num,F3.o,R3.o,G3.o,by simpa[Zy] using hg3z,B3.o,hzr3⟩
    case round=>
     obtain⟨j,hj,rfl,hF,hR,hG,hgz,hB,hzr⟩:=hrel;obtain⟨g4,hg4⟩:∃g4,(List.range j).foldl (yP lev A T k s) g3=g4:=⟨_,rfl⟩
     rw[hg4] at hG hgz;have HG4:=qh hg4;have HF:=qh hF;have HR:=qh hR;have HG:=qh hG;have HB:=qh hB;have hwz:=hB.size;clear hg4 hF hR hG hB F3 R3 G3 B3 hzr3 yq yql;by_cases hlt2:j < ms.length
     ·obtain ⟨bl2,ol2,m',hqe,hbl2,hmj,hcl⟩:=(qj.sl HF.o.lst).atF xz.len rfl hlt2
      simp only[Option.some.injEq,Addr.mk.injEq,and_true] at hqe;obtain⟨rfl,rfl⟩:=hqe;have c0:wr.cell? ⟨bl,ol+j,none⟩=some (.pointer (some ⟨m'.p,0,none⟩)):=by have:=hcl 0 (by decide);simpa[xz.cells,xD] using this
      obtain⟨m0,s',g1,hsj,hMv⟩:=HF.o.get (k:=j) (by have:=HML.o;omega);rw[hmj] at g1;obtain rfl:=Option.some.inj g1;have HMJ:=qh hmj;have HSJ:=qh hsj;have HRE:=qh (show(List.range (j+1)).foldl (yP lev A T k s) g3=yP lev A T k s g4 j by rw[List.range_succ,List.foldl_append,HG4.o];rfl);have HE1:=qh (show yP lev A T k s g4 j=(List.range 4).foldl (yN lev T k j s s') g4 by unfold yP;rw[HSJ.o]);clear hmj hsj hMv hcl;go_wp2_with fail
      go_loopw [46] (fun r wq=>∃(q:Nat),q<=4/\r=.int .i64 q/\xT wq lo hi pW bB lev ov vv ms (.slice (some ⟨bl,ol,none⟩) ms.length cl) A T/\yE wq pW nR/\jt wq w.heap.size wq.heap.size p ((List.range q).foldl (yN lev T k j s s') g4).1 ((List.range q).foldl (yN lev T k j s s') g4).2/\Zy ((List.range q).foldl (yN lev T k j s s') g4)<=2500*k+1+12*j+3*q/\Below w.heap.size w wq/\nR+1+1+1 < wq.heap.size) (fun r _=>4 - (intOf r).toNat)
      case atStart=>exact⟨0,by omega,by go_num,HF.o,HR.o,HG.o,by simpa using hgz,HB.o,hzr⟩
      case round=>
       obtain⟨q,hq,rfl,hF,hR,hG,hgz2,hB,hzr⟩:=hrel;obtain⟨g5,hg5⟩:∃g5,(List.range q).foldl (yN lev T k j s s') g4=g5:=⟨_,rfl⟩
       rw[hg5] at hG hgz2;have HG5:=qh hg5;have HF:=qh hF;have HR:=qh hR;have HG:=qh hG;have HB:=qh hB;have hwz:=hB.size;have hgz3:g5.1.length+g5.2.length<=2500*k+1+12*j+3*q:=hgz2;clear hg5 hF hR hG hB hgz2 c0;by_cases hq4:q < 4
       ·obtain ⟨gq,lbq,k0,k1,eg,hRQ⟩:=qdO (w:=wr) (lo:=lo) (hi:=hi) (bB:=bB) (lev:=lev) (lv:=.slice (some ⟨bl,ol,none⟩) ms.length cl) (T:=T) HR.o HOV.o HVV.o HD.o HMK.o HMJ.o HSK.o HSJ.o hq4
        have HRQ:=qh (show(List.range (q+1)).foldl (yN lev T k j s s') g4=yN lev T k j s s' g5 q by rw[List.range_succ,List.foldl_append,HG5.o];rfl);have BC:=qh (show Below wr.heap.size wr (wr.alloc (.cells #[.int .i64 ((q:Int)+1),.func (.func gq) #[] lbq] 168)) from(Below.refl _ wr).alloc (Nat.le_refl _) _);have rC:=qy wr (.cells #[.int .i64 ((q:Int)+1),.func (.func gq) #[] lbq] 168);have RCR:=qh rC;have FC:=qh (HF.o.below BC.o (by omega) (Nat.le_refl _));have RCc:=qh (HR.o.below BC.o (by omega));have hzc:wr.heap.size < (wr.alloc (.cells #[.int .i64 ((q:Int)+1),.func (.func gq) #[] lbq] 168)).heap.size:=qd rC;have GC:=qh ((HG.o.below BC.o (Nat.le_refl _)).raise (Nat.le_of_lt hzc));have BWC:=qh (HB.o.trans (BC.o.mono hwz));have RQ:=qh (hRQ _ FC.o RCc.o);have rj:=(FC.o.mv j m' s' HMJ.o HSJ.o).row;have rk:=(FC.o.mv k m s HMK.o HSK.o).row;have HRJ:=qh rj;have HRK:=qh rk;have z9:=qa rj 9;simp at z9;have zl:=qd rj;have yl:=qd rk;have hpn:=ZJ rk rj;have HPK:=qh (show m.p=m'.p↔k=j from⟨fun e=>FC.o.inj k j m m' HMK.o HMJ.o e,fun e=>by subst e;have h1:=HMK.o;rw[HMJ.o] at h1;rw[Option.some.inj h1]⟩);have w0:(wr.alloc (.cells #[.int .i64 ((q:Int)+1),.func (.func gq) #[] lbq] 168)).cell? ⟨wr.heap.size,0,none⟩=some (.int .i64 ((q:Int)+1)):=qa rC 0;have w1:(wr.alloc (.cells #[.int .i64 ((q:Int)+1),.func (.func gq) #[] lbq] 168)).cell? ⟨wr.heap.size,1,none⟩=some (.func (.func gq) #[] lbq):=qa rC 1;obtain⟨lj,hlj⟩:∃lj,xH lev T j=lj:=⟨_,rfl⟩
        rw[hlj] at z9;have HLJ:=qh hlj;clear rj rk rC hlj hRQ BC HF HR HG HB;cases lj with
        |false=>
         go_wp2_with fail;generalize wr.alloc (.cells #[.int .i64 ((q:Int)+1),.func (.func gq) #[] lbq] 168)=Wc at *;go_roundw
         case rel=>
          have e:yN lev T k j s s' g5 q=g5:=by unfold yN;rw[if_neg];rw[HLJ.o];simp
          refine⟨q+1,by omega,by go_num,FC.o,RCc.o,?_,?_,BWC.o,by omega⟩
          ·rw [HRQ.o,e];exact GC.o
          ·rw [HRQ.o,e];show g5.1.length+g5.2.length<=_;omega
         case measure=>simp[intOf];omega
        |true=>
         by_cases hkj:k=j
         ·rw [show decide (m.p=m'.p)=true by simpa using HPK.o.2 hkj] at hpn
          simp only[Bool.not_true] at hpn;have HNE:=qh hkj;clear hkj;go_wp2_with fail;generalize wr.alloc (.cells #[.int .i64 ((q:Int)+1),.func (.func gq) #[] lbq] 168)=Wc at *;go_roundw
          case rel=>
           have e:yN lev T k j s s' g5 q=g5:=by unfold yN;rw[if_neg];rw[HNE.o];simp
           refine⟨q+1,by omega,by go_num,FC.o,RCc.o,?_,?_,BWC.o,by omega⟩
           ·rw [HRQ.o,e];exact GC.o
           ·rw [HRQ.o,e];show g5.1.length+g5.2.length<=_;omega
          case measure=>simp[intOf];omega
         ·rw [show decide (m.p=m'.p)=false by simpa using fun e=>hkj (HPK.o.1 e)] at hpn
          simp only[Bool.not_false] at hpn;have HNE:=qh hkj;clear hkj;go_wp2_with fail;generalize wr.alloc (.cells #[.int .i64 ((q:Int)+1),.func (.func gq) #[] lbq] 168)=Wc at *;refine(RQ.o).mono ?_;rintro e W4 ⟨rfl,b4⟩;obtain⟨rq,hrq⟩:∃rq,XU lev T k j s s' q=rq:=⟨_,rfl⟩
          rw[hrq];have HRK2:=qh hrq;have F4:=qh (FC.o.below b4 (by have:=BWC.o.size;omega) (Nat.le_refl _));have R4:=qh (RCc.o.below b4 (by omega));have hz4:=b4.size;have G4:=qh ((GC.o.below b4 (Nat.le_refl _)).raise hz4);have B4:=qh (BWC.o.trans (b4.mono BWC.o.size));have rk4:=qp HRK.o b4 (qd HRK.o);have rj4:=qp HRJ.o b4 (qd HRJ.o);have rc4:=qp RCR.o b4 hzc;have yk:=qa rk4 0;have yj:=qa rj4 0;have yc:=qa rc4 0;simp at yk yj yc;have ykl:=qd rk4;have yjl:=qd rj4;have ycl:=qd rc4;clear hrq b4 rk4 rj4 rc4 FC RCc GC BWC RQ hpn z9 zl yl w0 w1 k0 k1;cases rq with
          |false=>
           go_wp2_with fail;go_roundw
           case rel=>
            have e:yN lev T k j s s' g5 q=g5:=by unfold yN;rw[if_neg];rw[HRK2.o];simp
            refine⟨q+1,by omega,by go_num,F4.o,R4.o,?_,?_,B4.o,by omega⟩
            ·rw [HRQ.o,e];exact G4.o
            ·rw [HRQ.o,e];show g5.1.length+g5.2.length<=_;omega
           case measure=>simp[intOf];omega
          |true=>
           have hik:=HID.o s (List.mem_of_getElem? HSK.o);have hij:=HID.o s' (List.mem_of_getElem? HSJ.o);have EC:=qh (qeg (w:=W4.drew) (G4.o.below (Below.refl _ W4).drew (Nat.le_refl _)) (Nat.le_refl _) (by omega) (by omega) s.id s'.id ((q:Int)+1) hik hij (by unfold dI Lit.wf;simp[IntKind.min,IntKind.max,IntKind.bits,IntKind.signed];omega));clear hik hij;go_wp2_with fail;refine qI (W4.heap.size) [0,0,0,0,0,1,0,0,0,0,1,0,1,2] (.fin [0,1,2,3,4,5,6,7,8,9,10,11,12,13]) (by kernel_rfl) ?_;simp only[xi,qP,qA,sD,sE,sF,sG]
           repeat first|(refine qz fun K hK=>?_;go_simp;refine hK _ _ ?_;clear hK K)|(apply qC;(intro w2 hw2;have hk1:=hw2.cell;have hk3:=hw2.1;clear hw2;go_simp;with_reducible rfl);simp only[Act.put,sA,sB,sC])
           refine qM (fun K hK=>?_);go_simp;refine(EC.o).mono ?_;rintro e W5 ⟨rfl,hg6,k6,b6⟩;refine hK _ _ ?_;clear hK K;have k6:uc W4 W5:=⟨k6.size,fun i o hi ho=>k6.obj i o hi ho⟩
           have F6:=qh (F4.o.below (show Below w.heap.size W4 W5 from(Below.refl _ W4).drew.trans b6) hhi (Nat.le_refl _));have R6:=qh (show yE W5 pW nR from⟨k6.cells R4.o.wd,k6.cells R4.o.same,k6.cells R4.o.any_,k6.cells R4.o.list⟩);have B6:=qh (B4.o.trans ((Below.refl _ W4).drew.trans b6));have hz6:=k6.size;have hput:=Mn g5 (s.id,s'.id,((q+1:Nat):Int));have HED:=qh (show yN lev T k j s s' g5 q=VQ g5 (s.id,s'.id,((q+1:Nat):Int)) by unfold yN;rw[if_pos];rw[HLJ.o,HRK2.o];simp[HNE.o]);have G6:=qh (show jt W5 w.heap.size W5.heap.size p (VQ g5 (s.id,s'.id,((q+1:Nat):Int))).1 (VQ g5 (s.id,s'.id,((q+1:Nat):Int))).2 from by
            have e1:((q+1:Nat):Int)=(q:Int)+1:=by omega
            rw[e1];exact hg6)
           clear hg6 k6 b6 EC
           repeat first|(refine qz fun K hK=>?_;go_simp;refine hK _ _ ?_;clear hK K)|refine qu ?_
           go_wp2_with fail;go_roundw
           case rel=>
            refine⟨q+1,by omega,by go_num,F6.o,R6.o,?_,?_,B6.o,by omega⟩
            ·rw [HRQ.o,HED.o];exact G6.o
            ·rw [HRQ.o,HED.o];have:Zy g5=g5.1.length+g5.2.length:=rfl;omega
           case measure=>simp[intOf];omega
       ·obtain rfl:q=4:=by omega
        go_wp2_with fail;go_roundw
        case rel=>
         refine⟨j+1,by omega,by go_num,HF.o,HR.o,?_,?_,HB.o,hzr⟩
         ·rw [HRE.o,HE1.o,HG5.o];exact HG.o
         ·rw [HRE.o,HE1.o,HG5.o];show g5.1.length+g5.2.length<=_;omega
        case measure=>simp[intOf];omega
     ·obtain rfl:j=ms.length:=by omega
      have hq:decide ((ms.length:Int) < (ms.length:Int))=false:=by simp
      have hgz3:g4.1.length+g4.2.length<=2500*k+1+12*ms.length:=hgz;have HNE:=qh (show zH lev A T g k=g4 by rw[HN1.o,←HML.o];exact HG4.o);go_wp2_with fail;go_roundw
      case rel=>
       refine⟨k+1,by omega,by go_num,HF.o,HR.o,?_,?_,HB.o,hzr⟩
       ·rw [HRG.o,HNE.o];exact HG.o
       ·rw [HRG.o,HNE.o];show g4.1.length+g4.2.length<=_;omega
      case measure=>simp[intOf];omega
  ·obtain rfl:k=ms.length:=by omega
   have hq:decide ((ms.length:Int) < (ms.length:Int))=false:=by simp
   have HGE:=qh (show qX lev A T=g by unfold qX;rw[←HML.o];exact HGD.o);go_wp2_with fail;go_ret;exact⟨p,rfl,by rw[HGE.o];exact HG.o,HB.o⟩
end
end
abbrev QJ (w:World) (b:Nat) (M:List (Int×Int)):Prop:=qO Tryz.prog 3 qaR (.int .i64) (fun n:Int=>.lit (.int .i64 n)) w b M.length M
section
variable {P:Program} {K:TypeId} {R:RdU} {kl:Int->Lit} {ε:Type} {ed:ε->DU} {w w':World} {q n b r cnt:Nat} {L:List (Int×ε)} {S:Int->Bool}
variable {α:Type} {f:α->List Value} {e:TypeId} {sz B:Nat} {v v':Value} {l:List α}
def Uj (w:World) (r:Nat):Prop:=∃m since seen c0,w.heap[r]?=some (.mapIter m since seen c0)
theorem vr.iterAt (h:vr P K R kl ed w b r n L S cnt):Uj w r:=let ⟨s,s2,c,hr⟩:=h.iter;⟨_,s,s2,c,hr⟩
theorem qO.nextK (h:qO P K R kl ed w q n L) (hi:Uj w r) (hg:w.grownBy w' (some r)):qO P K R kl ed w' q n L:=by
 obtain⟨es,c,hb,-⟩:=id h;refine h.obj (hg.block q h.lt fun e=>?_);cases e;obtain⟨m,s,s2,c,hr⟩:=hi;rw[hb] at hr;cases hr
theorem qj.nextK (h:qj f e sz w B v l) (hi:Uj w r) (hg:w.grownBy w' (some r)):qj f e sz w' B v l:=by
 refine h.kept hg ?_;refine .inr fun e=>?_;obtain⟨cs,hcs⟩:=h.keepObj r e;obtain⟨m,s,s2,c,hr⟩:=hi;rw[hcs] at hr;cases hr
theorem vr.nextK {r':Nat} (h:vr P K R kl ed w b r n L S cnt) (hi:Uj w r') (hne:r≠r') (hg:w.grownBy w' (some r')):vr P K R kl ed w' b r n L S cnt:=by
 refine h.obj (hg.block b h.owns.lt fun e=>?_) (hg.block r h.lt fun e=>hne (Option.some.inj e));cases e;obtain⟨es,c,hb,-⟩:=id h.owns;obtain⟨m,s,s2,c,hr⟩:=hi;rw[hb] at hr;cases hr
theorem qO.none (h:qO P K R kl ed w q n L) (hg:w.grownBy w' Option.none):qO P K R kl ed w' q n L:=h.obj (hg.block q h.lt (by simp))
theorem qj.none (h:qj f e sz w B v l) (hg:w.grownBy w' Option.none):qj f e sz w' B v l:=h.kept hg (by cases v.ownBlock <;> simp)
theorem vr.none (h:vr P K R kl ed w b r n L S cnt) (hg:w.grownBy w' Option.none):vr P K R kl ed w' b r n L S cnt:=h.obj (hg.block b h.owns.lt (by simp)) (hg.block r h.lt (by simp))
theorem qO.grw (h:qO P K R kl ed w q n L) (ho:qj f e sz w B v l) (hg:Yt w w' v v'):qO P K R kl ed w' q n L:=by
 obtain⟨es,c,hb,-⟩:=id h;refine h.obj (hg.grown.block q h.lt fun e=>?_);obtain⟨cs,hcs⟩:=ho.keepObj q e.symm;rw[hb] at hcs;cases hcs
theorem vr.grw (h:vr P K R kl ed w b r n L S cnt) (ho:qj f e sz w B v l) (hg:Yt w w' v v'):vr P K R kl ed w' b r n L S cnt:=by
 obtain⟨s,s2,c,hr⟩:=h.iter;obtain⟨es,c,hb,-⟩:=id h.owns;refine h.obj (hg.grown.block b h.owns.lt fun e=>?_) (hg.grown.block r h.lt fun e=>?_)
 ·obtain ⟨cs,hcs⟩:=ho.keepObj b e.symm
  rw[hb] at hcs;cases hcs
 ·obtain ⟨cs,hcs⟩:=ho.keepObj r e.symm
  rw[hr] at hcs;cases hcs
theorem qj.turn (h:qj f e sz w B v l) {q':Nat} (ht:w.mapTurned w' q'):qj f e sz w' B v l:=h.keepC (uc.turned ht)
theorem vr.turn (h:vr P K R kl ed w b r n L S cnt) {q':Nat} (ht:w.mapTurned w' q') (hne:b≠q'):vr P K R kl ed w' b r n L S cnt:=by
 obtain⟨s,s2,c,hr⟩:=h.iter;refine h.obj (qE ht hne) (qE ht ?_);rintro rfl;obtain⟨es,c,es',c',hb,-⟩:=ht;rw[hr] at hb;cases hb
end
structure Xl (P:List Pr) (k:Int) (n:Nat) (F:List (Int×Int)):Prop where
 srt:zm F
 mem:∀a d,(a,d) ∈ F↔∃m:Nat,d=m/\m < n/\xL P k m a
structure Vz (P:List Pr) (k:Int) (F:List (Int×Int)):Prop where
 srt:zm F
 mem:∀a d,(a,d) ∈ F↔∃m:Nat,d=m/\xL P k m a
def hit (F:List (Int×Int)) (k:Int) (n:Nat) (b:Int):Bool:=(b==k&&(n:Int)==1)||((fnd b F).isSome&&(fnd b F).getD 0==(n:Int) - 1&&b !=k)
section
variable {P:List Pr} {k:Int} {n:Nat} {F:List (Int×Int)} {N:List Int} {a:Int}
theorem Xl.start (P:List Pr) (k:Int):Xl P k 1 []:=⟨List.Pairwise.nil,fun a d=>⟨fun h=>by simp at h,fun⟨m,_,h1,h2⟩=>by have:=h2.1;omega⟩⟩
theorem Xl.fnd_some (h:Xl P k n F) {d:Int}:fnd a F=some d↔∃m:Nat,d=m/\m < n/\xL P k m a:=by rw[_root_.Go.Proofs.YtcpfbphcldocpaaGreatDoor.fnd_some h.srt,h.mem]
theorem Xl.fnd_none (h:Xl P k n F):fnd a F=none↔∀m,m < n->¬xL P k m a:=by
 rw[_root_.Go.Proofs.YtcpfbphcldocpaaGreatDoor.fnd_none];constructor
 ·exact fun hf m hm hd=>hf m ((h.mem a m).2 ⟨m,rfl,hm,hd⟩)
 ·rintro hf u hu
  obtain⟨m,-,hm,hd⟩:=(h.mem a u).1 hu;exact hf m hm hd
theorem Xl.hit_iff (h:Xl P k n F) (hn:1<=n) (hf:fnd a F=none):(∃b,(a,b) ∈ P/\hit F k n b=true)↔xL P k n a:=by
 rw[h.fnd_none] at hf;unfold hit;obtain⟨q,rfl⟩:∃q,n=q+1:=⟨n - 1,by omega⟩
 by_cases hq:q=0
 ·subst hq
  rw[JU];constructor
  ·rintro ⟨b,hb,hh⟩
   simp only[Bool.or_eq_true,Bool.and_eq_true,beq_iff_eq] at hh;rcases hh with⟨rfl,-⟩|⟨⟨h1,-⟩,-⟩
   ·exact hb
   ·obtain ⟨d,hd⟩:=Option.isSome_iff_exists.1 h1
    obtain⟨m,-,hm,hdm⟩:=h.fnd_some.1 hd;have:=hdm.1;omega
  ·exact fun hk=>⟨k,hk,by simp⟩
 ·rw [YR (by omega)]
  constructor
  ·rintro ⟨b,hb,hh⟩
   simp only[Bool.or_eq_true,Bool.and_eq_true,beq_iff_eq,bne_iff_ne] at hh;rcases hh with⟨-,h1⟩|⟨⟨h1,h2⟩,h3⟩
   ·omega
   ·obtain ⟨d,hd⟩:=Option.isSome_iff_exists.1 h1
    rw[hd] at h2;simp only[Option.getD_some] at h2;obtain⟨m,e,hm,hdm⟩:=h.fnd_some.1 hd;obtain rfl:m=q:=by omega
    exact⟨⟨b,hb,h3,hdm⟩,fun m hm1 hm2=>hf m (by omega)⟩
  ·rintro ⟨⟨b,hb,h3,hdm⟩,-⟩
   refine⟨b,hb,?_⟩;have hd:=h.fnd_some.2 ⟨q,rfl,by omega,hdm⟩;simp only[Bool.or_eq_true,Bool.and_eq_true,beq_iff_eq,bne_iff_ne];refine .inr ⟨⟨by rw[hd];rfl,?_⟩,h3⟩;rw[hd];simp
theorem JW {m:Nat} (hn:1<=n):∀{m:Nat} {a:Int},n<=m->xL P k m a->∃x,xL P k n x
 |0,a,h,_=>by omega
 |m+1,a,h,hd=>by
  by_cases e:n=m+1
  ·subst e;exact⟨a,hd⟩
  ·obtain ⟨b,-,-,hb⟩:=hd.next (by omega)
   exact JW (m:=m) hn (by omega) hb
theorem Xl.done (h:Xl P k n F) (hn:1<=n) (hno:∀a,¬xL P k n a):Vz P k F:=⟨h.srt,fun a d=>by
 rw[h.mem];constructor
 ·rintro ⟨m,e,-,hd⟩;exact⟨m,e,hd⟩
 ·rintro ⟨m,e,hd⟩
  refine⟨m,e,?_,hd⟩;rcases Nat.lt_or_ge m n with hl|hl
  ·exact hl
  ·obtain ⟨x,hx⟩:=JW (m:=m) hn hl hd
   exact absurd hx (hno x)⟩
def Xz (F:List (Int×Int)) (L:List Int) (n:Nat):List (Int×Int):=L.foldl (fun F a=>upd a (n:Int) F) F
theorem qad (F:List (Int×Int)) (L:List Int) (a:Int) (n:Nat):Xz F (L++[a]) n=upd a (n:Int) (Xz F L n):=by simp[Xz]
theorem XO:∀{L:List Int} {F:List (Int×Int)},zm F->zm (Xz F L n)
 |[],_,h=>h
 |a::L,F,h=>XO (L:=L) (F:=upd a (n:Int) F) (je h)
theorem Yb {x:Int×Int}:∀{L:List Int} {F:List (Int×Int)},zm F->(x ∈ Xz F L n↔(x.1 ∈ L/\x.2=n)\/(x.1 ∉ L/\x ∈ F))
 |[],F,h=>by simp[Xz]
 |a::L,F,h=>by
  have ih:=Yb (x:=x) (L:=L) (F:=upd a (n:Int) F) (je h);show x ∈ Xz (upd a (n:Int) F) L n↔_;rw[ih,za h];obtain⟨x1,x2⟩:=x;simp only[List.mem_cons,Prod.mk.injEq,not_or];constructor
  ·rintro (⟨h1,h2⟩|⟨h1,⟨h2,h3⟩|⟨h2,h3⟩⟩)
   ·exact .inl ⟨.inr h1,h2⟩
   ·exact .inl ⟨.inl h2,h3⟩
   ·exact .inr ⟨⟨h3,h1⟩,h2⟩
  ·rintro (⟨h1|h1,h2⟩|⟨⟨h1,h2⟩,h3⟩)
   ·by_cases hm:x1 ∈ L
    ·exact .inl ⟨hm,h2⟩
    ·exact .inr ⟨hm,.inl ⟨h1,h2⟩⟩
   ·exact .inl ⟨h1,h2⟩
   ·exact .inr ⟨h2,.inr ⟨h3,h1⟩⟩
theorem Xl.round (h:Xl P k n F) {L:List Int} (hL:∀a,a ∈ L↔xL P k n a):Xl P k (n+1) (Xz F L n):=⟨XO h.srt,fun a d=>by
 rw[Yb h.srt,h.mem];simp only;constructor
 ·rintro (⟨h1,h2⟩|⟨h1,m,e,hm,hd⟩)
  ·exact ⟨n,h2,by omega,(hL a).1 h1⟩
  ·exact ⟨m,e,by omega,hd⟩
 ·rintro ⟨m,e,hm,hd⟩
  by_cases ha:a ∈ L
  ·have:=hd.uniq ((hL a).1 ha)
   exact .inl ⟨ha,by omega⟩
  ·refine .inr ⟨ha,m,e,?_,hd⟩
   rcases Nat.lt_or_ge m n with hl|hl
   ·exact hl
   ·obtain rfl:m=n:=by omega
    exact absurd ((hL a).2 hd) ha⟩
theorem Kb (h:Xl P k n F) (hN:∀x ∈ P,x.1 ∈ N) {L:List Int} (hL:∀a ∈ L,a ∈ N):(Xz F L n).length<=N.length:=by
 have h1:((Xz F L n).map (·.1)).length<=N.length:=uu (XO h.srt).keys.nodup fun z hz=>by
  obtain⟨q,hq,rfl⟩:=List.mem_map.1 hz;rcases(Yb h.srt).1 hq with⟨h1,-⟩|⟨-,h1⟩
  ·exact hL _ h1
  ·obtain ⟨m,-,-,hd⟩:=(h.mem q.1 q.2).1 h1
   obtain⟨b,hb⟩:=hd.head;exact hN (q.1,b) hb
 simpa using h1
structure Ys (P:List Pr) (N:List Int) (k:Int) (n:Nat) (S:Int->Bool) (L:List Int):Prop where
 nodup:L.Nodup
 mem:∀a,a ∈ L↔a ∈ N/\S a=false/\xL P k n a
theorem Ys.start (P:List Pr) (N:List Int) (k:Int) (n:Nat):Ys P N k n (fun _=>true) []:=⟨List.nodup_nil,fun a=>by simp⟩
theorem Ys.hit {S:Int->Bool} {L:List Int} (h:Ys P N k n S L) (hS:S a=true) (ha:a ∈ N) (hd:xL P k n a):Ys P N k n (fun z=>S z&&!(z==a)) (L++[a]):=by
 refine⟨?_,fun x=>?_⟩
 ·rw [List.nodup_append]
  refine⟨h.nodup,by simp,fun x hx y hy=>?_⟩;simp only[List.mem_singleton] at hy;subst hy;rintro rfl;have:=((h.mem x).1 hx).2.1;rw[hS] at this;cases this
 ·rw [List.mem_append,h.mem,List.mem_singleton]
  by_cases e:x=a
  ·subst e;simp[ha,hd]
  ·have e2:(x==a)=false:=by simpa using e
   simp[e,e2]
theorem Ys.miss {S:Int->Bool} {L:List Int} (h:Ys P N k n S L) (hd:¬xL P k n a):Ys P N k n (fun z=>S z&&!(z==a)) L:=by
 refine⟨h.nodup,fun x=>?_⟩;rw[h.mem];by_cases e:x=a
 ·subst e;simp[hd]
 ·have e2:(x==a)=false:=by simpa using e
  simp[e2]
theorem Ys.all {S:Int->Bool} {L:List Int} (h:Ys P N k n S L) (hS:∀a ∈ N,S a=false) (hN:∀x ∈ P,x.1 ∈ N) (a:Int):a ∈ L↔xL P k n a:=by
 rw[h.mem];constructor
 ·exact fun h=>h.2.2
 ·intro hd
  obtain⟨b,hb⟩:=hd.head;have:=hN _ hb;exact⟨this,hS a this,hd⟩
theorem Ys.le {S:Int->Bool} {L:List Int} (h:Ys P N k n S L):L.length<=N.length:=uu h.nodup fun x hx=>((h.mem x).1 hx).1
end
theorem QY {w:World} {f:Nat} {F:List (Int×Int)} (h:QJ w f F) (hd:yJ dI F) {a:Int} (ha:dI a) {r:Option Int} (hf:fnd a F=r):(Instr.lookup 138 (.map (some f)) (.int .i64 a) true).run Tryz.prog w=.ok (.tuple #[.int .i64 (r.getD 0),.bool r.isSome]) w:=by
 have:=h.lookOk zy yK hd Tryz.underlying138 (qaW w) ha;rw[this,hf];cases r <;> rfl
section
variable {w:World} {lo hi p:Nat} {N:List Int} {E:List jX}
theorem qfU (h:jt w lo hi p N E) (hhi:hi<=w.heap.size) (hN:N.length<=1000000) (k:Int) (hk:dI k):Calls Tryz.prog 113 #[.pointer (some ⟨p,0,none⟩),.int .i64 k] w fun e w'=>
  ∃f F,e=.returned (.map (some f))/\w.heap.size<=f/\QJ w' f F/\Vz (xF E) k F/\Below w.heap.size w w':=by
 obtain⟨b,ow,M,A,h⟩:=h;have hp:=qa h.ptr 0;have hpw:=h.hp;have H:=qh h;have hmm:=@run_makeMap Tryz.prog;have HPN:=qh (fun(x:Pr) (hx:x ∈ xF E)=>(h.ok.pair hx).1);have HLM:=h.lenM;have hM:M.length<=1000000:=by omega
 clear h HLM;go_enter Tryz.func113,Tryz.ntmps113;go_wp2_with fail;have M0:=qh ((qO.made w):QJ _ _ []);have B0:=qh ((Below.refl w.heap.size w).alloc (Nat.le_refl _) (.map #[] 0));have F0:=qh (Xl.start (xF E) k);obtain⟨w0,hw0⟩:∃w0,w0=w.alloc (.map #[] 0):=⟨_,rfl⟩
 have z0:w.heap.size+1<=w0.heap.size:=by rw[hw0,World.size_alloc];exact Nat.le_refl _
 rw[←hw0] at M0 B0 ⊢;clear hw0;clear hp
 go_loopw [6] (fun i wr=>∃n F,i=.int .i64 ((n:Nat):Int)/\1<=n/\n<=N.length+1/\Xl (xF E) k n F/\QJ wr w.heap.size F/\Below w.heap.size w wr/\w.heap.size+1<=wr.heap.size) (fun i _=>N.length+2 - (intOf i).toNat)
 case atStart=>exact⟨1,[],by go_num,by omega,by omega,F0.o,M0.o,B0.o,z0⟩
 case round=>
  obtain⟨n,F,rfl,hn1,hnN,hF,hMF,hB,hz⟩:=hrel;have HF:=qh hF;have F1:=qh hMF;have B1:=qh hB;have hFd:=qh (fun q (hq:q ∈ F)=>by
   obtain⟨m,-,-,hd⟩:=(hF.mem q.1 q.2).1 hq;obtain⟨c,hc⟩:=hd.head;exact H.o.domN _ (HPN.o (q.1,c) hc):yJ dI F)
  have hp:=qa ((H.o.below hB hhi).ptr) 0;clear hF hMF hB M0 B0 F0;go_wp2_with (at_range;refine qK.halt ?_)
  refine qK.go ?_;refine((H.o.below B1.o hhi).o).wpList_range zy H.o.domM H.o.srtM Tryz.underlying104 rfl rfl (by rfl) ?_;intro w2 hr2 hg2 hz2;have B2:=qh (yD B1.o hg2 B1.o.size);have F2:=qh (F1.o.none hg2);have G2:=qh hr2;have hz2':wr.heap.size+1<=w2.heap.size:=by omega
  obtain⟨r1,hr1⟩:∃r1,r1=wr.heap.size:=⟨_,rfl⟩
  rw[←hr1] at G2 hz2' ⊢;have hfr:w.heap.size+1<=r1:=by omega
  clear hr2 hg2 hz2 hp F1 B1 hr1 hz;go_wp2_with fail
  go_frame
  go_loopg [7] M.length (fun kk v wq=>∃S L,NH wq b r1 M S kk/\QJ wq w.heap.size F/\xJ wq (w.heap.size+1) v L/\Ys (xF E) N k n S L/\Below w.heap.size w wq/\r1+1<=wq.heap.size)
  case atStart=>exact⟨_,[],G2.o,F2.o,qj.nil _ _,Ys.start _ _ _ _,B2.o,hz2'⟩
  case round=>
   obtain⟨S,L,hrg,hMF,hO,hL,hB,hz⟩:=hrel;obtain⟨av,cv,rfl,hvm⟩:=hO.sl.ex;have G3:=qh hrg;have F3:=qh hMF;have L3:=qh hO;have HL:=qh hL;have B3:=qh hB;have hLl:=hL.le;clear hrg hMF hO hL hB G2 F2 B2 hz2';go_wp2_with (at_next;refine qK.halt ?_)
   refine qK.go ?_;refine G3.o.wpList_next zy jj H.o.domM H.o.srtM rfl rfl (by rfl) ?_ ?_
   ·intro hd
    have HA:=qh (HL.o.all (fun a ha=>by rw[←H.o.keys] at ha;obtain⟨q,hq,rfl⟩:=List.mem_map.1 ha;exact hd q hq) HPN.o);have HLN:=qh (fun a (ha:a ∈ L)=>((HL.o.mem a).1 ha).1);clear hd HL G3;obtain⟨nl,hnl⟩:∃nl,nl=L.length:=⟨_,rfl⟩
    rw[←hnl] at hvm hLl L3 ⊢;have HNL:=qh hnl.symm;clear hnl;by_cases hl0:nl=0
    ·have e0:((nl:Int)==0)=true:=by simpa using hl0
     have HNO:=qh (fun a (hd:xL (xF E) k n a)=>by
      have h1:=(HA.o a).2 hd;have h2:=List.length_pos_of_mem h1;rw[HNL.o] at h2;omega:∀a,¬xL (xF E) k n a)
     clear hl0;go_wp2;go_ret;exact⟨_,F,rfl,Nat.le_refl _,F3.o,HF.o.done hn1 HNO.o,B3.o⟩
    ·have e0:((nl:Int)==0)=false:=by rw[beq_eq_false_iff_ne];omega
     have hnl2:n<=N.length:=by
      obtain⟨a,ha⟩:=List.exists_mem_of_length_pos (l:=L) (by have:=HNL.o;omega);exact((HA.o a).1 ha).le HPN.o
     have HPL:=fun j=>Kb (n:=n) HF.o HPN.o (L:=L.take j) (fun a ha=>HLN.o a (List.mem_of_mem_take ha));have HPL:=qh HPL;clear hl0;go_wp2_with fail
     go_loopw [80] (fun i wq=>∃j:Nat,j<=nl/\i=.int .i64 j/\QJ wq w.heap.size (Xz F (L.take j) n)/\xJ wq (w.heap.size+1) (.slice av nl cv) L/\Below w.heap.size w wq) (fun i _=>nl - (intOf i).toNat)
     case atStart=>exact⟨0,by omega,by go_num,F3.o,L3.o,B3.o⟩
     case round=>
      obtain⟨j,hj,rfl,hMF,hO,hB⟩:=hrel;have F4:=qh hMF;have L4:=qh hO;have B4:=qh hB;have hpl:=HPL.o j;have hsp:=qh (XO (n:=n) (L:=L.take j) HF.o.srt);have hdp:=qh (fun q (hq:q ∈ Xz F (L.take j) n)=>by
       rcases(Yb HF.o.srt).1 hq with⟨h1,-⟩|⟨-,h1⟩
       ·exact H.o.domN _ (HLN.o _ (List.mem_of_mem_take h1))
       ·exact hFd.o _ h1:yJ dI (Xz F (L.take j) n))
      clear hMF hO hB F3 L3 B3;by_cases hlj:j < nl
      ·obtain ⟨g,x,rfl,-,hg,hx,hc⟩:=xJ.at L4.o HNL.o hlj
       have hxd:dI x:=H.o.domN _ (HLN.o x (List.mem_of_getElem? hx));have HT:=qh (jA hx);have HS:=qh (qad F (L.take j) x n);clear hx;generalize Xz F (L.take j) n=Fj at *;go_wp2_with (at_mapUpdate;refine qK.halt ?_)
       refine qK.go ?_;refine F4.o.wpList_store zy yK hdp.o hsp.o Tryz.underlying138 (v:=(n:Int)) (by unfold maxLen;omega) hxd rfl rfl (by rfl) (by rfl) (by rfl) ?_;intro w5 h5 t5;have F5:=qh h5.tight;have L5:=qh (L4.o.turn t5);have B5:=qh (B4.o.trans (Below.turned t5 (Nat.le_refl _)));clear h5 t5 hc F4 L4 B4;go_wp2_with fail;go_roundw
       case rel=>exact⟨j+1,by omega,by go_num,by rw[HT.o,HS.o];exact F5.o,L5.o,B5.o⟩
       case measure=>simp[intOf];omega
      ·obtain rfl:j=nl:=by omega
       have HE:Hid (L.take j=L):=qh (by rw[←HNL.o,List.take_length]);go_wp2_with fail;go_roundw
       case rel=>exact⟨n+1,Xz F L n,by go_num,by omega,by omega,HF.o.round HA.o,by rw[←HE.o];exact F4.o,B4.o,Nat.le_trans (Nat.succ_le_of_lt F4.o.lt) (Nat.le_refl _)⟩
       case measure=>simp[intOf];omega
   ·intro a0 u w3 k2 hxm hS hrg2 hlt2 hg2 hz2 hen
    have HSa:=qh hS;have O3:=qh hrg2;have F3':=qh (F3.o.nextK G3.o.iterAt hg2);have L3':=qh (L3.o.nextK G3.o.iterAt hg2);have B3':=qh (zO B3.o hg2 B3.o.size (by omega));have hxm':=qh hxm;have HaN:=H.o.inN hxm;have had:=H.o.domN a0 HaN;have hz3:r1+1<=w3.heap.size:=by omega
    clear hrg2 hg2 hS F3 L3 B3 G3 hz2 hxm;have lk:=QY F3'.o hFd.o had rfl;cases hfa:fnd a0 F with
    |some d=>
     rw[hfa] at lk;simp only[Option.getD_some,Option.isSome_some] at lk;have HNo:=qh (fun(hd:xL (xF E) k n a0)=>by
      obtain⟨m,-,hm,hdm⟩:=HF.o.fnd_some.1 hfa;have:=hd.uniq hdm;omega:¬xL (xF E) k n a0)
     clear hfa;go_wp2_with fail
     go_roundg k2
     case measure=>exact hlt2
     case rel=>exact⟨_,L,O3.o,F3'.o,L3'.o,HL.o.miss HNo.o,B3'.o,hz3⟩
    |none=>
     rw[hfa] at lk;simp only[Option.getD_none,Option.isSome_none] at lk;have HHit:=qh (HF.o.hit_iff hn1 hfa);clear hfa;go_wp2_with (at_range;refine qK.halt ?_)
     refine qK.go ?_;refine((H.o.below B3'.o hhi).inn a0 u hxm'.o).2.1.wpList_range zy (H.o.domA hxm'.o) (H.o.inn a0 u hxm'.o).2.2.1 Tryz.underlying103 rfl rfl (by rfl) ?_;intro w4 hr4 hg4 hz4;have B4:=qh (yD B3'.o hg4 B3'.o.size);have F4:=qh (F3'.o.none hg4);have L4:=qh (L3'.o.none hg4);have O4:=qh (vr.none O3.o hg4);have G4:=qh hr4;have hz4':w3.heap.size+1<=w4.heap.size:=by omega
     obtain⟨r2,hr2⟩:∃r2,r2=w3.heap.size:=⟨_,rfl⟩
     rw[←hr2] at G4 hz4' hz3 ⊢;have hne:r1≠r2:=by omega
     have hwr2:w.heap.size<=r2:=by omega
     clear hr4 hg4 hz4 hr2 lk hen F3' L3' O3 B3';go_wp2_with fail
     go_frame
     go_loopg [7] (A a0).length (fun k3 v wq=>v=.slice av L.length cv/\∃S2,NH wq u r2 (A a0) S2 k3/\NH wq b r1 M (fun z=>S z&&!(z==a0)) k2/\QJ wq w.heap.size F/\xJ wq (w.heap.size+1) (.slice av L.length cv) L/\(∀c ∈ row (xF E) a0,S2 c=false->hit F k n c=false)/\Below w.heap.size w wq/\r2+1<=wq.heap.size)
     case atStart=>exact⟨rfl,_,G4.o,O4.o,F4.o,L4.o,fun c _ h=>by simp at h,B4.o,hz4'⟩
     case round=>
      obtain⟨rfl,S2,hrg,hO,hMF,hL',hM,hB,hz⟩:=hrel;have G3:=qh hrg;have O3:=qh hO;have F3:=qh hMF;have L3:=qh hL';have HM:=qh hM;have B3:=qh hB;clear hrg hO hMF hL' hM hB G4 O4 F4 L4 B4 hz4';go_wp2_with (at_next;refine qK.halt ?_)
      refine qK.go ?_;refine G3.o.wpList_next zy jj (H.o.domA hxm'.o) (H.o.inn a0 u hxm'.o).2.2.1 rfl rfl (by rfl) ?_ ?_
      ·intro hd
       have HNo:Hid (¬xL (xF E) k n a0):=qh (fun hdd=>by
        obtain⟨c,hc,hh⟩:=HHit.o.2 hdd;have hc':c ∈ (A a0).map (·.1):=by rw[(H.o.inn a0 u hxm'.o).2.2.2];exact xG.2 hc
        obtain⟨q,hq,hq2⟩:=List.mem_map.1 hc';have:=HM.o c (xG.2 hc) (by rw[←hq2];exact hd q hq);rw[hh] at this;cases this)
       clear hd;go_wp2_with fail
       go_roundg k2
       case measure=>exact hlt2
       case rel=>exact⟨_,L,O3.o,F3.o,L3.o,HL.o.miss HNo.o,B3.o,by omega⟩
      ·intro b0 v0 w5 k4 hbm hS2 hrg4 hlt4 hg4 hz5 hen
       have hbr:=qh (show b0 ∈ row (xF E) a0 by rw[←(H.o.inn a0 u hxm'.o).2.2.2];exact List.mem_map.2 ⟨_,hbm,rfl⟩);have hb0:dI b0:=H.o.domR a0 b0 hbr.o;have G4:=qh hrg4;have O4:=qh (vr.nextK O3.o G3.o.iterAt hne hg4);have F4:=qh (F3.o.nextK G3.o.iterAt hg4);have L4:=qh (L3.o.nextK G3.o.iterAt hg4);have B4:=qh (zO B3.o hg4 B3.o.size hwr2);have zB4:w.heap.size+1<=w5.heap.size:=by omega
       have z4:r2+1<=w5.heap.size:=by omega
       clear hrg4 hg4 hS2 hbm hz5 G3 O3 F3 L3 B3;by_cases e1:b0=k
       ·have q1:(b0==k)=true:=by simpa using e1
        have q1':(b0 !=k)=false:=by simpa using e1
        clear e1;by_cases e2:n=1
        ·have q2:((n:Int)==1)=true:=by rw[beq_iff_eq];omega
         clear e2;have lk:=QY F4.o hFd.o hb0 rfl;cases hfb:fnd b0 F with
         |none=>
          rw[hfb] at lk;simp only[Option.getD_none,Option.getD_some,Option.isSome_none,Option.isSome_some] at lk;have HH:=qh (show hit F k n b0=true by simp[hit,q1,q1',q2,hfb]);clear hfb;go_wp2_with (at_builtin;refine qN rfl _ _ _ rfl _ 8 Tryz.underlying30 Yi rfl L4.o a0 zB4 (by rfl) (by rfl) (by first|rfl|simp) rfl (XC _) (by first|omega|(simp only[List.length_append,List.length_cons,List.length_nil,List.length_replicate];omega)) (by first|omega|(simp only[List.length_append,List.length_cons,List.length_nil,List.length_replicate];omega)) ?_;refine qK.halt ?_)
          refine qK.go ?_;intro gn cn wn hn Gn;have O5:=qh (O4.o.grw L4.o Gn);have F5:=qh (F4.o.grw L4.o Gn);have L5:=qh hn;have B5:=qh (B4.o.trans (Gn.below B4.o.size fun q h=>by have:=(L4.o.lt q h).1;omega));have z5:=Gn.size;clear hn Gn O4 F4 L4 B4 G4;go_wp2_with fail
          go_roundg k2
          case measure=>exact hlt2
          case rel=>exact⟨_,L++[a0],O5.o,F5.o,by simpa using L5.o,HL.o.hit HSa.o HaN (HHit.o.1 ⟨b0,xG.1 hbr.o,HH.o⟩),B5.o,by omega⟩
         |some d=>
          rw[hfb] at lk;simp only[Option.getD_none,Option.getD_some,Option.isSome_none,Option.isSome_some] at lk;have HH:=qh (show hit F k n b0=true by simp[hit,q1,q1',q2,hfb]);clear hfb;go_wp2_with (at_builtin;refine qN rfl _ _ _ rfl _ 8 Tryz.underlying30 Yi rfl L4.o a0 zB4 (by rfl) (by rfl) (by first|rfl|simp) rfl (XC _) (by first|omega|(simp only[List.length_append,List.length_cons,List.length_nil,List.length_replicate];omega)) (by first|omega|(simp only[List.length_append,List.length_cons,List.length_nil,List.length_replicate];omega)) ?_;refine qK.halt ?_)
          refine qK.go ?_;intro gn cn wn hn Gn;have O5:=qh (O4.o.grw L4.o Gn);have F5:=qh (F4.o.grw L4.o Gn);have L5:=qh hn;have B5:=qh (B4.o.trans (Gn.below B4.o.size fun q h=>by have:=(L4.o.lt q h).1;omega));have z5:=Gn.size;clear hn Gn O4 F4 L4 B4 G4;go_wp2_with fail
          go_roundg k2
          case measure=>exact hlt2
          case rel=>exact⟨_,L++[a0],O5.o,F5.o,by simpa using L5.o,HL.o.hit HSa.o HaN (HHit.o.1 ⟨b0,xG.1 hbr.o,HH.o⟩),B5.o,by omega⟩
        ·have q2:((n:Int)==1)=false:=by rw[beq_eq_false_iff_ne];omega
         clear e2;have lk:=QY F4.o hFd.o hb0 rfl;cases hfb:fnd b0 F with
         |none=>
          rw[hfb] at lk;simp only[Option.getD_none,Option.isSome_none] at lk;have HH:=qh (show hit F k n b0=false by simp[hit,q1,q1',hfb,q2]);clear hfb;go_wp2_with fail
          go_roundg k4
          case measure=>exact hlt4
          case rel=>exact⟨rfl,_,G4.o,O4.o,F4.o,L4.o,fun c hc hs=>by
           by_cases ec:c=b0
           ·rw [ec];exact HH.o
           ·have ec2:(c==b0)=false:=by simpa using ec
            rw[ec2] at hs;exact HM.o c hc (by simpa using hs),B4.o,z4⟩
         |some d=>
          rw[hfb] at lk;simp only[Option.getD_some,Option.isSome_some] at lk;by_cases e3:d=(n:Int) - 1
          ·have q3:(d==(n:Int) - 1)=true:=by simpa using e3
           clear e3;have HH:=qh (show hit F k n b0=false by simp[hit,q1,q1',q3,hfb,q2]);clear hfb;go_wp2_with fail
           go_roundg k4
           case measure=>exact hlt4
           case rel=>exact⟨rfl,_,G4.o,O4.o,F4.o,L4.o,fun c hc hs=>by
            by_cases ec:c=b0
            ·rw [ec];exact HH.o
            ·have ec2:(c==b0)=false:=by simpa using ec
             rw[ec2] at hs;exact HM.o c hc (by simpa using hs),B4.o,z4⟩
          ·have q3:(d==(n:Int) - 1)=false:=by simpa using e3
           clear e3;have HH:=qh (show hit F k n b0=false by simp[hit,q1,q1',q3,hfb,q2]);clear hfb;go_wp2_with fail
           go_roundg k4
           case measure=>exact hlt4
           case rel=>exact⟨rfl,_,G4.o,O4.o,F4.o,L4.o,fun c hc hs=>by
            by_cases ec:c=b0
            ·rw [ec];exact HH.o
            ·have ec2:(c==b0)=false:=by simpa using ec
             rw[ec2] at hs;exact HM.o c hc (by simpa using hs),B4.o,z4⟩
       ·have q1:(b0==k)=false:=by simpa using e1
        have q1':(b0 !=k)=true:=by simpa using e1
        clear e1;have lk:=QY F4.o hFd.o hb0 rfl;cases hfb:fnd b0 F with
        |none=>
         rw[hfb] at lk;simp only[Option.getD_none,Option.isSome_none] at lk;have HH:=qh (show hit F k n b0=false by simp[hit,q1,q1',hfb]);clear hfb;go_wp2_with fail
         go_roundg k4
         case measure=>exact hlt4
         case rel=>exact⟨rfl,_,G4.o,O4.o,F4.o,L4.o,fun c hc hs=>by
          by_cases ec:c=b0
          ·rw [ec];exact HH.o
          ·have ec2:(c==b0)=false:=by simpa using ec
           rw[ec2] at hs;exact HM.o c hc (by simpa using hs),B4.o,z4⟩
        |some d=>
         rw[hfb] at lk;simp only[Option.getD_some,Option.isSome_some] at lk;by_cases e3:d=(n:Int) - 1
         ·have q3:(d==(n:Int) - 1)=true:=by simpa using e3
          clear e3;have HH:=qh (show hit F k n b0=true by simp[hit,q1,q1',q3,hfb]);clear hfb;go_wp2_with (at_builtin;refine qN rfl _ _ _ rfl _ 8 Tryz.underlying30 Yi rfl L4.o a0 zB4 (by rfl) (by rfl) (by first|rfl|simp) rfl (XC _) (by first|omega|(simp only[List.length_append,List.length_cons,List.length_nil,List.length_replicate];omega)) (by first|omega|(simp only[List.length_append,List.length_cons,List.length_nil,List.length_replicate];omega)) ?_;refine qK.halt ?_)
          refine qK.go ?_;intro gn cn wn hn Gn;have O5:=qh (O4.o.grw L4.o Gn);have F5:=qh (F4.o.grw L4.o Gn);have L5:=qh hn;have B5:=qh (B4.o.trans (Gn.below B4.o.size fun q h=>by have:=(L4.o.lt q h).1;omega));have z5:=Gn.size;clear hn Gn O4 F4 L4 B4 G4;go_wp2_with fail
          go_roundg k2
          case measure=>exact hlt2
          case rel=>exact⟨_,L++[a0],O5.o,F5.o,by simpa using L5.o,HL.o.hit HSa.o HaN (HHit.o.1 ⟨b0,xG.1 hbr.o,HH.o⟩),B5.o,by omega⟩
         ·have q3:(d==(n:Int) - 1)=false:=by simpa using e3
          clear e3;have HH:=qh (show hit F k n b0=false by simp[hit,q1,q1',q3,hfb]);clear hfb;go_wp2_with fail
          go_roundg k4
          case measure=>exact hlt4
          case rel=>exact⟨rfl,_,G4.o,O4.o,F4.o,L4.o,fun c hc hs=>by
           by_cases ec:c=b0
           ·rw [ec];exact HH.o
           ·have ec2:(c==b0)=false:=by simpa using ec
            rw[ec2] at hs;exact HM.o c hc (by simpa using hs),B4.o,z4⟩
end
theorem Ke {w:World} {B g n cap:Nat} {e:TypeId} {xs:List Value} {z:Value} (h:w.ownsRow B e 1 (.slice (some ⟨g,0,none⟩) (n+1) cap) (n+1) (xs++[z])):w.ownsRow B e 1 (.slice (some ⟨g,0,none⟩) n cap) n xs:=by
 obtain⟨h1,h2⟩:=h;have hl:xs.length=n:=by simp at h1;omega
 refine⟨by omega,?_⟩;rcases h2 with⟨h2,-⟩|⟨g',cap',cur,hv,hg,hh,hnc,hcm,hs,ht⟩
 ·cases h2
 ·simp only[Value.slice.injEq,Option.some.injEq,Addr.mk.injEq,and_true,true_and] at hv
  obtain⟨rfl,rfl⟩:=hv;refine .inr ⟨g,cap,cur,rfl,hg,hh,by omega,hcm,hs,?_⟩;have h3:=congrArg (List.take n) ht;rw[List.take_take,Nat.min_eq_left (by omega),List.take_left' hl] at h3;rw[Nat.mul_one];exact h3
theorem qcp (w:World):grow w #[]=w:=by
 cases w;simp[grow]
theorem qeF {w:World} {B g n cap:Nat} {l:List Int} (h:xJ w B (.slice (some ⟨g,0,none⟩) n cap) l) (hn:l.length=n) {i:Nat} (hi:i < n):
  Calls Tryz.prog 112 #[.slice (some ⟨g,0,none⟩) n cap,.int .i64 (i:Int),.int .i64 ((i:Int)+1)] w fun e w'=>e=.returned (.slice (some ⟨g,0,none⟩) (n - 1) cap)/\xJ w' B (.slice (some ⟨g,0,none⟩) (n - 1) cap) (l.eraseIdx i)/\w.grownBy w' (some g):=by
 subst hn;obtain⟨-,h2⟩:=h;rcases h2 with⟨h2,-⟩|⟨g',cap',cur,hv,hg,hh,hnc,hcm,hs,ht⟩
 ·cases h2
 ·simp only[Value.slice.injEq,Option.some.injEq,Addr.mk.injEq,and_true,true_and] at hv
  obtain⟨rfl,rfl⟩:=hv;rw[ux,Nat.mul_one] at ht;have hd:=Any.slices_Delete_int qhh g 0 cap i (i+1) l w (holds_of_blockI hh ht) hnc (by unfold maxLen at hcm;omega) (by omega) hi;rw[show ((i+1:Nat):Int)=(i:Int)+1 from by omega] at hd;refine hd.mono ?_;rintro e w' ⟨rfl,q,rfl⟩;rw[show i+1 - i=1 from by omega];have hts:(l.take i++l.drop (i+1)++List.replicate 1 0).length=l.length:=by simp;omega
  have h3:=ownsRow_sortedI (n:=q) (os:=#[]) hts hg hh hnc hcm hs;have h4:=grownBy_sortedI (w:=w) (g:=g) (n:=q) (os:=#[]) (l.take i++l.drop (i+1)++List.replicate 1 0).toArray;rw[qcp] at h3 h4;refine⟨rfl,?_,h4⟩;obtain⟨m,hm⟩:∃m,l.length=m+1:=⟨l.length - 1,by omega⟩
  rw[hm] at h3 ⊢;rw[List.map_append] at h3;have h5:=Ke (z:=.int .i64 0) h3;have he:(l.eraseIdx i).length=m:=by rw[List.length_eraseIdx,if_pos hi];omega
  show World.ownsRow _ B _ 1 _ (l.eraseIdx i).length _;rw[he,ux,List.eraseIdx_eq_take_drop_succ];exact h5
theorem qbV {w:World} {f:Nat} {F:List (Int×Int)} (h:QJ w f F) (hd:yJ dI F) {a:Int} (ha:dI a):(Instr.lookup 138 (.map (some f)) (.int .i64 a) false).run Tryz.prog w=.ok (.int .i64 ((fnd a F).getD 0)) w:=by
 have:=h.look zy yK hd Tryz.underlying138 (qaW w) ha;rw[this];cases fnd a F <;> rfl
theorem Rm {w:World} {f c:Nat} {F:List (Int×Int)} (h:QJ w f F) (hd:yJ dI F) (hc:w.cell? ⟨c,0,none⟩=some (.map (some f))) (x:Int) (hx:dI x):
  Calls Tryz.prog 111 #[.int .i64 x,.pointer (some ⟨c,0,none⟩)] w fun e w'=>e=.returned (.bool ((fnd x F).getD 0==0))/\w=w':=by
 have lk:=qbV h hd hx;have H:=qh h;clear h;go_enter Tryz.func111,Tryz.ntmps111;go_wp2;go_ret;exact⟨rfl,rfl⟩
def qgx (F:List (Int×Int)) (l:List Int) (r:Int):Prop:=
 (r=-1/\∀x ∈ l,(fnd x F).getD 0≠0)\/∃(i:Nat) (x:Int),r=i/\l[i]?=some x/\(fnd x F).getD 0=0/\∀y ∈ l.take i,(fnd y F).getD 0≠0
theorem Rl {w:World} {f c B n cap:Nat} {a:Option Addr} {F:List (Int×Int)} {l:List Int} (h:QJ w f F) (hd:yJ dI F) (hc:w.cell? ⟨c,0,none⟩=some (.map (some f))) (ho:xJ w B (.slice a n cap) l) (hn:l.length=n) (hld:∀x ∈ l,dI x):
  Calls Tryz.prog 110 #[.slice a n cap,.func (.func 111) #[] #[.pointer (some ⟨c,0,none⟩)]] w fun e w'=>∃r,e=.returned (.int .i64 r)/\qgx F l r/\w=w':=by
 obtain⟨_,_,e,hnm⟩:=ho.sl.ex;simp only[Value.slice.injEq] at e;have hnm2:n<=9223372036854775807:=by omega
 have H:=qh h;have HO:=qh ho;have HN:=qh hn;have HD:=qh hd;have HLD:=qh hld;clear h ho hn hd hld e hnm;go_enter Tryz.func110,Tryz.ntmps110;go_wp2_with fail
 go_loop [8] (fun i=>∃k:Nat,k<=n/\i=.int .i64 k/\∀y ∈ l.take k,(fnd y F).getD 0≠0) (fun i=>n - (intOf i).toNat)
 case atStart=>exact⟨0,by omega,by go_num,fun y hy=>by simp at hy⟩
 case round=>
  obtain⟨k,hk,rfl,hM⟩:=hrel;have HM:=qh hM;clear hM;by_cases hlt:k < n
  ·obtain ⟨g,x,rfl,-,hg,hx,hcx⟩:=xJ.at HO.o HN.o hlt
   have hxd:=HLD.o x (List.mem_of_getElem? hx);have HX:=qh hx;clear hx;go_wp2_with fail;refine(Rm H.o HD.o hc x hxd).mono ?_;rintro e w2 ⟨rfl,rfl⟩;by_cases hz:(fnd x F).getD 0=0
   ·have hz2:((fnd x F).getD 0==0)=true:=by simpa using hz
    rw[hz2];have HZ:=qh hz;clear hz hz2;go_wp2;go_ret;exact⟨k,rfl,.inr ⟨k,x,rfl,HX.o,HZ.o,HM.o⟩,rfl⟩
   ·have hz2:((fnd x F).getD 0==0)=false:=by simpa using hz
    rw[hz2];have HZ:=qh hz;clear hz hz2;go_wp2_with fail
    go_round
    case rel=>exact⟨k+1,by omega,by go_num,fun y hy=>by
     rcases(zI HX.o).1 hy with hy|rfl
     ·exact HM.o y hy
     ·exact HZ.o⟩
    case measure=>simp[intOf];omega
  ·obtain rfl:k=n:=by omega
   go_wp2;go_ret;exact⟨-1,rfl,.inl ⟨rfl,fun x hx=>HM.o x (by rw[←HN.o,List.take_length];exact hx)⟩,rfl⟩
section
variable {w w':World} {c r:Nat} {cs:Array Value} {t:TypeId} {fz:Nat×Nat}
theorem Yz (h:w.heap[c]?=some (.cells cs t fz)) (hi:Uj w r) (hg:w.grownBy w' (some r)):w'.heap[c]?=some (.cells cs t fz):=by
 refine(hg.block c (qd h) fun e=>?_).trans h;cases e;obtain⟨m,s,s2,c0,hr⟩:=hi;rw[h] at hr;cases hr
theorem XW (h:w.heap[c]?=some (.cells cs t fz)) (hg:w.grownBy w' none):w'.heap[c]?=some (.cells cs t fz):=(hg.block c (qd h) (by simp)).trans h
theorem WY {q:Nat} (h:w.heap[c]?=some (.cells cs t fz)) (ht:w.mapTurned w' q):w'.heap[c]?=some (.cells cs t fz):=(uc.turned ht).cells h
end
abbrev qaQ (w:World) (c f:Nat):Prop:=w.heap[c]?=some (.cells #[.map (some f)] 138 (0,0))
theorem qaK {P:List Pr} {N:List Int}:jq N [] (xB P fun _=>false):=jq.nil N _ fun x=>Nk P _ x fun _=>rfl
theorem qav {P:List Pr} (hP:WH P) {S:Int->Bool} {a:Int} (ha:S a=true) (x:Int):xB P (fun z=>!(S z&&!(z==a))) x=xB P (fun z=>!S z) x+if (a,x) ∈ P then 1 else 0:=
 Vh hP.nodup a x (by rw[ha];rfl) fun z=>by cases S z <;> cases hz:(z==a) <;> rfl
theorem qau {P:List Pr} (hP:WH P) {out:List Int} {a:Int} (ha:a ∉ out) (x:Int):xB P (fun z=>!out.contains z) x=xB P (fun z=>!(out++[a]).contains z) x+if (a,x) ∈ P then 1 else 0:=
 Nl hP.nodup a x (by simpa using ha) fun z=>by
  by_cases e:z=a
  ·subst e;simp
  ·have:(z==a)=false:=by simpa using e
   simp[List.contains_eq_mem,this,e]
theorem JJ {P:List Pr} {N out:List Int} {D:List (Int×Int)} (h:jq N D (xB P fun z=>!out.contains z)) (x:Int):(fnd x D).getD 0=0↔Vk P out x=true:=by
 rw[h.at',Vj];constructor
 ·intro h0 a ha
  have:=JG.1 (Int.ofNat.inj h0) a ha;simpa using this
 ·intro hf
  have:xB P (fun z=>!out.contains z) x=0:=JG.2 fun a ha=>by simpa using hf a ha
  rw[this];rfl
theorem jq.dom {N:List Int} {D:List (Int×Int)} {c:Int->Nat} (h:jq N D c) (hN:∀a ∈ N,dI a):yJ dI D:=fun q hq=>hN _ (h.keys q hq)
section
variable {w:World} {lo hi p:Nat} {N:List Int} {E:List jX}
theorem qef (h:jt w lo hi p N E) (hhi:hi<=w.heap.size) (hN:N.length<=900000) (hE:E.length<=900000):Calls Tryz.prog 67 #[.pointer (some ⟨p,0,none⟩)] w fun e w'=>
  ∃v o,e=.returned (.tuple #[v,.bool (o:Option (List Int)).isSome])/\xJ w' w.heap.size v (o.getD [])/\o=jv (xF E) N/\Below w.heap.size w w':=by
 have HG:=qh h;obtain⟨b,ow,M,A,h⟩:=h;have hpl:=h.hp;have H:=qh h;have hmm:=@run_makeMap Tryz.prog;have HPN:=qh (fun(x:Pr) (hx:x ∈ xF E)=>(h.ok.pair hx).1);have HPN2:=qh (fun(x:Pr) (hx:x ∈ xF E)=>(h.ok.pair hx).2);have HSP:=qh (vA E);have hPl:(xF E).length<=900000:=Nat.le_trans (Jt E) hE;have HIL:=qh (fun p x=>qck (xF E) p x);have HLM:=h.lenM;have hM:M.length<=900000:=by omega
 have hbl:=h.hb;have HML:=qh HLM;clear h HLM;obtain⟨i,hi,hz0,hz1,hz2⟩:∃i,Tryz.prog.info? 3=some i/\i.zero=some (.int .i64 0)/\i.size=1/\i.bytes=8:=by
  have:=Yi;cases hh:Tryz.prog.info? 3 with
  |none=>rw[hh] at this;simp at this
  |some i=>rw[hh] at this;simp at this;exact⟨i,rfl,this.1,this.2.1,this.2.2⟩
 have HI:=qh (And.intro hi (And.intro hz0 (And.intro hz1 hz2)));clear hi hz0 hz1 hz2;go_enter Tryz.func67,Tryz.ntmps67;have hp0:=qa (qD (o:=.cells #[.map (some w.heap.size)] 138) (qD (o:=.map #[] 0) H.o.ptr)) 0;have M1:=qh (((qO.made w).alloc (.cells #[.map (some w.heap.size)] 138)):QJ _ _ []);have C1:qaQ ((w.alloc (.map #[] 0)).alloc (.cells #[.map (some w.heap.size)] 138)) (w.heap.size+1) w.heap.size:=qV (by simp);have B1:=qh (((Below.refl w.heap.size w).alloc (Nat.le_refl _) (.map #[] 0)).alloc (by simp) (.cells #[.map (some w.heap.size)] 138));have G1:=qh (H.o.below B1.o hhi);have z1:w.heap.size+2<=((w.alloc (.map #[] 0)).alloc (.cells #[.map (some w.heap.size)] 138)).heap.size:=by simp
 have HC1:=qh C1;clear C1;go_wp2_with (at_range;refine qK.halt ?_)
 refine qK.go ?_;refine(G1.o.o).wpList_range zy H.o.domM H.o.srtM Tryz.underlying104 rfl rfl (by rfl) ?_;intro w2 hr2 hg2 hz2;have M2:=qh (M1.o.none hg2);have C2:=qh (XW HC1.o hg2);have B2:=qh (yD B1.o hg2 B1.o.size);have O2:=qh hr2;obtain⟨r1,hr1⟩:∃r1,r1=((w.alloc (.map #[] 0)).alloc (.cells #[.map (some w.heap.size)] 138)).heap.size:=⟨_,rfl⟩
 have hrw:w.heap.size+2<=r1:=by omega
 have hz2':r1+1<=w2.heap.size:=by omega
 rw[←hr1] at O2 ⊢;have D2:=qh ((qaK (P:=xF E) (N:=N)).congr (c':=fun x=>xB (xF E) (fun z=>!(fun _=>true) z) x) fun x=>rfl);clear hr2 hg2 hz2 hr1 M1 HC1 B1 G1 z1 hp0;go_wp2_with fail
 try go_frame
 go_loopg [] M.length (fun k wq=>∃S D,NH wq b r1 M S k/\QJ wq w.heap.size D/\jq N D (xB (xF E) fun z=>!S z)/\qaQ wq (w.heap.size+1) w.heap.size/\Below w.heap.size w wq/\r1+1<=wq.heap.size)
 case atStart=>exact⟨_,[],O2.o,M2.o,D2.o,C2.o,B2.o,hz2'⟩
 case round=>
  obtain⟨S,D,hrg,hMD,hD,hC,hB,hz⟩:=hrel;have O3:=qh hrg;have M3:=qh hMD;have D3:=qh hD;have C3:=qh hC;have B3:=qh hB;clear hrg hMD hD hC hB O2 M2 D2 C2 B2 hz2';go_wp2_with (at_next;refine qK.halt ?_)
  refine qK.go ?_;refine O3.o.wpList_next zy jj H.o.domM H.o.srtM rfl rfl (by rfl) ?_ ?_
  ·intro hd
   have D4:=qh (D3.o.congr (c':=xB (xF E) fun z=>!([]:List Int).contains z) fun x=>Kv fun a ha=>by
    have haN:=HPN.o _ ha;rw[←H.o.keys] at haN;obtain⟨q,hq,hq2⟩:=List.mem_map.1 haN;have:=hd q hq;rw[hq2] at this;rw[this];rfl)
   clear hd D3 O3;obtain⟨hi,hz0,hz1,hz2⟩:=HI.o;have hln:=fun ty=>(H.o.below B3.o hhi).o.len Tryz.underlying104 ty;have hp3:=qa (H.o.below B3.o hhi).ptr 0;have hzz:w.heap.size+2<=wr.heap.size:=by omega
   go_wp2_with (at_make;refine wpList_make_own _ rfl _ _ _ rfl (w.heap.size+2) 3 i _ 1 Tryz.underlying30 hi hz0 hz1 .i64 .i64 (M.length:Int) M.length (by rfl) (by rfl) rfl (by rw[hz2];omega) (by unfold maxLen;omega) hzz ?_;refine qK.halt ?_)
   refine qK.go ?_;intro w4 o4 g4;have O8:=qh (show xJ w4 (w.heap.size+2) (.slice (some ⟨wr.heap.size,0,none⟩) 0 M.length) [] from o4);have M4:=qh (M3.o.none g4);have C4:=qh (XW C3.o g4);have B4:=qh (yD B3.o g4 B3.o.size);have z4:w.heap.size+2<=w4.heap.size:=by have:=g4.size;omega
   clear o4 g4 hi hz0 hz1 hz2 hln hp3 M3 C3 B3;go_wp2_with fail;refine(Kw (HG.o.below B4.o hhi) (by omega)).mono ?_;rintro e w5 ⟨v9,rfl,h5,b5⟩;have M5:=qh (M4.o.below b5 M4.o.lt);have C5:=qh (qp C4.o b5 (qd C4.o));have O8':=qh (O8.o.below b5);have B5:=qh (B4.o.trans (b5.mono B4.o.size));have O9:=qh (qj.base (B':=w.heap.size+2) h5 z4);have HNE:=qh (fun q (h3:v9.ownBlock=some q)=>(fun h4=>by
    have:=h5.lt q h3;have:=O8.o.lt q h4;omega:(Value.slice (some ⟨wr.heap.size,0,none⟩) 0 M.length).ownBlock≠some q))
   have z5:w.heap.size+2<=w5.heap.size:=by have:=b5.size;omega
   have HL0:Hid (yi N []=N):=qh (qbY N);clear h5 b5 O8 M4 C4 B4;go_wp2_with fail
   go_loopg [8,9] N.length (fun k v8 v9 wq=>∃out D,k=(yi N out).length/\xJ wq (w.heap.size+2) v8 out/\xJ wq (w.heap.size+2) v9 (yi N out)/\(∀q,v9.ownBlock=some q->v8.ownBlock≠some q)/\QJ wq w.heap.size D/\jq N D (xB (xF E) fun z=>!out.contains z)/\
    qaQ wq (w.heap.size+1) w.heap.size/\jv (xF E) N=yX (xF E) N (yi N out).length out/\out.length+(yi N out).length<=N.length/\Below w.heap.size w wq/\w.heap.size+2<=wq.heap.size)
   case atStart=>exact⟨[],D,by rw[HL0.o],O8'.o,by rw[HL0.o];exact O9.o,HNE.o,M5.o,D4.o,C5.o,by rw[HL0.o];rfl,by rw[HL0.o];simp,B5.o,z5⟩
   case round=>
    obtain⟨out,D',hk,hO8,hO9,hne,hMD,hD,hC,hT,hol,hB,hz⟩:=hrel;obtain⟨a8,c8,rfl,hm8⟩:=hO8.sl.ex;obtain⟨a9,c9,rfl,hm9⟩:=hO9.sl.ex;have hnl:=qh (show(yi N out).length<=N.length from List.length_filter_le _ _);have HLd:=qh (fun x (hx:x ∈ yi N out)=>H.o.domN x (zJ.1 hx).1);have HLN:=qh (fun x (hx:x ∈ yi N out)=>(zJ.1 hx).1);have HLO:=qh (fun x (hx:x ∈ yi N out)=>(zJ.1 hx).2);have HER:=qh (fun i x (hx:(yi N out)[i]?=some x)=>Jv H.o.ok.srtN hx);have HLL:=qh (fun i x (hx:(yi N out)[i]?=some x)=>Ko H.o.ok.srtN hx);have HNX:=qh (qam (P:=xF E) (N:=N) (out:=out));generalize yi N out=Lf at *;obtain⟨nl,hnl2⟩:∃nl,nl=Lf.length:=⟨_,rfl⟩
    rw[←hnl2] at hm9 hO9 hne hol ⊢;have hnl3:nl<=900000:=by have:=hnl.o;omega
    have HN9:=qh hnl2.symm;have HK:=qh hk;have O8:=qh hO8;have O9:=qh hO9;have HNE:=qh hne;have M6:=qh hMD;have D6:=qh hD;have C6:=qh hC;have HT:=qh hT;have B6:=qh hB;have hol2:out.length<=900000:=by omega
    clear hk hO8 hO9 hne hMD hD hC hT hB hnl2 hnl O8' M5 C5 B5 HL0 D4;by_cases h0:nl=0
    ·subst h0
     have HE:=qh (show jv (xF E) N=some out by rw[HT.o,HN9.o];rfl);go_wp2
     go_ret2
     exact⟨_,some out,rfl,O8.o.base (by omega),HE.o.symm,B6.o⟩
    ·obtain ⟨g9,x0,rfl,hg9,hg9',hx0,hc0⟩:=xJ.at O9.o HN9.o (k:=0) (by omega)
     clear hx0 hc0;go_wp2_with fail;refine(Rl M6.o (D6.o.dom H.o.domN) (qa C6.o 0) O9.o HN9.o HLd.o).mono ?_;rintro e w7 ⟨r,rfl,hr,rfl⟩;rcases hr with⟨rfl,hall⟩|⟨j,x,rfl,hx,hzx,hbf⟩
     ·have HE:=qh (show jv (xF E) N=none by
       rw[HT.o,HN9.o];obtain⟨q,rfl⟩:∃q,nl=q+1:=⟨nl - 1,by omega⟩
       refine WM ?_;rw[HNX.o];exact qaA fun y hy=>by
        have:=hall y hy;rw[Ne,JJ D6.o] at this;simpa using this)
      clear hall;go_wp2
      go_ret2
      exact⟨.slice none 0 0,none,rfl,qj.nil _ _,HE.o.symm,B6.o⟩
     ·have HX:=qh hx
      have hjl:j < nl:=by have:=(List.getElem?_eq_some_iff.1 hx).1;have:=HN9.o;omega
      have hxL:=List.mem_of_getElem? hx;have hxN:=HLN.o x hxL;have hxo:=qh (HLO.o x hxL);have hxd:dI x:=H.o.domN x hxN;have HT2:=qh (show jv (xF E) N=yX (xF E) N (nl - 1) (out++[x]) by
       rw[HT.o,HN9.o];obtain⟨q,rfl⟩:∃q,nl=q+1:=⟨nl - 1,by omega⟩
       refine WL ?_;rw[HNX.o];exact qeu hx ((JJ D6.o x).1 hzx) fun y hy=>by
        have:=hbf y hy;rw[Ne,JJ D6.o] at this;simpa using this)
      obtain⟨g9',y9,e9,-,-,hy9,hcx⟩:=xJ.at O9.o HN9.o hjl;simp only[Option.some.injEq,Addr.mk.injEq,and_true] at e9;subst e9;rw[hx] at hy9;obtain rfl:=Option.some.inj hy9;obtain⟨u,hfu⟩:=H.o.there hxN;have hu:=H.o.here hfu;have HU:=qh hu;have HFU:=qh hfu;clear hx hzx hbf hxL hy9 hfu hu;go_wp2_with fail;refine(qeF O9.o HN9.o hjl).mono ?_;rintro e w7 ⟨rfl,o9,gw7⟩;rw[HER.o j x HX.o] at o9;have Q9:=qh o9;have Q8:=qh (O8.o.kept gw7 (by
       rcases hq:(Value.slice a8 out.length c8).ownBlock with _|q
       ·exact .inl rfl
       ·refine .inr fun e=>HNE.o g9 rfl (by rw[hq];exact e)))
      have M7:=qh (M6.o.obj (gw7.block _ M6.o.lt fun e=>by have:=Option.some.inj e;omega));have C7:=qh (show qaQ w7 (w.heap.size+1) w.heap.size from(gw7.block _ (qd C6.o) fun e=>by have:=Option.some.inj e;omega).trans C6.o);have B7:=qh (B6.o.grown gw7 B6.o.size fun k e=>by cases e;omega);have z7:w.heap.size+2<=w7.heap.size:=by have:=gw7.size;omega
      have D7:=qh (D6.o.congr (c':=fun y=>xB (xF E) (fun z=>!(out++[x]).contains z) y+if y ∈ row (xF E) x/\(fun _:Int=>true) y=true then 1 else 0) fun y=>by
       rw[qau HSP.o hxo.o];congr 1;by_cases hy:y ∈ row (xF E) x
       ·rw [if_pos ⟨hy,rfl⟩,if_pos (xG.1 hy)]
       ·rw [if_neg fun h=>hy h.1,if_neg fun h=>hy (xG.2 h)])
      clear o9 gw7 O9 O8 M6 C6 B6 D6 hcx;go_wp2_with (at_builtin;refine qN rfl _ _ _ rfl _ 8 Tryz.underlying30 Yi rfl Q8.o x z7 (by rfl) (by rfl) (by first|rfl|simp) rfl (XC _) (by first|omega|(simp only[List.length_append,List.length_cons,List.length_nil,List.length_replicate];omega)) (by first|omega|(simp only[List.length_append,List.length_cons,List.length_nil,List.length_replicate];omega)) ?_;refine qK.halt ?_)
      refine qK.go ?_;intro gn cn w8 hn Gn;have P8:=qh hn;have P9:=qh (Q9.o.grw Gn HNE.o);have HNE2:=qh (fun q (h3:(Value.slice (some ⟨g9,0,none⟩) (nl - 1) c9).ownBlock=some q)=>(fun h4=>by
       rcases Gn.own q h4 with h5|h5
       ·exact HNE.o q h3 h5
       ·have:=(Q9.o.lt q h3).2;omega:(Value.slice (some ⟨gn,0,none⟩) (out.length+1) cn).ownBlock≠some q))
      have M8:=qh (M7.o.grw Q8.o Gn);have C8:=qh (qL C7.o Gn fun e=>by have:=(Q8.o.lt _ e).1;omega);have B8:=qh (B7.o.trans (Gn.below B7.o.size fun q h=>by have:=(Q8.o.lt q h).1;omega));have z8:w.heap.size+2<=w8.heap.size:=by have:=Gn.size;omega
      have hp8:=qa (H.o.below B8.o hhi).ptr 0;have lk8:=(H.o.below B8.o hhi).look hxd HFU.o;clear hn Gn Q8 Q9 M7 C7 B7;go_wp2_with (at_range;refine qK.halt ?_)
      refine qK.go ?_;refine((H.o.below B8.o hhi).inn x u HU.o).2.1.wpList_range zy (H.o.domA HU.o) (H.o.inn x u HU.o).2.2.1 Tryz.underlying103 rfl rfl (by rfl) ?_;intro w9 hr9 hg9'' hz9;have B9:=qh (yD B8.o hg9'' B8.o.size);have M9:=qh (M8.o.none hg9'');have C9:=qh (XW C8.o hg9'');have Q8:=qh (P8.o.none hg9'');have Q9:=qh (P9.o.none hg9'');have G9:=qh hr9;have hz9':w8.heap.size+1<=w9.heap.size:=by omega
      obtain⟨r2,hr2⟩:∃r2,r2=w8.heap.size:=⟨_,rfl⟩
      rw[←hr2] at G9 hz9' ⊢;have hwr2:w.heap.size+2<=r2:=by omega
      have hul:=(H.o.inn x u HU.o).1;clear hr9 hg9'' hz9 hr2 hp8 lk8 P8 P9 M8 C8 B8;go_wp2_with fail
      try go_frame
      go_loopg [] (A x).length (fun k3 wq=>∃S2 D,NH wq u r2 (A x) S2 k3/\xJ wq (w.heap.size+2) (.slice (some ⟨gn,0,none⟩) (out.length+1) cn) (out++[x])/\xJ wq (w.heap.size+2) (.slice (some ⟨g9,0,none⟩) (nl - 1) c9) (yi N (out++[x]))/\QJ wq w.heap.size D/\
       jq N D (fun y=>xB (xF E) (fun z=>!(out++[x]).contains z) y+if y ∈ row (xF E) x/\S2 y=true then 1 else 0)/\qaQ wq (w.heap.size+1) w.heap.size/\Below w.heap.size w wq/\r2+1<=wq.heap.size)
      case atStart=>exact⟨_,D',G9.o,Q8.o,Q9.o,M9.o,D7.o.congr fun y=>by simp,C9.o,B9.o,hz9'⟩
      case round=>
       obtain⟨S2,D2,hrg,hO8,hO9,hMD,hD,hC,hB,hz⟩:=hrel;have G6:=qh hrg;have O8:=qh hO8;have O9:=qh hO9;have M6:=qh hMD;have D6:=qh hD;have C6:=qh hC;have B6:=qh hB;clear hrg hO8 hO9 hMD hD hC hB G9 Q8 Q9 M9 D7 C9 B9 hz9';go_wp2_with (at_next;refine qK.halt ?_)
       refine qK.go ?_;refine G6.o.wpList_next zy jj (H.o.domA HU.o) (H.o.inn x u HU.o).2.2.1 rfl rfl (by rfl) ?_ ?_
       ·intro hd
        have D7:=qh (D6.o.congr (c':=xB (xF E) fun z=>!(out++[x]).contains z) fun y=>by
         rw[if_neg,Nat.add_zero];rintro⟨hy,hs⟩;rw[←(H.o.inn x u HU.o).2.2.2] at hy;obtain⟨q,hq,hq2⟩:=List.mem_map.1 hy;rw[←hq2,hd q hq] at hs;cases hs)
        have hll:=HLL.o j x HX.o;have HLL2:=qh (show(yi N (out++[x])).length=nl - 1 by have:=HN9.o;omega);clear hd hll;go_wp2_with fail
        go_roundg (nl - 1)
        case measure=>have:=HK.o;have:=HN9.o;omega
        case rel=>exact⟨out++[x],D2,HLL2.o.symm,by simpa using O8.o,O9.o,HNE2.o,M6.o,D7.o,C6.o,by rw[HLL2.o];exact HT2.o,by rw[HLL2.o];simp;omega,B6.o,by omega⟩
       ·intro b0 v0 w5 k4 hbm hS2 hrg4 hlt4 hg4 hz5 hen
        have hbr:=qh (show b0 ∈ row (xF E) x by rw[←(H.o.inn x u HU.o).2.2.2];exact List.mem_map.2 ⟨_,hbm,rfl⟩);have hb0:dI b0:=H.o.domR x b0 hbr.o;have hbN:=qh (HPN2.o _ (xG.1 hbr.o));have G7:=qh hrg4;have P8:=qh (O8.o.nextK G6.o.iterAt hg4);have P9:=qh (O9.o.nextK G6.o.iterAt hg4);have M7:=qh (M6.o.nextK G6.o.iterAt hg4);have C7:=qh (Yz C6.o G6.o.iterAt hg4);have B7:=qh (zO B6.o hg4 B6.o.size (by omega));have lk:=qbV M7.o (D6.o.dom H.o.domN) hb0;have hv:(fnd b0 D2).getD 0=((xB (xF E) (fun z=>!(out++[x]).contains z) b0:Nat):Int)+1:=by rw[D6.o.at',if_pos ⟨hbr.o,hS2⟩];rfl
        rw[hv] at lk;have hvl:=HIL.o (fun z=>!(out++[x]).contains z) b0;have hDl:=D6.o.length;have D8:=qh (D6.o.put (b:=b0) (v:=((xB (xF E) (fun z=>!(out++[x]).contains z) b0:Nat):Int)) (c':=fun y=>xB (xF E) (fun z=>!(out++[x]).contains z) y+if y ∈ row (xF E) x/\(S2 y&&!(y==b0))=true then 1 else 0) hbN.o (by simp) (fun y hy=>by
         have:(y==b0)=false:=by simpa using hy
         simp[this]))
        generalize xB (xF E) (fun z=>!(out++[x]).contains z) b0=vb at *;have hcc:=qa C7.o 0;have hz6:r2+1<=w5.heap.size:=by omega
        clear hrg4 hg4 hS2 hbm hz5 G6 O8 O9 M6 C6 B6 hv;go_wp2_with (at_mapUpdate;refine qK.halt ?_)
        refine qK.go ?_;refine M7.o.wpList_store zy yK (D6.o.dom H.o.domN) D6.o.srt Tryz.underlying138 (v:=(vb:Int)) (by unfold maxLen;omega) hb0 rfl rfl (by rfl) (by rfl) (by go_num) ?_;intro w6 h6 t6;have z6:=qU t6;have M9:=qh h6.tight;have C9:=qh (WY C7.o t6);have Q8:=qh (P8.o.turn t6);have Q9:=qh (P9.o.turn t6);have G9:=qh (vr.turn G7.o t6 (by omega));have B9:=qh (B7.o.trans (Below.turned t6 (Nat.le_refl _)));have z9:r2+1<=w6.heap.size:=by omega
        clear h6 t6 z6 M7 C7 P8 P9 G7 B7 D6 lk hcc;go_wp2_with fail
        go_roundg k4
        case measure=>exact hlt4
        case rel=>exact⟨_,_,G9.o,Q8.o,Q9.o,M9.o,D8.o,C9.o,B9.o,z9⟩
  ·intro a0 u w3 k2 hxm hS hrg2 hlt2 hg2 hz2 hen
   have HSa:=qh hS;have O4:=qh hrg2;have M4:=qh (M3.o.nextK O3.o.iterAt hg2);have C4:=qh (Yz C3.o O3.o.iterAt hg2);have B4:=qh (zO B3.o hg2 B3.o.size (by omega));have hxm':=qh hxm;have HaN:=H.o.inN hxm;have hz3:r1+1<=w3.heap.size:=by omega
   clear hrg2 hg2 hS M3 C3 B3 O3 hz2 hxm;go_wp2_with (at_range;refine qK.halt ?_)
   refine qK.go ?_;refine((H.o.below B4.o hhi).inn a0 u hxm'.o).2.1.wpList_range zy (H.o.domA hxm'.o) (H.o.inn a0 u hxm'.o).2.2.1 Tryz.underlying103 rfl rfl (by rfl) ?_;intro w4 hr4 hg4 hz4;have B5:=qh (yD B4.o hg4 B4.o.size);have M5:=qh (M4.o.none hg4);have C5:=qh (XW C4.o hg4);have O5:=qh (vr.none O4.o hg4);have G5:=qh hr4;have hz4':w3.heap.size+1<=w4.heap.size:=by omega
   have D5:=qh (D3.o.congr (c':=fun x=>xB (xF E) (fun z=>!S z) x+if x ∈ row (xF E) a0/\(fun _:Int=>true) x=false then 1 else 0) fun x=>by simp);obtain⟨r2,hr2⟩:∃r2,r2=w3.heap.size:=⟨_,rfl⟩
   rw[←hr2] at G5 hz4' hz3 ⊢;have hne:r1≠r2:=by omega
   have hwr2:w.heap.size+2<=r2:=by omega
   have hul:=(H.o.inn a0 u hxm'.o).1;clear hr4 hg4 hz4 hr2 hen M4 C4 B4 O4;go_wp2_with fail
   try go_frame
   go_loopg [] (A a0).length (fun k3 wq=>∃S2 D,NH wq u r2 (A a0) S2 k3/\NH wq b r1 M (fun z=>S z&&!(z==a0)) k2/\QJ wq w.heap.size D/\jq N D (fun x=>xB (xF E) (fun z=>!S z) x+if x ∈ row (xF E) a0/\S2 x=false then 1 else 0)/\qaQ wq (w.heap.size+1) w.heap.size/\Below w.heap.size w wq/\r2+1<=wq.heap.size)
   case atStart=>exact⟨_,D,G5.o,O5.o,M5.o,D5.o,C5.o,B5.o,hz4'⟩
   case round=>
    obtain⟨S2,D',hrg,hO,hMD,hD,hC,hB,hz⟩:=hrel;have G6:=qh hrg;have O6:=qh hO;have M6:=qh hMD;have D6:=qh hD;have C6:=qh hC;have B6:=qh hB;clear hrg hO hMD hD hC hB G5 O5 M5 D5 C5 B5 hz4' D3;go_wp2_with (at_next;refine qK.halt ?_)
    refine qK.go ?_;refine G6.o.wpList_next zy jj (H.o.domA hxm'.o) (H.o.inn a0 u hxm'.o).2.2.1 rfl rfl (by rfl) ?_ ?_
    ·intro hd
     have D7:=qh (D6.o.congr (c':=xB (xF E) fun z=>!(S z&&!(z==a0))) fun x=>by
      rw[qav HSP.o HSa.o];congr 1;by_cases hx:x ∈ row (xF E) a0
      ·have hx2:=xG.1 hx
       have hx3:x ∈ (A a0).map (·.1):=by rw[(H.o.inn a0 u hxm'.o).2.2.2];exact hx
       obtain⟨q,hq,hq2⟩:=List.mem_map.1 hx3;rw[if_pos hx2,if_pos ⟨hx,by rw[←hq2];exact hd q hq⟩]
      ·rw [if_neg fun h=>hx (xG.2 h),if_neg fun h=>hx h.1])
     clear hd;go_wp2_with fail
     go_roundg k2
     case measure=>exact hlt2
     case rel=>exact⟨_,D',O6.o,M6.o,D7.o,C6.o,B6.o,by omega⟩
    ·intro b0 v0 w5 k4 hbm hS2 hrg4 hlt4 hg4 hz5 hen
     have hbr:=qh (show b0 ∈ row (xF E) a0 by rw[←(H.o.inn a0 u hxm'.o).2.2.2];exact List.mem_map.2 ⟨_,hbm,rfl⟩);have hb0:dI b0:=H.o.domR a0 b0 hbr.o;have hbN:=qh (HPN2.o _ (xG.1 hbr.o));have G7:=qh hrg4;have O7:=qh (vr.nextK O6.o G6.o.iterAt hne hg4);have M7:=qh (M6.o.nextK G6.o.iterAt hg4);have C7:=qh (Yz C6.o G6.o.iterAt hg4);have B7:=qh (zO B6.o hg4 B6.o.size (by omega));have lk:=qbV M7.o (D6.o.dom H.o.domN) hb0;have hv:(fnd b0 D').getD 0=((xB (xF E) (fun z=>!S z) b0:Nat):Int):=by rw[D6.o.at',if_neg (by rw[hS2];simp)];rfl
     rw[hv] at lk;have hvl:=HIL.o (fun z=>!S z) b0;have hDl:=D6.o.length;have D8:=qh (D6.o.put (b:=b0) (v:=((xB (xF E) (fun z=>!S z) b0:Nat):Int)+1) (c':=fun x=>xB (xF E) (fun z=>!S z) x+if x ∈ row (xF E) a0/\(S2 x&&!(x==b0))=false then 1 else 0) hbN.o (by simp[hbr.o]) (fun x hx=>by
      have:(x==b0)=false:=by simpa using hx
      simp[this]))
     generalize xB (xF E) (fun z=>!S z) b0=vb at *;have hcc:=qa C7.o 0;have hz6:r2+1<=w5.heap.size:=by omega
     clear hrg4 hg4 hS2 hbm hz5 G6 O6 M6 C6 B6 hv;go_wp2_with (at_mapUpdate;refine qK.halt ?_)
     refine qK.go ?_;refine M7.o.wpList_store zy yK (D6.o.dom H.o.domN) D6.o.srt Tryz.underlying138 (v:=(vb:Int)+1) (by unfold maxLen;omega) hb0 rfl rfl (by rfl) (by rfl) (by rfl) ?_;intro w6 h6 t6;have z6:=qU t6;have M9:=qh h6.tight;have C9:=qh (WY C7.o t6);have O9:=qh (vr.turn O7.o t6 (by omega));have G9:=qh (vr.turn G7.o t6 (by omega));have B9:=qh (B7.o.trans (Below.turned t6 (Nat.le_refl _)));have z7:r2+1<=w6.heap.size:=by omega
     clear h6 t6 z6 M7 C7 O7 G7 B7 D6 lk hcc;go_wp2_with fail
     go_roundg k4
     case measure=>exact hlt4
     case rel=>exact⟨_,_,G9.o,O9.o,M9.o,D8.o,C9.o,B9.o,z7⟩
end
