/- Parts of the proof; the first: A graph in memory: what it is, and what a store makes of it. Conditions: those of each theorem, as typed. -/
import Derived.Test.YtcpfbphcldocpaaGreatDoorQC20
import Derived.Test.YtcpfbphcldocpaaGreatDoorQC16
import Derived.Test.YtcpfbphcldocpaaGreatDoorQC17
import Derived.Deep.LoopGhost
import Derived.OneCell
set_option linter.unusedVariables false
set_option linter.unusedSimpArgs false
set_option linter.unusedSectionVars false
set_option maxRecDepth 100000
set_option maxHeartbeats 4000000
namespace Go.Proofs.YtcpfbphcldocpaaGreatDoor
open Go.Maps Go.RowKit
structure jR (w:World) (lo hi p b:Nat) (ow:Nat->Int) (M:List (Int×Nat)) (A:Int->List (Int×Nat)) (N:List Int) (E:List jI):Prop where
 ptr:w.heap[p]?=some (.cells #[.map (some b)] 106 (0,0))
 hp:lo<=p/\p < hi
 hb:lo<=b/\b < hi
 o:Mp w b M
 srtM:za M
 keys:M.map (·.1)=N
 inn:∀a u,(a,u) ∈ M->(lo<=u/\u < hi/\u≠b/\ow u=a)/\Mp w u (A a)/\za (A a)/\(A a).map (·.1)=row (xG E) a
 leaf:∀a u c v,(a,u) ∈ M->(c,v) ∈ A a->(lo<=v/\v < hi/\v≠b/\v≠u/\ow v=a)/\Mq w v (jl (yY E a c))
 inj:∀a u c c' v,(a,u) ∈ M->(c,v) ∈ A a->(c',v) ∈ A a->c=c'
 ok:JD N E
 domN:∀a ∈ N,dI a
 domE:∀e ∈ E,dI e.2.2
def jj (w:World) (lo hi p:Nat) (N:List Int) (E:List jI):Prop:=∃b ow M A,jR w lo hi p b ow M A N E
section
variable {w w':World} {lo hi p b:Nat} {ow:Nat->Int} {M:List (Int×Nat)} {A:Int->List (Int×Nat)} {N:List Int} {E:List jI}
theorem jR.below {K:Nat} (h:jR w lo hi p b ow M A N E) (hb:Below K w w') (hK:hi<=K):jR w' lo hi p b ow M A N E:=
 {h with
  ptr:=qh h.ptr hb (by have:=h.hp;omega)
  o:=h.o.below hb (by have:=h.hb;omega)
  inn:=fun a u hu=>let ⟨h1,h2,h3⟩:=h.inn a u hu;⟨h1,h2.below hb (by omega),h3⟩
  leaf:=fun a u c v hu hv=>let ⟨h1,h2⟩:=h.leaf a u c v hu hv;⟨h1,h2.below hb (by omega)⟩}
theorem jj.below {K:Nat} (h:jj w lo hi p N E) (hb:Below K w w') (hK:hi<=K):jj w' lo hi p N E:=let ⟨b,ow,M,A,h⟩:=h;⟨b,ow,M,A,h.below hb hK⟩
theorem jR.raise {hi':Nat} (h:jR w lo hi p b ow M A N E) (hh:hi<=hi'):jR w lo hi' p b ow M A N E:=
 {h with
  hp:=⟨h.hp.1,Nat.lt_of_lt_of_le h.hp.2 hh⟩
  hb:=⟨h.hb.1,Nat.lt_of_lt_of_le h.hb.2 hh⟩
  inn:=fun a u hu=>let ⟨h1,h2⟩:=h.inn a u hu;⟨⟨h1.1,Nat.lt_of_lt_of_le h1.2.1 hh,h1.2.2⟩,h2⟩
  leaf:=fun a u c v hu hv=>let ⟨h1,h2⟩:=h.leaf a u c v hu hv;⟨⟨h1.1,Nat.lt_of_lt_of_le h1.2.1 hh,h1.2.2⟩,h2⟩}
theorem jj.raise {hi':Nat} (h:jj w lo hi p N E) (hh:hi<=hi'):jj w lo hi' p N E:=let ⟨b,ow,M,A,h⟩:=h;⟨b,ow,M,A,h.raise hh⟩
theorem jj.ok (h:jj w lo hi p N E):JD N E:=let ⟨_,_,_,_,h⟩:=h;h.ok
theorem jj.domN (h:jj w lo hi p N E):∀a ∈ N,dI a:=let ⟨_,_,_,_,h⟩:=h;h.domN
theorem jj.lt (h:jj w lo hi p N E):lo<=p/\p < hi:=let ⟨_,_,_,_,h⟩:=h;h.hp
theorem jR.domM (h:jR w lo hi p b ow M A N E):yE dI M:=fun q hq=>h.domN _ (by rw[←h.keys];exact List.mem_map.2 ⟨q,hq,rfl⟩)
theorem jR.inN (h:jR w lo hi p b ow M A N E) {a:Int} {u:Nat} (hu:(a,u) ∈ M):a ∈ N:=by rw[←h.keys];exact List.mem_map.2 ⟨_,hu,rfl⟩
theorem jR.domR (h:jR w lo hi p b ow M A N E) (a:Int):∀c ∈ row (xG E) a,dI c:=fun _ hc=>h.domN _ (h.ok.pair (xI.1 hc)).2
theorem jR.domA (h:jR w lo hi p b ow M A N E) {a:Int} {u:Nat} (hu:(a,u) ∈ M):yE dI (A a):=fun q hq=>by
 refine h.domR a q.1 ?_;rw[←(h.inn a u hu).2.2.2];exact List.mem_map.2 ⟨q,hq,rfl⟩
theorem jR.domK (h:jR w lo hi p b ow M A N E) (a c:Int):∀k ∈ yY E a c,dI k:=fun _ hk=>h.domE _ (ze.1 hk)
theorem jR.here (h:jR w lo hi p b ow M A N E) {a:Int} {u:Nat} (hf:fnd a M=some u):(a,u) ∈ M:=(fnd_some h.srtM).1 hf
theorem jR.hereA (h:jR w lo hi p b ow M A N E) {a c:Int} {u v:Nat} (hu:(a,u) ∈ M) (hf:fnd c (A a)=some v):(c,v) ∈ A a:=(fnd_some (h.inn a u hu).2.2.1).1 hf
theorem jR.gone (h:jR w lo hi p b ow M A N E) {a:Int} (hf:fnd a M=none):a ∉ N:=fun ha=>by
 rw[←h.keys] at ha;obtain⟨q,hq,rfl⟩:=List.mem_map.1 ha;exact(fnd_none.1 hf) q.2 hq
theorem jR.gone_row (h:jR w lo hi p b ow M A N E) {a:Int} (hf:fnd a M=none):row (xG E) a=[]:=by
 rw[List.eq_nil_iff_forall_not_mem];exact fun c hc=>h.gone hf (h.ok.pair (xI.1 hc)).1
theorem jR.goneA (h:jR w lo hi p b ow M A N E) {a c:Int} {u:Nat} (hu:(a,u) ∈ M) (hf:fnd c (A a)=none):c ∉ row (xG E) a:=fun hc=>by
 rw[←(h.inn a u hu).2.2.2] at hc;obtain⟨q,hq,rfl⟩:=List.mem_map.1 hc;exact(fnd_none.1 hf) q.2 hq
theorem jR.there (h:jR w lo hi p b ow M A N E) {a:Int} (ha:a ∈ N):∃u,fnd a M=some u:=by
 cases hf:fnd a M with
 |some u=>exact⟨u,rfl⟩
 |none=>exact absurd ha (h.gone hf)
theorem jR.lenM (h:jR w lo hi p b ow M A N E):M.length=N.length:=by have:=congrArg List.length h.keys;simpa using this
theorem jR.lenA (h:jR w lo hi p b ow M A N E) {a:Int} {u:Nat} (hu:(a,u) ∈ M):(A a).length<=E.length:=by
 have h1:=congrArg List.length (h.inn a u hu).2.2.2;rw[List.length_map] at h1;have h2:=Ky (xG E) a;have h3:=Zt E;omega
theorem YN {q:Nat} {cs:Array Value} {t:TypeId} {fz:Nat×Nat} {P:Program} {K:TypeId} {R:Ms} {kl:Int->Lit} {ε:Type} {ed:ε->DU} {n:Nat} {L:List (Int×ε)} (hp:w.heap[p]?=some (.cells cs t fz)) (h:qG P K R kl ed w q n L):p≠q:=by
 rintro rfl;obtain⟨es,c,hb,_⟩:=h;rw[hp] at hb;cases hb
theorem jR.same (h:jR w lo hi p b ow M A N E) {a:Int} {u u':Nat} (hu:(a,u) ∈ M) (hu':(a,u') ∈ M):u'=u:=Option.some.inj (((fnd_some h.srtM).2 hu').symm.trans ((fnd_some h.srtM).2 hu))
theorem jR.node_new (h:jR w lo hi p b ow M A N E) (hhi:hi<=w.heap.size) {a:Int} (hf:fnd a M=none) (hw:(w.alloc (.map #[] 0)).mapTurned w' b) (ho:Mp w' b (upd a w.heap.size M)) (ha:dI a):
  jR w' lo w'.heap.size p b (fun v=>if v=w.heap.size then a else ow v) (upd a w.heap.size M) (fun x=>if x=a then[] else A x) (yL a N) E:=by
 have hz:=qP hw;rw[World.size_alloc] at hz;have hpb:=h.hp;have hbb:=h.hb;have hna:=h.gone hf;have hrow:=h.gone_row hf;have old:∀{i:Nat},i < w.heap.size->i≠b->w'.heap[i]?=(w.alloc (.map #[] 0)).heap[i]?:=fun _ hi=>qA hw hi;have hm:Mp w' w.heap.size []:=((qG.made w):Mp _ _ []).obj (qA hw (by omega));refine⟨?_,by omega,by omega,ho,zG h.srtM,?_,fun x u hu=>?_,fun x u c v hu hc=>?_,fun x u c c' v hu hc hc'=>?_,h.ok.node a,fun x hx=>?_,h.domE⟩
 ·rw [qA hw (YN h.ptr h.o)]
  exact qy h.ptr
 ·rw [YX,h.keys]
 ·rcases (yX h.srtM).1 hu with e|⟨hu,hne⟩
  ·simp only[Prod.mk.injEq] at e
   obtain⟨rfl,rfl⟩:=e;refine⟨by simp;omega,?_⟩;simp only[if_true];exact⟨hm,List.Pairwise.nil,by rw[hrow];rfl⟩
  ·obtain ⟨h1,h2,h3⟩:=h.inn x u hu
   refine⟨⟨by omega,by omega,h1.2.2.1,by rw[if_neg (by omega)];exact h1.2.2.2⟩,?_⟩;simp only[if_neg (show ¬x=a from hne)];exact⟨(h2.alloc _).obj (qA hw h1.2.2.1),h3⟩
 ·rcases (yX h.srtM).1 hu with e|⟨hu,hne⟩
  ·simp only[Prod.mk.injEq] at e
   obtain⟨rfl,rfl⟩:=e;simp at hc
  ·simp only[if_neg (show ¬x=a from hne)] at hc
   obtain⟨h1,h2⟩:=h.leaf x u c v hu hc;exact⟨⟨by omega,by omega,h1.2.2.1,h1.2.2.2.1,by rw[if_neg (by omega)];exact h1.2.2.2.2⟩,(h2.alloc _).obj (qA hw h1.2.2.1)⟩
 ·rcases (yX h.srtM).1 hu with e|⟨hu,hne⟩
  ·simp only[Prod.mk.injEq] at e
   obtain⟨rfl,rfl⟩:=e;simp at hc
  ·simp only[if_neg (show ¬x=a from hne)] at hc hc'
   exact h.inj x u c c' v hu hc hc'
 ·rcases qY.1 hx with rfl|hx
  ·exact ha
  ·exact h.domN x hx
theorem jR.edge_old (h:jR w lo hi p b ow M A N E) {a c k:Int} {u v:Nat} (hu:(a,u) ∈ M) (hv:(c,v) ∈ A a) (hw:w.mapTurned w' v) (hm:Mq w' v (jl (yL k (yY E a c)))) (hk:dI k):
  jR w' lo hi p b ow M A N (vj (a,c,k) E):=by
 have h1:=(h.leaf a u c v hu hv).1;have hc:c ∈ row (xG E) a:=by rw[←(h.inn a u hu).2.2.2];exact List.mem_map.2 ⟨_,hv,rfl⟩
 have hac:=h.ok.pair (xI.1 hc);refine⟨?_,h.hp,h.hb,h.o.obj (qA hw h1.2.2.1.symm),h.srtM,h.keys,fun x u' hu'=>?_,fun x u' c' v' hu' hc'=>?_,h.inj,?_,h.domN,fun e he=>?_⟩
 ·rw [qA hw (YN h.ptr (h.leaf a u c v hu hv).2)]
  exact h.ptr
 ·obtain ⟨h2,h3,h4,h5⟩:=h.inn x u' hu'
  refine⟨h2,h3.obj (qA hw ?_),h4,?_⟩
  ·rintro rfl
   have e1:x=a:=h2.2.2.2.symm.trans h1.2.2.2.2;subst e1;exact h1.2.2.2.1 (h.same hu hu')
  ·by_cases e:x=a
   ·subst e
    rw[Xi,Ys (Qf (uX E) x) hc];exact h5
   ·rw [Qv E a c k e]
    exact h5
 ·obtain ⟨h2,h3⟩:=h.leaf x u' c' v' hu' hc'
  refine⟨h2,?_⟩;by_cases e:v'=v
  ·subst e
   have e1:x=a:=h2.2.2.2.2.symm.trans h1.2.2.2.2;subst e1;have e2:c'=c:=h.inj x u' c' c v' hu' hc' hv;subst e2;rw[vS h.ok.srtE];exact hm
  ·rw [jM h.ok.srtE]
   ·exact h3.obj (qA hw e)
   ·by_cases e1:x=a
    ·subst e1
     refine .inr fun e2=>e ?_;subst e2;exact Option.some.inj (((fnd_some (h.inn x u' hu').2.2.1).2 hc').symm.trans ((fnd_some (h.inn x u' hu').2.2.1).2 hv))
    ·exact .inl e1
 ·refine ⟨h.ok.srtN,uI h.ok.srtE,fun e he=>?_⟩
  rcases xV.1 he with rfl|he
  ·exact hac
  ·exact h.ok.sub e he
 ·rcases xV.1 he with rfl|he
  ·exact hk
  ·exact h.domE e he
theorem jR.edge_new (h:jR w lo hi p b ow M A N E) (hhi:hi<=w.heap.size) {a c k:Int} {u:Nat} (hu:(a,u) ∈ M) (hcN:c ∈ N) (hf:fnd c (A a)=Option.none) {w1 w2:World} (hw1:(w.alloc (.map #[] 0)).mapTurned w1 u) (hw2:w1.mapTurned w2 w.heap.size)
  (ho:Mp w1 u (upd c w.heap.size (A a))) (hm:Mq w2 w.heap.size (jl [k])) (hk:dI k):
  jR w2 lo w2.heap.size p b (fun v=>if v=w.heap.size then a else ow v) M (fun x=>if x=a then upd c w.heap.size (A a) else A x) N (vj (a,c,k) E):=by
 have hz1:=qP hw1;have hz2:=qP hw2;rw[World.size_alloc] at hz1;have hpb:=h.hp;have hbb:=h.hb;have haN:=h.inN hu;have hnc:=h.goneA hu hf;obtain⟨i1,i2,i3,i4⟩:=h.inn a u hu;refine⟨?_,by omega,by omega,?_,h.srtM,h.keys,fun x u' hu'=>?_,fun x u' c' v' hu' hc'=>?_,fun x u' c1 c2 v' hu' hc1 hc2=>?_,?_,h.domN,fun e he=>?_⟩
 ·rw [qA hw2 (by omega),qA hw1 (YN h.ptr i2)]
  exact qy h.ptr
 ·exact ((h.o.alloc _).obj (qA hw1 i1.2.2.1.symm)).obj (qA hw2 (by omega))
 ·obtain ⟨h2,h3,h4,h5⟩:=h.inn x u' hu'
  refine⟨⟨by omega,by omega,h2.2.2.1,by rw[if_neg (by omega)];exact h2.2.2.2⟩,?_⟩;by_cases e:x=a
  ·subst e
   have e2:=h.same hu hu';subst e2;simp only[if_true];refine⟨ho.obj (qA hw2 (by omega)),zG i3,?_⟩;rw[YX,i4,Xi]
  ·simp only[if_neg e]
   refine⟨((h3.alloc _).obj (qA hw1 ?_)).obj (qA hw2 (by omega)),h4,by rw[Qv E a c k e];exact h5⟩;rintro rfl;exact e (h2.2.2.2.symm.trans i1.2.2.2)
 ·by_cases e:x=a
  ·subst e
   have e2:=h.same hu hu';subst e2;simp only[if_true] at hc';rcases(yX i3).1 hc' with e3|⟨hc',hne⟩
   ·simp only[Prod.mk.injEq] at e3
    obtain⟨rfl,rfl⟩:=e3;refine⟨⟨by omega,by omega,by omega,by omega,by simp⟩,?_⟩;rw[vS h.ok.srtE,NK hnc];exact hm
   ·obtain ⟨h2,h3⟩:=h.leaf x u' c' v' hu' hc'
    refine⟨⟨by omega,by omega,h2.2.2.1,h2.2.2.2.1,by rw[if_neg (by omega)];exact h2.2.2.2.2⟩,?_⟩;rw[jM h.ok.srtE _ _ _ (.inr hne)];exact((h3.alloc _).obj (qA hw1 h2.2.2.2.1)).obj (qA hw2 (by omega))
  ·simp only[if_neg e] at hc'
   obtain⟨h2,h3⟩:=h.leaf x u' c' v' hu' hc';refine⟨⟨by omega,by omega,h2.2.2.1,h2.2.2.2.1,by rw[if_neg (by omega)];exact h2.2.2.2.2⟩,?_⟩;rw[jM h.ok.srtE _ _ _ (.inl e)];refine((h3.alloc _).obj (qA hw1 ?_)).obj (qA hw2 (by omega));rintro rfl;exact e (h2.2.2.2.2.symm.trans i1.2.2.2)
 ·by_cases e:x=a
  ·subst e
   have e2:=h.same hu hu';subst e2;simp only[if_true] at hc1 hc2;rcases(yX i3).1 hc1 with e3|⟨hc1,hne1⟩
   ·rcases (yX i3).1 hc2 with e4|⟨hc2,hne2⟩
    ·simp only[Prod.mk.injEq] at e3 e4;rw[e3.1,e4.1]
    ·have:=(h.leaf x u' c2 v' hu' hc2).1;simp only[Prod.mk.injEq] at e3;omega
   ·rcases (yX i3).1 hc2 with e4|⟨hc2,hne2⟩
    ·have:=(h.leaf x u' c1 v' hu' hc1).1;simp only[Prod.mk.injEq] at e4;omega
    ·exact h.inj x u' c1 c2 v' hu' hc1 hc2
  ·simp only[if_neg e] at hc1 hc2
   exact h.inj x u' c1 c2 v' hu' hc1 hc2
 ·refine ⟨h.ok.srtN,uI h.ok.srtE,fun e he=>?_⟩
  rcases xV.1 he with rfl|he
  ·exact ⟨haN,hcN⟩
  ·exact h.ok.sub e he
 ·rcases xV.1 he with rfl|he
  ·exact hk
  ·exact h.domE e he
end
theorem zeroG (w:World):(zeroValue 103).run Tryz.prog w=.ok (.map none) w:=by kernel_rfl
section
variable {w:World} {lo hi p b:Nat} {ow:Nat->Int} {M:List (Int×Nat)} {A:Int->List (Int×Nat)} {N:List Int} {E:List jI}
theorem look3 {u n:Nat} {L:List (Int×Nat)} (h:qG Tryz.prog 3 Ra (.int .i64) (fun r:Nat=>.lit (.int .i64 r)) w u n L) (hd:yE dI L) {a:Int} (ha:dI a):(Instr.lookup 104 (.map (some u)) (.int .i64 a) false).run Tryz.prog w=.ok (.map (fnd a L)) w:=by
 have:=h.look zm jb hd Tryz.underlying104 (zeroG w) ha;rw[this];cases fnd a L <;> rfl
theorem look2 {u n:Nat} {L:List (Int×Nat)} (h:qG Tryz.prog 3 Ra (.int .i64) (fun r:Nat=>.lit (.int .i64 r)) w u n L) (hd:yE dI L) {a:Int} (ha:dI a):(Instr.lookup 103 (.map (some u)) (.int .i64 a) false).run Tryz.prog w=.ok (.map (fnd a L)) w:=by
 have:=h.look zm jb hd Tryz.underlying103 (zeroM w) ha;rw[this];cases fnd a L <;> rfl
theorem jR.look (h:jR w lo hi p b ow M A N E) {a:Int} (ha:dI a) {r:Option Nat} (hf:fnd a M=r):(Instr.lookup 104 (.map (some b)) (.int .i64 a) false).run Tryz.prog w=.ok (.map r) w:=by
 rw[←hf];exact look3 h.o h.domM ha
theorem jR.lookA (h:jR w lo hi p b ow M A N E) {a c:Int} {u:Nat} (hu:(a,u) ∈ M) (hc:dI c) {r:Option Nat} (hf:fnd c (A a)=r):(Instr.lookup 103 (.map (some u)) (.int .i64 c) false).run Tryz.prog w=.ok (.map r) w:=by
 rw[←hf];exact look2 (h.inn a u hu).2.1 (h.domA hu) hc
theorem jR.lookK (h:jR w lo hi p b ow M A N E) {a c k:Int} {u v:Nat} (hu:(a,u) ∈ M) (hv:(c,v) ∈ A a) (hk:dI k):(Instr.lookup 102 (.map (some v)) (.int .i64 k) false).run Tryz.prog w=.ok (.bool (decide ((a,c,k) ∈ E))) w:=by
 have:=Uh (h.leaf a u c v hu hv).2 (h.domK a c) hk;rw[this];simp only[ze]
end
theorem gr_new (w:World):Calls Tryz.prog 70 #[] w fun e w'=>∃p,e=.returned (.pointer (some ⟨p,0,none⟩))/\jj w' w.heap.size w'.heap.size p [] []/\Below w.heap.size w w':=by
 have hmm:=@run_makeMap Tryz.prog;go_enter Tryz.func70,Tryz.ntmps70;go_wp2;go_ret;refine⟨_,rfl,⟨w.heap.size,fun _=>0,[],fun _=>[],?_⟩,((Below.refl _ _).alloc (Nat.le_refl _) _).alloc (by simp) _⟩;exact⟨qX (by simp),by simp,by simp;omega,(qG.made w).alloc _,List.Pairwise.nil,rfl,fun _ _ h=>by simp at h,fun _ _ _ _ h=>by simp at h,fun _ _ _ _ _ h=>by simp at h,JD.nil,fun _ h=>by simp at h,fun _ h=>by simp at h⟩
section
variable {w:World} {lo hi p:Nat} {N:List Int} {E:List jI}
theorem Vf (h:jj w lo hi p N E) (hhi:hi<=w.heap.size) (hN:N.length<=1000000) (a:Int) (ha:dI a):Calls Tryz.prog 72 #[.pointer (some ⟨p,0,none⟩),.int .i64 a] w fun e w'=>
  e=.returned (.bool (decide (a ∉ N)))/\jj w' lo w'.heap.size p (yL a N) E/\jP w w'/\Below lo w w':=by
 obtain⟨b,ow,M,A,h⟩:=h;have hp:=qa h.ptr 0;have hlo:=h.hb;have q:∀(w:World) (r:Option Nat),(binOp .neq 103 (.map r) (.map none)).run Tryz.prog w=.ok (.bool !r.isNone) w:=fun w r=>run_neq_map_nil w _ _ _ r Tryz.underlying103;have hmm:=@run_makeMap Tryz.prog;cases hf:fnd a M with
 |some u=>
  have l1:=h.look ha hf;have hin:=h.inN (h.here hf);have E1:=qd (show decide (a ∉ N)=false by simpa using hin);have E2:=qd (Ys h.ok.srtN hin);have H:=qd h;clear h hf hin;go_enter Tryz.func72,Tryz.ntmps72;go_wp2;go_ret;exact⟨by rw[E1.o];rfl,by rw[E2.o];exact⟨b,ow,M,A,H.o.raise hhi⟩,jP.refl _,Below.refl _ _⟩
 |none=>
  have l1:=h.look ha hf;have hout:=h.gone hf;have E1:=qd (show decide (a ∉ N)=true by simpa using hout);have hM:=h.lenM;have hMl:M.length<=1000000:=by omega
  have H:=qd h;have HF:=qd hf;clear h hf hout hM;go_enter Tryz.func72,Tryz.ntmps72;go_wp2_with (at_mapUpdate;refine qH.halt ?_)
  refine qH.go ?_;refine(H.o.o.alloc (.map #[] 0)).wpList_store zm jb H.o.domM H.o.srtM Tryz.underlying104 (v:=w.heap.size) (by unfold maxLen;omega) ha rfl rfl (by rfl) (by rfl) (by rfl) ?_;intro w1 h1 t1;have H1:=qd h1.tight;have T1:=qd t1;have z1:=qP t1;clear h1 t1;go_wp2;go_ret;exact⟨by rw[E1.o];rfl,⟨_,_,_,_,H.o.node_new hhi HF.o T1.o H1.o ha⟩,(jP.alloc _ _).trans (jP.turned T1.o),((Below.refl _ _).alloc (by omega) _).trans (Below.turned T1.o (by omega))⟩
theorem Ww (h:jj w lo hi p N E) (hN:N.length<=1000000):Calls Tryz.prog 109 #[.pointer (some ⟨p,0,none⟩)] w fun e w'=>∃v,e=.returned v/\yF w' w.heap.size v N/\Below w.heap.size w w':=by
 obtain⟨b,ow,M,A,h⟩:=h;have hp:=qa h.ptr 0;have hM:=h.lenM;have hMl:M.length<=1000000:=by omega
 have H:=qd h;clear h hM;go_enter Tryz.func109,Tryz.ntmps109;go_wp2_with fail;refine(keysG (some b) _).mono ?_;rintro e w1 ⟨rfl,rfl⟩;go_wp2_with fail;refine(sortedG H.o.o H.o.srtM hMl).mono ?_;rintro e w1 ⟨v,rfl,h1,h2⟩;rw[H.o.keys] at h1;have H1:=qd h1;have H2:=qd h2;clear h1 h2;go_wp2;go_ret;exact⟨v,rfl,H1.o.base (by omega),((Below.refl _ _).alloc (Nat.le_refl _) _).trans (H2.o.mono (by omega))⟩
theorem gr_out (h:jj w lo hi p N E) (hE:E.length<=1000000) (a:Int) (ha:dI a):Calls Tryz.prog 114 #[.pointer (some ⟨p,0,none⟩),.int .i64 a] w fun e w'=>∃v,e=.returned v/\yF w' w.heap.size v (row (xG E) a)/\Below w.heap.size w w':=by
 obtain⟨b,ow,M,A,h⟩:=h;have hp:=qa h.ptr 0;cases hf:fnd a M with
 |none=>
  have l1:=h.look ha hf;have hr:=qd (h.gone_row hf);clear hf h;go_enter Tryz.func114,Tryz.ntmps114;go_wp2_with fail;refine(keysM none _).mono ?_;rintro e w1 ⟨rfl,rfl⟩;go_wp2_with fail;refine(VK w).mono ?_;rintro e w1 ⟨v,rfl,h1,h2⟩;have H1:=qd h1;have H2:=qd h2;clear h1 h2;go_wp2;go_ret;exact⟨v,rfl,by rw[hr.o];exact H1.o.base (by omega),((Below.refl _ _).alloc (Nat.le_refl _) _).trans (H2.o.mono (by omega))⟩
 |some u=>
  have l1:=h.look ha hf;have hu:=h.here hf;have hl:=h.lenA hu;have hAl:(A a).length<=1000000:=by omega
  have H:=qd (h.inn a u hu).2;clear hf hu h hl;go_enter Tryz.func114,Tryz.ntmps114;go_wp2_with fail;refine(keysM (some u) _).mono ?_;rintro e w1 ⟨rfl,rfl⟩;go_wp2_with fail;refine(sortedM H.o.1 H.o.2.1 hAl).mono ?_;rintro e w1 ⟨v,rfl,h1,h2⟩;rw[H.o.2.2] at h1;have H1:=qd h1;have H2:=qd h2;clear h1 h2;go_wp2;go_ret;exact⟨v,rfl,H1.o.base (by omega),((Below.refl _ _).alloc (Nat.le_refl _) _).trans (H2.o.mono (by omega))⟩
theorem gr_edge (h:jj w lo hi p N E) (hhi:hi<=w.heap.size) (hN:N.length<=900000) (hE:E.length<=900000) (a c k:Int) (ha:dI a) (hc:dI c) (hk:dI k):Calls Tryz.prog 73 #[.pointer (some ⟨p,0,none⟩),.int .i64 a,.int .i64 c,.int .i64 k] w fun e w'=>
  e=.returned (.bool (decide ((a,c,k) ∉ E)))/\jj w' lo w'.heap.size p (yL c (yL a N)) (vj (a,c,k) E)/\jP w w'/\Below lo w w':=by
 have hmm:=@run_makeMap Tryz.prog;have q:∀(w:World) (r:Option Nat),(binOp .eql 102 (.map r) (.map none)).run Tryz.prog w=.ok (.bool r.isNone) w:=fun w r=>run_eql_map_nil w _ _ _ r Tryz.underlying102;go_enter Tryz.func73,Tryz.ntmps73;go_wp2_with fail;refine(Vf h hhi (by omega) a ha).mono ?_;rintro e w1 ⟨rfl,h1,k1,b1⟩;have H1:=qd h1;have K1:=qd k1;have B1:=qd b1;have hl1:=zg (n:=a) (l:=N);clear h h1 k1 b1;go_wp2_with fail;refine(Vf H1.o (Nat.le_refl _) (by omega) c hc).mono ?_;rintro e w2 ⟨rfl,h2,k2,b2⟩;have hl2:=zg (n:=c) (l:=yL a N);have haN:a ∈ yL c (yL a N):=qY.2 (.inr (qY.2 (.inl rfl)));have hcN:c ∈ yL c (yL a N):=qY.2 (.inl rfl);have K2:=qd (K1.o.trans k2);have B2:=qd (B1.o.trans b2);generalize hN2:yL c (yL a N)=N2 at *;have HN2:=qd hN2;have HAN:=qd haN;have HCN:=qd hcN;clear k2 b2 H1 K1 B1 haN hcN hl1 hN2;obtain⟨b,ow,M,A,h2⟩:=h2;have hp:=qa h2.ptr 0;obtain⟨u,hf⟩:=h2.there HAN.o;have l1:=h2.look ha hf;have hu:=h2.here hf;have hbl:=h2.hb;have hpl:=h2.hp;have hul:=(h2.inn a u hu).1;cases hg:fnd c (A a) with
 |some v=>
  have hv:=h2.hereA hu hg;have l2:=h2.lookA hu hc hg;have l3:=h2.lookK hu hv hk;have hvl:=(h2.leaf a u c v hu hv).1;have hkl:=Zu E a c;have H:=qd h2;have HU:=qd hu;have HV:=qd hv;clear hf hg h2 hu hv;go_wp2_with (at_mapUpdate;refine qH.halt ?_)
  refine qH.go ?_;refine(H.o.leaf a u c v HU.o HV.o).2.wpList_store zm Yd (JK (H.o.domK a c)) (Ni (jD H.o.ok.srtE a c)) Tryz.underlying102 (v:=()) (by rw[UG];unfold maxLen;omega) hk rfl rfl (by rfl) (by rfl) (by rfl) ?_;intro w3 h3 t3;rw[JI] at h3;have H3:=qd h3.tight;have T3:=qd t3;have z3:=qP t3;clear h3 t3 l1 l2 l3;go_wp2;go_ret;exact⟨by simp,by rw[HN2.o];exact⟨_,_,_,_,(H.o.edge_old HU.o HV.o T3.o H3.o hk).raise (hi':=w3.heap.size) (by omega)⟩,K2.o.trans (jP.turned T3.o),B2.o.trans (Below.turned T3.o (by omega))⟩
 |none=>
  have l2:=h2.lookA hu hc hg;have hAl:=h2.lenA hu;have hE1:=qd (show decide ((a,c,k) ∈ E)=false by simpa using fun hm=>h2.goneA hu hg (xI.2 (Qh.2 ⟨k,hm⟩)));have HE2:=qd (show decide ((a,c,k) ∉ E)=true by have:=hE1.o;simpa using this);have H:=qd h2;have HU:=qd hu;have HG:=qd hg;have HF:=qd hf;clear hf hg h2 hu;go_wp2_with (at_mapUpdate;refine qH.halt ?_)
  refine qH.go ?_;refine((H.o.inn a u HU.o).2.1.alloc (.map #[] 0)).wpList_store zm jb (H.o.domA HU.o) (H.o.inn a u HU.o).2.2.1 Tryz.underlying103 (v:=w2.heap.size) (by unfold maxLen;omega) hc rfl rfl (by rfl) (by rfl) (by rfl) ?_;intro w3 h3 t3;have z3:=qP t3;rw[World.size_alloc] at z3;have hp3:=qa ((qA t3 (YN H.o.ptr (H.o.inn a u HU.o).2.1)).trans (qy (o:=.map #[] 0) H.o.ptr)) 0;have l31:=look3 ((H.o.o.alloc (.map #[] 0)).obj (qA t3 (by omega))) H.o.domM ha;rw[HF.o] at l31;have l32:=look2 h3 (yE.upd (v:=w2.heap.size) (H.o.domA HU.o) hc) hc;rw[ja (H.o.inn a u HU.o).2.2.1] at l32;have hi3:Mq w3 w2.heap.size (jl []):=((qG.made w2):Mq _ _ (jl [])).obj (qA t3 (by omega));have l33:=Uh hi3 (by simp) hk;have H3:=qd h3.tight;have T3:=qd t3;have HI:=qd hi3;clear h3 t3 hi3 l1 l2;go_wp2_with (at_mapUpdate;refine qH.halt ?_)
  refine qH.go ?_;refine HI.o.wpList_store zm Yd (by simp[jl,yE]) List.Pairwise.nil Tryz.underlying102 (v:=()) (by simp[jl,maxLen]) hk rfl rfl (by rfl) (by rfl) (by rfl) ?_;intro w4 h4 t4;have H4:=qd h4.tight;have T4:=qd t4;clear h4 t4 l31 l32 l33;go_wp2;go_ret;refine⟨by rw[HE2.o];rfl,by rw[HN2.o];exact⟨_,_,_,_,H.o.edge_new (Nat.le_refl _) HU.o HCN.o HG.o T3.o T4.o H3.o H4.o hk⟩,K2.o.trans ((jP.alloc _ _).trans ((jP.turned T3.o).trans (jP.turned T4.o))),?_⟩;exact B2.o.trans (((Below.refl _ _).alloc (by omega) _).trans ((Below.turned T3.o (by omega)).trans (Below.turned T4.o (by omega))))
end
section
attribute [local irreducible] xL
def UO:Nat->Nat
 |0=>117
 |1=>119
 |2=>120
 |_=>122
def Rg (n:Nat):Nat->Array Value
 |0=>#[.pointer (some ⟨n,0,none⟩)]
 |1=>#[.pointer (some ⟨n+1,0,none⟩),.pointer (some ⟨n+1+1,0,none⟩)]
 |_=>#[.pointer (some ⟨n+1,0,none⟩)]
theorem MO (q:Nat) (args:Array Value) (w:World):(callFunc (UO q) args).run Tryz.prog w=.ok (.enter (UO q) args) w:=by
 match q with
 |0=>exact enters_of Tryz.func117 (by kernel_rfl) rfl args w
 |1=>exact enters_of Tryz.func119 (by kernel_rfl) rfl args w
 |2=>exact enters_of Tryz.func120 (by kernel_rfl) rfl args w
 |q+3=>exact enters_of Tryz.func122 (by kernel_rfl) rfl args w
theorem Ki {w:World} {pW n q:Nat} (h:yA w pW n) (hq:q < 4):w.cell? ⟨n+1+1+1,q*2,none⟩=some (.int .i64 ((q:Int)+1))/\w.cell? ⟨n+1+1+1,q*2+1,none⟩=some (.func (.func (UO q)) #[] (Rg n q)):=by
 have y:=qa h.list
 match q,hq with
 |0,_=>exact⟨y 0,y 1⟩
 |1,_=>exact⟨y 2,y 3⟩
 |2,_=>exact⟨y 4,y 5⟩
 |3,_=>exact⟨y 6,y 7⟩
section
variable {w:World} {lo hi pW bB n:Nat} {lev:Int} {ov vv lv:Value} {ms:List xz} {A:Au} {T:List Bool} {i j:Nat} {m m':xz} {a a':St}
theorem r_rule (h:xN w lo hi pW bB lev ov vv ms lv A T) (hov:∃x y z,ov=.slice x y z) (hvv:∃x y z,vv=.slice x y z) (hd:vB A) (hr:yA w pW n) (h1:ms[i]?=some m) (h2:ms[j]?=some m') (g1:A[i]?=some a) (g2:A[j]?=some a') (q:Nat) (hq:q < 4):
  Calls Tryz.prog (UO q) (#[.pointer (some ⟨m.p,0,none⟩),.pointer (some ⟨m'.p,0,none⟩)]++Rg n q) w fun e w'=>e=.returned (.bool (JS lev T i j a a' q))/\Below w.heap.size w w':=by
 have e1:∀a b c:Value,(#[a,b]++#[c]:Array Value)=#[a,b,c]:=fun a b c=>by simp
 have e2:∀a b c d:Value,(#[a,b]++#[c,d]:Array Value)=#[a,b,c,d]:=fun a b c d=>by simp
 match q,hq with
 |0,_=>have:=r_real h hov hvv hr h1 h2 g1 g2;rw[←e1] at this;exact this
 |1,_=>have:=r_from h hd hr h1 h2 g1 g2;rw[←e2] at this;exact this
 |2,_=>have:=r_write h hd hr h1 h2 g1 g2;rw[←e1] at this;exact this
 |3,_=>have:=r_anti h hd hr h1 h2 g1 g2;rw[←e1] at this;exact this
theorem rule_at (hr:yA w pW n) (hov:∃x y z,ov=.slice x y z) (hvv:∃x y z,vv=.slice x y z) (hd:vB A) (h1:ms[i]?=some m) (h2:ms[j]?=some m') (g1:A[i]?=some a) (g2:A[j]?=some a') {q:Nat} (hq:q < 4):∃(g:Nat) (lb:Array Value),w.cell? ⟨n+1+1+1,q*2,none⟩=some (.int .i64 ((q:Int)+1))/\w.cell? ⟨n+1+1+1,q*2+1,none⟩=some (.func (.func g) #[] lb)/\(∀args w,(callFunc g args).run Tryz.prog w=.ok (.enter g args) w)/\
  ∀W,xN W lo hi pW bB lev ov vv ms lv A T->yA W pW n->Calls Tryz.prog g (#[.pointer (some ⟨m.p,0,none⟩),.pointer (some ⟨m'.p,0,none⟩)]++lb) W fun e w'=>e=.returned (.bool (JS lev T i j a a' q))/\Below W.heap.size W w':=by
 obtain⟨c0,c1⟩:=Ki hr hq;exact⟨_,_,c0,c1,MO q,fun W h hr'=>r_rule h hov hvv hd hr' h1 h2 g1 g2 q hq⟩
def YD (g:Gp):Nat:=g.1.length+g.2.length
theorem Rx (g:Gp) (e:jI):YD (UQ g e)<=YD g+3:=by
 unfold YD UQ;have h1:=zg (n:=e.2.1) (l:=yL e.1 g.1);have h2:=zg (n:=e.1) (l:=g.1);have h3:=Yp (p:=e) (l:=g.2);simp only;omega
theorem NP {k:Nat} {g:Gp}:YD (yP lev T i j a a' g k)<=YD g+3:=by
 unfold yP
 split
 ·exact Rx g _
 ·omega
theorem Qj {α:Type} {f:Gp->α->Gp} {c:Nat} (hf:∀g x,YD (f g x)<=YD g+c):∀(l:List α) (g:Gp),YD (l.foldl f g)<=YD g+c*l.length
 |[],g=>by simp
 |x::l,g=>by
  rw[List.foldl_cons];have h1:=Qj hf l (f g x);have h2:=hf g x;rw[List.length_cons,Nat.mul_add];omega
theorem KI (hal:A.length<=200):(qR lev A T).1.length<=900000/\(qR lev A T).2.length<=900000:=by
 have h1:∀(i:Nat) (a:St) (g:Gp) (j:Nat),YD (yR lev A T i a g j)<=YD g+12:=fun i a g j=>by
  unfold yR
  split
  ·rename_i b hb
   have:=Qj (f:=yP lev T i j a b) (c:=3) (fun g x=>NP) (List.range 4) g;simpa using this
  ·omega
 have h2:∀(g:Gp) (i:Nat),YD (zC lev A T g i)<=YD g+2401:=fun g i=>by
  unfold zC
  split
  ·split
   ·rename_i a ha hl
    have h3:=Qj (f:=yR lev A T i a) (c:=12) (h1 i a) (List.range A.length) (yL a.id g.1,g.2);have h4:YD (yL a.id g.1,g.2)<=YD g+1:=by
     unfold YD;have:=zg (n:=a.id) (l:=g.1);simp only;omega
    rw[List.length_range] at h3;have:12*A.length<=2400:=by omega
    omega
   ·omega
  ·omega
 have h5:=Qj (f:=zC lev A T) (c:=2401) h2 (List.range A.length) ([],[]);rw[List.length_range] at h5;have h6:YD (qR lev A T)<=2401*A.length:=by
  unfold qR;simpa[YD] using h5
 have h7:2401*A.length<=900000:=by omega
 unfold YD at h6;omega
theorem f_graph (h:xN w lo hi pW bB lev ov vv ms lv A T) (hov:∃x y z,ov=.slice x y z) (hvv:∃x y z,vv=.slice x y z) (hd:vB A) (hids:∀s ∈ A,dI s.id) (hal:A.length<=200) (hhi:hi<=w.heap.size):
  Calls Tryz.prog 36 #[.pointer (some ⟨pW,0,none⟩)] w fun e w'=>∃p,e=.returned (.pointer (some ⟨p,0,none⟩))/\jj w' w.heap.size w'.heap.size p (qR lev A T).1 (qR lev A T).2/\Below w.heap.size w w':=by
 have HH:=qd h;have HOV:=qd hov;have HVV:=qd hvv;have HD:=qd hd;have HID:=qd hids;obtain⟨al,cl,hlv⟩:=qj.sli h.lst;subst hlv;have hml:ms.length=A.length:=h.len;have hml2:ms.length<=200:=by omega
 have HML:=qd hml;have rw0:=h.row;have y0:=qa rw0;have y2:=y0 3;simp at y2;have yl:=qe rw0;clear h hov hvv hd hids hml y0;go_enter Tryz.func36,Tryz.ntmps36;go_wp2_with fail;refine(gr_new w).mono ?_;rintro e W1 ⟨p,rfl,hg1,b1⟩;have F1:=qd (HH.o.below b1 hhi (Nat.le_refl _));have G1:=qd hg1;have B1:=qd b1;have hz1:=b1.size;have hpl:=hg1.lt;clear hg1 b1;go_wp2_with fail;refine(r_rules W1 pW).mono ?_;rintro e W2 ⟨rfl,hr2,b2⟩;have F2:=qd (F1.o.below b2 (by omega) (Nat.le_refl _));have G2:=qd (G1.o.below b2 (Nat.le_refl _));have R2:=qd hr2;have B2:=qd (B1.o.trans (b2.mono hz1));have hz2:=b2.size;have hR2:W1.heap.size+1+1+1 < W2.heap.size:=qe hr2.list;have G2r:=qd (G2.o.raise hz2);clear hr2 b2 F1 G1 B1 G2;generalize W1.heap.size=nR at *;have rw2:=F2.o.row;have yq:=qa rw2 3;simp at yq;have yql:=qe rw2;clear rw2 rw0 y2 yl;go_wp2_with fail
 go_loopw [19] (fun q wr=>∃(k:Nat),k<=ms.length/\q=.int .i64 k/\xN wr lo hi pW bB lev ov vv ms (.slice al ms.length cl) A T/\yA wr pW nR/\jj wr w.heap.size wr.heap.size p ((List.range k).foldl (zC lev A T) ([],[])).1 ((List.range k).foldl (zC lev A T) ([],[])).2/\YD ((List.range k).foldl (zC lev A T) ([],[]))<=2500*k/\Below w.heap.size w wr/\nR+1+1+1 < wr.heap.size) (fun q _=>ms.length - (intOf q).toNat)
 case atStart=>exact⟨0,by omega,by go_num,F2.o,R2.o,G2r.o,by simp[YD],B2.o,hR2⟩
 case round=>
  obtain⟨k,hk,rfl,hF,hR,hG,hgz,hB,hzr⟩:=hrel;obtain⟨g,hgd⟩:∃g,(List.range k).foldl (zC lev A T) ([],[])=g:=⟨_,rfl⟩
  rw[hgd] at hG hgz;have HGD:=qd hgd;have HF:=qd hF;have HR:=qd hR;have HG:=qd hG;have HB:=qd hB;have hwz:=hB.size;have hgz':g.1.length+g.2.length<=2500*k:=hgz;clear hgd hF hR hG hB F2 R2 G2r B2 hR2 hgz;by_cases hlt:k < ms.length
  ·obtain ⟨bl,ol,m,hqe,hbl,hmk,hcl⟩:=(qj.sl HF.o.lst).atF xz.len rfl hlt
   subst hqe;have c0:wr.cell? ⟨bl,ol+k,none⟩=some (.pointer (some ⟨m.p,0,none⟩)):=by have:=hcl 0 (by decide);simpa[xz.cells,xE] using this
   obtain⟨m0,s,g1,hsk,hMv⟩:=HF.o.get (k:=k) (by have:=HML.o;omega);rw[hmk] at g1;obtain rfl:=Option.some.inj g1;have HMK:=qd hmk;have HSK:=qd hsk;have ym:=qa hMv.row;have ym0:=ym 0;have ym9:=ym 9;simp at ym0 ym9;have yml:=qe hMv.row;have HRG:=qd (show(List.range (k+1)).foldl (zC lev A T) ([],[])=zC lev A T g k by rw[List.range_succ,List.foldl_append,HGD.o];rfl);obtain⟨lk,hlk⟩:∃lk,qZ lev T k=lk:=⟨_,rfl⟩
   rw[hlk] at ym9;have HLK:=qd hlk;clear hmk hsk hMv ym hcl hlk;cases lk with
   |false=>
    go_wp2_with fail;go_roundw
    case rel=>
     have e:zC lev A T g k=g:=by unfold zC;rw[HSK.o];simp only[HLK.o,Bool.false_eq_true,if_false]
     refine⟨k+1,by omega,by go_num,HF.o,HR.o,?_,?_,HB.o,hzr⟩
     ·rw [HRG.o,e];exact HG.o
     ·rw [HRG.o,e];show g.1.length+g.2.length<=_;omega
    case measure=>simp[intOf];omega
   |true=>
    have hsid:=HID.o s (List.mem_of_getElem? HSK.o);have NC:=qd (Vf HG.o (Nat.le_refl _) (by omega) s.id hsid);have hNe:=zg (n:=s.id) (l:=g.1);clear hsid;go_wp2_with fail;refine(NC.o).mono ?_;rintro e W3 ⟨rfl,hg3,k3,b3⟩;have hz3:=k3.size;have F3:=qd (HF.o.below b3 hhi (Nat.le_refl _));have R3:=qd (show yA W3 pW nR from⟨k3.cells HR.o.wd,k3.cells HR.o.same,k3.cells HR.o.any_,k3.cells HR.o.list⟩);have G3:=qd hg3;have B3:=qd (HB.o.trans (b3.mono (Nat.le_refl _)));obtain⟨g3,hg3d⟩:∃g3:Gp,(yL s.id g.1,g.2)=g3:=⟨_,rfl⟩
    have HN1:=qd (show zC lev A T g k=(List.range A.length).foldl (yR lev A T k s) g3 by unfold zC;rw[HSK.o,←hg3d];simp only[HLK.o,if_true]);have hg3z:g3.1.length+g3.2.length<=2500*k+1:=by rw[←hg3d];simp only;omega
    have G3:=qd (show jj W3 w.heap.size W3.heap.size p g3.1 g3.2 by rw[←hg3d];exact G3.o);have hzr3:nR+1+1+1 < W3.heap.size:=by omega
    clear hg3 k3 b3 NC HF HR HG HB hg3d hNe ym0 ym9 yml c0;have rw3:=F3.o.row;have yq:=qa rw3 3;simp at yq;have yql:=qe rw3;clear rw3;go_wp2_with fail
    go_loopw [40] (fun q wq=>∃(j:Nat),j<=ms.length/\q=.int .i64 j/\xN wq lo hi pW bB lev ov vv ms (.slice (some ⟨bl,ol,none⟩) ms.length cl) A T/\yA wq pW nR/\jj wq w.heap.size wq.heap.size p ((List.range j).foldl (yR lev A T k s) g3).1 ((List.range j).foldl (yR lev A T k s) g3).2/\YD ((List.range j).foldl (yR lev A T k s) g3)<=2500*k+1+12*j/\Below w.heap.size w wq/\nR+1+1+1 < wq.heap.size) (fun q _=>ms.length - (intOf q).toNat)
    case atStart=>exact⟨0,by omega,by go_num,F3.o,R3.o,G3.o,by simpa[YD] using hg3z,B3.o,hzr3⟩
    case round=>
     obtain⟨j,hj,rfl,hF,hR,hG,hgz,hB,hzr⟩:=hrel;obtain⟨g4,hg4⟩:∃g4,(List.range j).foldl (yR lev A T k s) g3=g4:=⟨_,rfl⟩
     rw[hg4] at hG hgz;have HG4:=qd hg4;have HF:=qd hF;have HR:=qd hR;have HG:=qd hG;have HB:=qd hB;have hwz:=hB.size;clear hg4 hF hR hG hB F3 R3 G3 B3 hzr3 yq yql;by_cases hlt2:j < ms.length
     ·obtain ⟨bl2,ol2,m',hqe,hbl2,hmj,hcl⟩:=(qj.sl HF.o.lst).atF xz.len rfl hlt2
      simp only[Option.some.injEq,Addr.mk.injEq,and_true] at hqe;obtain⟨rfl,rfl⟩:=hqe;have c0:wr.cell? ⟨bl,ol+j,none⟩=some (.pointer (some ⟨m'.p,0,none⟩)):=by have:=hcl 0 (by decide);simpa[xz.cells,xE] using this
      obtain⟨m0,s',g1,hsj,hMv⟩:=HF.o.get (k:=j) (by have:=HML.o;omega);rw[hmj] at g1;obtain rfl:=Option.some.inj g1;have HMJ:=qd hmj;have HSJ:=qd hsj;have HRE:=qd (show(List.range (j+1)).foldl (yR lev A T k s) g3=yR lev A T k s g4 j by rw[List.range_succ,List.foldl_append,HG4.o];rfl);have HE1:=qd (show yR lev A T k s g4 j=(List.range 4).foldl (yP lev T k j s s') g4 by unfold yR;rw[HSJ.o]);clear hmj hsj hMv hcl;go_wp2_with fail
      go_loopw [46] (fun r wq=>∃(q:Nat),q<=4/\r=.int .i64 q/\xN wq lo hi pW bB lev ov vv ms (.slice (some ⟨bl,ol,none⟩) ms.length cl) A T/\yA wq pW nR/\jj wq w.heap.size wq.heap.size p ((List.range q).foldl (yP lev T k j s s') g4).1 ((List.range q).foldl (yP lev T k j s s') g4).2/\YD ((List.range q).foldl (yP lev T k j s s') g4)<=2500*k+1+12*j+3*q/\Below w.heap.size w wq/\nR+1+1+1 < wq.heap.size) (fun r _=>4 - (intOf r).toNat)
      case atStart=>exact⟨0,by omega,by go_num,HF.o,HR.o,HG.o,by simpa using hgz,HB.o,hzr⟩
      case round=>
       obtain⟨q,hq,rfl,hF,hR,hG,hgz2,hB,hzr⟩:=hrel;obtain⟨g5,hg5⟩:∃g5,(List.range q).foldl (yP lev T k j s s') g4=g5:=⟨_,rfl⟩
       rw[hg5] at hG hgz2;have HG5:=qd hg5;have HF:=qd hF;have HR:=qd hR;have HG:=qd hG;have HB:=qd hB;have hwz:=hB.size;have hgz3:g5.1.length+g5.2.length<=2500*k+1+12*j+3*q:=hgz2;clear hg5 hF hR hG hB hgz2 c0;by_cases hq4:q < 4
       ·obtain ⟨gq,lbq,k0,k1,eg,hRQ⟩:=rule_at (w:=wr) (lo:=lo) (hi:=hi) (bB:=bB) (lev:=lev) (lv:=.slice (some ⟨bl,ol,none⟩) ms.length cl) (T:=T) HR.o HOV.o HVV.o HD.o HMK.o HMJ.o HSK.o HSJ.o hq4
        have HRQ:=qd (show(List.range (q+1)).foldl (yP lev T k j s s') g4=yP lev T k j s s' g5 q by rw[List.range_succ,List.foldl_append,HG5.o];rfl);have BC:=qd (show Below wr.heap.size wr (wr.alloc (.cells #[.int .i64 ((q:Int)+1),.func (.func gq) #[] lbq] 168)) from(Below.refl _ wr).alloc (Nat.le_refl _) _);have rC:=qs wr (.cells #[.int .i64 ((q:Int)+1),.func (.func gq) #[] lbq] 168);have RCR:=qd rC;have FC:=qd (HF.o.below BC.o (by omega) (Nat.le_refl _));have RCc:=qd (HR.o.below BC.o (by omega));have hzc:wr.heap.size < (wr.alloc (.cells #[.int .i64 ((q:Int)+1),.func (.func gq) #[] lbq] 168)).heap.size:=qe rC;have GC:=qd ((HG.o.below BC.o (Nat.le_refl _)).raise (Nat.le_of_lt hzc));have BWC:=qd (HB.o.trans (BC.o.mono hwz));have RQ:=qd (hRQ _ FC.o RCc.o);have rj:=(FC.o.mv j m' s' HMJ.o HSJ.o).row;have rk:=(FC.o.mv k m s HMK.o HSK.o).row;have HRJ:=qd rj;have HRK:=qd rk;have z9:=qa rj 9;simp at z9;have zl:=qe rj;have yl:=qe rk;have hpn:=YM rk rj;have HPK:=qd (show m.p=m'.p↔k=j from⟨fun e=>FC.o.inj k j m m' HMK.o HMJ.o e,fun e=>by subst e;have h1:=HMK.o;rw[HMJ.o] at h1;rw[Option.some.inj h1]⟩);have w0:(wr.alloc (.cells #[.int .i64 ((q:Int)+1),.func (.func gq) #[] lbq] 168)).cell? ⟨wr.heap.size,0,none⟩=some (.int .i64 ((q:Int)+1)):=qa rC 0;have w1:(wr.alloc (.cells #[.int .i64 ((q:Int)+1),.func (.func gq) #[] lbq] 168)).cell? ⟨wr.heap.size,1,none⟩=some (.func (.func gq) #[] lbq):=qa rC 1;obtain⟨lj,hlj⟩:∃lj,qZ lev T j=lj:=⟨_,rfl⟩
        rw[hlj] at z9;have HLJ:=qd hlj;clear rj rk rC hlj hRQ BC HF HR HG HB;cases lj with
        |false=>
         go_wp2_with fail;generalize wr.alloc (.cells #[.int .i64 ((q:Int)+1),.func (.func gq) #[] lbq] 168)=Wc at *;go_roundw
         case rel=>
          have e:yP lev T k j s s' g5 q=g5:=by unfold yP;rw[if_neg];rw[HLJ.o];simp
          refine⟨q+1,by omega,by go_num,FC.o,RCc.o,?_,?_,BWC.o,by omega⟩
          ·rw [HRQ.o,e];exact GC.o
          ·rw [HRQ.o,e];show g5.1.length+g5.2.length<=_;omega
         case measure=>simp[intOf];omega
        |true=>
         by_cases hkj:k=j
         ·rw [show decide (m.p=m'.p)=true by simpa using HPK.o.2 hkj] at hpn
          simp only[Bool.not_true] at hpn;have HNE:=qd hkj;clear hkj;go_wp2_with fail;generalize wr.alloc (.cells #[.int .i64 ((q:Int)+1),.func (.func gq) #[] lbq] 168)=Wc at *;go_roundw
          case rel=>
           have e:yP lev T k j s s' g5 q=g5:=by unfold yP;rw[if_neg];rw[HNE.o];simp
           refine⟨q+1,by omega,by go_num,FC.o,RCc.o,?_,?_,BWC.o,by omega⟩
           ·rw [HRQ.o,e];exact GC.o
           ·rw [HRQ.o,e];show g5.1.length+g5.2.length<=_;omega
          case measure=>simp[intOf];omega
         ·rw [show decide (m.p=m'.p)=false by simpa using fun e=>hkj (HPK.o.1 e)] at hpn
          simp only[Bool.not_false] at hpn;have HNE:=qd hkj;clear hkj;go_wp2_with fail;generalize wr.alloc (.cells #[.int .i64 ((q:Int)+1),.func (.func gq) #[] lbq] 168)=Wc at *;refine(RQ.o).mono ?_;rintro e W4 ⟨rfl,b4⟩;obtain⟨rq,hrq⟩:∃rq,JS lev T k j s s' q=rq:=⟨_,rfl⟩
          rw[hrq];have HRK2:=qd hrq;have F4:=qd (FC.o.below b4 (by have:=BWC.o.size;omega) (Nat.le_refl _));have R4:=qd (RCc.o.below b4 (by omega));have hz4:=b4.size;have G4:=qd ((GC.o.below b4 (Nat.le_refl _)).raise hz4);have B4:=qd (BWC.o.trans (b4.mono BWC.o.size));have rk4:=qh HRK.o b4 (qe HRK.o);have rj4:=qh HRJ.o b4 (qe HRJ.o);have rc4:=qh RCR.o b4 hzc;have yk:=qa rk4 0;have yj:=qa rj4 0;have yc:=qa rc4 0;simp at yk yj yc;have ykl:=qe rk4;have yjl:=qe rj4;have ycl:=qe rc4;clear hrq b4 rk4 rj4 rc4 FC RCc GC BWC RQ hpn z9 zl yl w0 w1 k0 k1;cases rq with
          |false=>
           go_wp2_with fail;go_roundw
           case rel=>
            have e:yP lev T k j s s' g5 q=g5:=by unfold yP;rw[if_neg];rw[HRK2.o];simp
            refine⟨q+1,by omega,by go_num,F4.o,R4.o,?_,?_,B4.o,by omega⟩
            ·rw [HRQ.o,e];exact G4.o
            ·rw [HRQ.o,e];show g5.1.length+g5.2.length<=_;omega
           case measure=>simp[intOf];omega
          |true=>
           have hik:=HID.o s (List.mem_of_getElem? HSK.o);have hij:=HID.o s' (List.mem_of_getElem? HSJ.o);have EC:=qd (gr_edge (w:=W4.drew) (G4.o.below (Below.refl _ W4).drew (Nat.le_refl _)) (Nat.le_refl _) (by omega) (by omega) s.id s'.id ((q:Int)+1) hik hij (by unfold dI Lit.wf;simp[IntKind.min,IntKind.max,IntKind.bits,IntKind.signed];omega));clear hik hij;go_wp2_with fail;refine qD (W4.heap.size) [0,0,0,0,0,1,0,0,0,0,1,0,1,2] (.fin [0,1,2,3,4,5,6,7,8,9,10,11,12,13]) (by kernel_rfl) ?_;simp only[xC,qJ,qu,sD,sE,sF,sG]
           repeat first|(refine qq fun K hK=>?_;go_simp;refine hK _ _ ?_;clear hK K)|(apply qx;(intro w2 hw2;have hk1:=hw2.cell;have hk3:=hw2.1;clear hw2;go_simp;with_reducible rfl);simp only[Act.put,sA,sB,sC])
           refine qF (fun K hK=>?_);go_simp;refine(EC.o).mono ?_;rintro e W5 ⟨rfl,hg6,k6,b6⟩;refine hK _ _ ?_;clear hK K;have k6:jP W4 W5:=⟨k6.size,fun i o hi ho=>k6.obj i o hi ho⟩
           have F6:=qd (F4.o.below (show Below w.heap.size W4 W5 from(Below.refl _ W4).drew.trans b6) hhi (Nat.le_refl _));have R6:=qd (show yA W5 pW nR from⟨k6.cells R4.o.wd,k6.cells R4.o.same,k6.cells R4.o.any_,k6.cells R4.o.list⟩);have B6:=qd (B4.o.trans ((Below.refl _ W4).drew.trans b6));have hz6:=k6.size;have hput:=Rx g5 (s.id,s'.id,((q+1:Nat):Int));have HED:=qd (show yP lev T k j s s' g5 q=UQ g5 (s.id,s'.id,((q+1:Nat):Int)) by unfold yP;rw[if_pos];rw[HLJ.o,HRK2.o];simp[HNE.o]);have G6:=qd (show jj W5 w.heap.size W5.heap.size p (UQ g5 (s.id,s'.id,((q+1:Nat):Int))).1 (UQ g5 (s.id,s'.id,((q+1:Nat):Int))).2 from by
            have e1:((q+1:Nat):Int)=(q:Int)+1:=by omega
            rw[e1];exact hg6)
           clear hg6 k6 b6 EC
           repeat first|(refine qq fun K hK=>?_;go_simp;refine hK _ _ ?_;clear hK K)|refine qm ?_
           go_wp2_with fail;go_roundw
           case rel=>
            refine⟨q+1,by omega,by go_num,F6.o,R6.o,?_,?_,B6.o,by omega⟩
            ·rw [HRQ.o,HED.o];exact G6.o
            ·rw [HRQ.o,HED.o];have:YD g5=g5.1.length+g5.2.length:=rfl;omega
           case measure=>simp[intOf];omega
       ·obtain rfl:q=4:=by omega
        go_wp2_with fail;go_roundw
        case rel=>
         refine⟨j+1,by omega,by go_num,HF.o,HR.o,?_,?_,HB.o,hzr⟩
         ·rw [HRE.o,HE1.o,HG5.o];exact HG.o
         ·rw [HRE.o,HE1.o,HG5.o];show g5.1.length+g5.2.length<=_;omega
        case measure=>simp[intOf];omega
     ·obtain rfl:j=ms.length:=by omega
      have hq:decide ((ms.length:Int) < (ms.length:Int))=false:=by simp
      have hgz3:g4.1.length+g4.2.length<=2500*k+1+12*ms.length:=hgz;have HNE:=qd (show zC lev A T g k=g4 by rw[HN1.o,←HML.o];exact HG4.o);go_wp2_with fail;go_roundw
      case rel=>
       refine⟨k+1,by omega,by go_num,HF.o,HR.o,?_,?_,HB.o,hzr⟩
       ·rw [HRG.o,HNE.o];exact HG.o
       ·rw [HRG.o,HNE.o];show g4.1.length+g4.2.length<=_;omega
      case measure=>simp[intOf];omega
  ·obtain rfl:k=ms.length:=by omega
   have hq:decide ((ms.length:Int) < (ms.length:Int))=false:=by simp
   have HGE:=qd (show qR lev A T=g by unfold qR;rw[←HML.o];exact HGD.o);go_wp2_with fail;go_ret;exact⟨p,rfl,by rw[HGE.o];exact HG.o,HB.o⟩
end
end
abbrev Qa (w:World) (b:Nat) (M:List (Int×Int)):Prop:=qG Tryz.prog 3 Mm (.int .i64) (fun n:Int=>.lit (.int .i64 n)) w b M.length M
section
variable {P:Program} {K:TypeId} {R:Ms} {kl:Int->Lit} {ε:Type} {ed:ε->DU} {w w':World} {q n b r cnt:Nat} {L:List (Int×ε)} {S:Int->Bool}
variable {α:Type} {f:α->List Value} {e:TypeId} {sz B:Nat} {v v':Value} {l:List α}
def Jj (w:World) (r:Nat):Prop:=∃m since seen c0,w.heap[r]?=some (.mapIter m since seen c0)
theorem uS.iterAt (h:uS P K R kl ed w b r n L S cnt):Jj w r:=let ⟨s,s2,c,hr⟩:=h.iter;⟨_,s,s2,c,hr⟩
theorem qG.nextK (h:qG P K R kl ed w q n L) (hi:Jj w r) (hg:w.grownBy w' (some r)):qG P K R kl ed w' q n L:=by
 obtain⟨es,c,hb,-⟩:=id h;refine h.obj (hg.block q h.lt fun e=>?_);cases e;obtain⟨m,s,s2,c,hr⟩:=hi;rw[hb] at hr;cases hr
theorem qj.nextK (h:qj f e sz w B v l) (hi:Jj w r) (hg:w.grownBy w' (some r)):qj f e sz w' B v l:=by
 refine h.kept hg ?_;refine .inr fun e=>?_;obtain⟨cs,hcs⟩:=h.keepObj r e;obtain⟨m,s,s2,c,hr⟩:=hi;rw[hcs] at hr;cases hr
theorem uS.nextK {r':Nat} (h:uS P K R kl ed w b r n L S cnt) (hi:Jj w r') (hne:r≠r') (hg:w.grownBy w' (some r')):uS P K R kl ed w' b r n L S cnt:=by
 refine h.obj (hg.block b h.owns.lt fun e=>?_) (hg.block r h.lt fun e=>hne (Option.some.inj e));cases e;obtain⟨es,c,hb,-⟩:=id h.owns;obtain⟨m,s,s2,c,hr⟩:=hi;rw[hb] at hr;cases hr
theorem qG.none (h:qG P K R kl ed w q n L) (hg:w.grownBy w' Option.none):qG P K R kl ed w' q n L:=h.obj (hg.block q h.lt (by simp))
theorem qj.none (h:qj f e sz w B v l) (hg:w.grownBy w' Option.none):qj f e sz w' B v l:=h.kept hg (by cases v.ownBlock <;> simp)
theorem uS.none (h:uS P K R kl ed w b r n L S cnt) (hg:w.grownBy w' Option.none):uS P K R kl ed w' b r n L S cnt:=h.obj (hg.block b h.owns.lt (by simp)) (hg.block r h.lt (by simp))
theorem qG.grw (h:qG P K R kl ed w q n L) (ho:qj f e sz w B v l) (hg:Yz w w' v v'):qG P K R kl ed w' q n L:=by
 obtain⟨es,c,hb,-⟩:=id h;refine h.obj (hg.grown.block q h.lt fun e=>?_);obtain⟨cs,hcs⟩:=ho.keepObj q e.symm;rw[hb] at hcs;cases hcs
theorem uS.grw (h:uS P K R kl ed w b r n L S cnt) (ho:qj f e sz w B v l) (hg:Yz w w' v v'):uS P K R kl ed w' b r n L S cnt:=by
 obtain⟨s,s2,c,hr⟩:=h.iter;obtain⟨es,c,hb,-⟩:=id h.owns;refine h.obj (hg.grown.block b h.owns.lt fun e=>?_) (hg.grown.block r h.lt fun e=>?_)
 ·obtain ⟨cs,hcs⟩:=ho.keepObj b e.symm
  rw[hb] at hcs;cases hcs
 ·obtain ⟨cs,hcs⟩:=ho.keepObj r e.symm
  rw[hr] at hcs;cases hcs
theorem qj.turn (h:qj f e sz w B v l) {q':Nat} (ht:w.mapTurned w' q'):qj f e sz w' B v l:=h.keepC (jP.turned ht)
theorem uS.turn (h:uS P K R kl ed w b r n L S cnt) {q':Nat} (ht:w.mapTurned w' q') (hne:b≠q'):uS P K R kl ed w' b r n L S cnt:=by
 obtain⟨s,s2,c,hr⟩:=h.iter;refine h.obj (qA ht hne) (qA ht ?_);rintro rfl;obtain⟨es,c,es',c',hb,-⟩:=ht;rw[hr] at hb;cases hb
end
