/- Parts of the proof, merged by program out of 7 texts (GrF, FtI, GrG, GrR, Spoil, Low, GrH): the first: What the program's graphs do: New, Node, Edge, Has, Nodes, Out, Kinds. Conditions: those of each theorem, as typed. -/
import Derived.Test.YtcpfbphcldocpaaGreatDoorQF24
import Derived.Test.YtcpfbphcldocpaaGreatDoorQF21
import Derived.Deep.LoopGhost
import Derived.Test.YtcpfbphcldocpaaGreatDoorQF23
import Derived.OneCell
set_option linter.unusedVariables false
set_option linter.unusedSimpArgs false
set_option linter.unusedSectionVars false
set_option maxRecDepth 100000
set_option maxHeartbeats 4000000
namespace Go.Proofs.YtcpfbphcldocpaaGreatDoor
open Go.Maps Go.RowKit
theorem gr_new (w:World):Calls Tryz.prog 70 #[] w fun e w'=>∃p,e=.returned (.pointer (some ⟨p,0,none⟩))∧GrAt w' w.heap.size w'.heap.size p [] []∧Below w.heap.size w w':=by
 have hmm:=@run_makeMap Tryz.prog
 go_enter Tryz.func70,Tryz.ntmps70
 go_wp2
 go_ret
 refine⟨_,rfl,⟨w.heap.size,fun _=>0,[],fun _=>[],?_⟩,((Below.refl _ _).alloc (Nat.le_refl _) _).alloc (by simp) _⟩
 exact⟨row_new' (by simp),by simp,by simp;omega,(IsMapK.made w).alloc _,List.Pairwise.nil,rfl,fun _ _ h=>by simp at h,fun _ _ _ _ h=>by simp at h,fun _ _ _ _ _ h=>by simp at h,GrOk.nil,fun _ h=>by simp at h,fun _ h=>by simp at h⟩
section
variable {w:World} {lo hi p:Nat} {N:List Int} {E:List Trp}
theorem gr_node (h:GrAt w lo hi p N E) (hhi:hi≤w.heap.size) (hN:N.length≤1000000) (a:Int) (ha:dI a):Calls Tryz.prog 72 #[.pointer (some ⟨p,0,none⟩),.int .i64 a] w fun e w'=>
  e=.returned (.bool (decide (a ∉ N)))∧GrAt w' lo w'.heap.size p (insI a N) E∧Keep w w'∧Below lo w w':=by
 obtain⟨b,ow,M,A,h⟩:=h
 have hp:=row_cell h.ptr 0
 have hlo:=h.hb
 have q:∀(w:World) (r:Option Nat),(binOp .neq 103 (.map r) (.map none)).run Tryz.prog w=.ok (.bool !r.isNone) w:=fun w r=>run_neq_map_nil w _ _ _ r Tryz.underlying103
 have hmm:=@run_makeMap Tryz.prog
 cases hf:fnd a M with
 |some u=>
  have l1:=h.look ha hf
  have hin:=h.inN (h.here hf)
  have E1:=hid (show decide (a ∉ N)=false by simpa using hin)
  have E2:=hid (insI_of_mem h.ok.srtN hin)
  have H:=hid h
  clear h hf hin
  go_enter Tryz.func72,Tryz.ntmps72
  go_wp2
  go_ret
  exact⟨by rw[E1.out];rfl,by rw[E2.out];exact⟨b,ow,M,A,H.out.raise hhi⟩,Keep.refl _,Below.refl _ _⟩
 |none=>
  have l1:=h.look ha hf
  have hout:=h.gone hf
  have E1:=hid (show decide (a ∉ N)=true by simpa using hout)
  have hM:=h.lenM
  have hMl:M.length≤1000000:=by omega
  have H:=hid h
  have HF:=hid hf
  clear h hf hout hM
  go_enter Tryz.func72,Tryz.ntmps72
  go_wp2_with (at_mapUpdate;refine Stop.halt ?_)
  refine Stop.go ?_
  refine(H.out.out.alloc (.map #[] 0)).wpList_store keyI elem_map H.out.domM H.out.srtM Tryz.underlying104 (v:=w.heap.size) (by unfold maxLen;omega) ha rfl rfl (by rfl) (by rfl) (by rfl) ?_
  intro w1 h1 t1
  have H1:=hid h1.tight
  have T1:=hid t1
  have z1:=turned_size t1
  clear h1 t1
  go_wp2
  go_ret
  exact⟨by rw[E1.out];rfl,⟨_,_,_,_,H.out.node_new hhi HF.out T1.out H1.out ha⟩,(Keep.alloc _ _).trans (Keep.turned T1.out),((Below.refl _ _).alloc (by omega) _).trans (Below.turned T1.out (by omega))⟩
theorem gr_nodes (h:GrAt w lo hi p N E) (hN:N.length≤1000000):Calls Tryz.prog 109 #[.pointer (some ⟨p,0,none⟩)] w fun e w'=>∃v,e=.returned v∧OwnI w' w.heap.size v N∧Below w.heap.size w w':=by
 obtain⟨b,ow,M,A,h⟩:=h
 have hp:=row_cell h.ptr 0
 have hM:=h.lenM
 have hMl:M.length≤1000000:=by omega
 have H:=hid h
 clear h hM
 go_enter Tryz.func109,Tryz.ntmps109
 go_wp2_with fail
 refine(keysG (some b) _).mono ?_
 rintro e w1 ⟨rfl,rfl⟩
 go_wp2_with fail
 refine(sortedG H.out.out H.out.srtM hMl).mono ?_
 rintro e w1 ⟨v,rfl,h1,h2⟩
 rw[H.out.keys] at h1
 have H1:=hid h1
 have H2:=hid h2
 clear h1 h2
 go_wp2
 go_ret
 exact⟨v,rfl,H1.out.base (by omega),((Below.refl _ _).alloc (Nat.le_refl _) _).trans (H2.out.mono (by omega))⟩
theorem gr_out (h:GrAt w lo hi p N E) (hE:E.length≤1000000) (a:Int) (ha:dI a):Calls Tryz.prog 114 #[.pointer (some ⟨p,0,none⟩),.int .i64 a] w fun e w'=>∃v,e=.returned v∧OwnI w' w.heap.size v (row (prs E) a)∧Below w.heap.size w w':=by
 obtain⟨b,ow,M,A,h⟩:=h
 have hp:=row_cell h.ptr 0
 cases hf:fnd a M with
 |none=>
  have l1:=h.look ha hf
  have hr:=hid (h.gone_row hf)
  clear hf h
  go_enter Tryz.func114,Tryz.ntmps114
  go_wp2_with fail
  refine(keysM none _).mono ?_
  rintro e w1 ⟨rfl,rfl⟩
  go_wp2_with fail
  refine(sortedM_nil w).mono ?_
  rintro e w1 ⟨v,rfl,h1,h2⟩
  have H1:=hid h1
  have H2:=hid h2
  clear h1 h2
  go_wp2
  go_ret
  exact⟨v,rfl,by rw[hr.out];exact H1.out.base (by omega),((Below.refl _ _).alloc (Nat.le_refl _) _).trans (H2.out.mono (by omega))⟩
 |some u=>
  have l1:=h.look ha hf
  have hu:=h.here hf
  have hl:=h.lenA hu
  have hAl:(A a).length≤1000000:=by omega
  have H:=hid (h.inn a u hu).2
  clear hf hu h hl
  go_enter Tryz.func114,Tryz.ntmps114
  go_wp2_with fail
  refine(keysM (some u) _).mono ?_
  rintro e w1 ⟨rfl,rfl⟩
  go_wp2_with fail
  refine(sortedM H.out.1 H.out.2.1 hAl).mono ?_
  rintro e w1 ⟨v,rfl,h1,h2⟩
  rw[H.out.2.2] at h1
  have H1:=hid h1
  have H2:=hid h2
  clear h1 h2
  go_wp2
  go_ret
  exact⟨v,rfl,H1.out.base (by omega),((Below.refl _ _).alloc (Nat.le_refl _) _).trans (H2.out.mono (by omega))⟩
theorem gr_kinds (h:GrAt w lo hi p N E) (hE:E.length≤1000000) (a c:Int) (ha:dI a) (hc:dI c):Calls Tryz.prog 12 #[.pointer (some ⟨p,0,none⟩),.int .i64 a,.int .i64 c] w fun e w'=>∃v,e=.returned v∧OwnI w' w.heap.size v (kindsOf E a c)∧Below w.heap.size w w':=by
 obtain⟨b,ow,M,A,h⟩:=h
 have hp:=row_cell h.ptr 0
 have n2:=look_none2 (w:=w) hc
 cases hf:fnd a M with
 |none=>
  have l1:=h.look ha hf
  have hr:=hid (kinds_nil (E:=E) (a:=a) (b:=c) (by rw[h.gone_row hf];simp))
  clear hf h
  go_enter Tryz.func12,Tryz.ntmps12
  go_wp2_with fail
  refine(keysB none _).mono ?_
  rintro e w1 ⟨rfl,rfl⟩
  go_wp2_with fail
  refine(sortedB_nil w).mono ?_
  rintro e w1 ⟨v,rfl,h1,h2⟩
  have H1:=hid h1
  have H2:=hid h2
  clear h1 h2
  go_wp2
  go_ret
  exact⟨v,rfl,by rw[hr.out];exact H1.out.base (by omega),((Below.refl _ _).alloc (Nat.le_refl _) _).trans (H2.out.mono (by omega))⟩
 |some u=>
  have l1:=h.look ha hf
  have hu:=h.here hf
  cases hg:fnd c (A a) with
  |none=>
   have l2:=h.lookA hu hc hg
   have hr:=hid (kinds_nil (E:=E) (a:=a) (b:=c) (h.goneA hu hg))
   clear hf hg hu h
   go_enter Tryz.func12,Tryz.ntmps12
   go_wp2_with fail
   refine(keysB none _).mono ?_
   rintro e w1 ⟨rfl,rfl⟩
   go_wp2_with fail
   refine(sortedB_nil w).mono ?_
   rintro e w1 ⟨v,rfl,h1,h2⟩
   have H1:=hid h1
   have H2:=hid h2
   clear h1 h2
   go_wp2
   go_ret
   exact⟨v,rfl,by rw[hr.out];exact H1.out.base (by omega),((Below.refl _ _).alloc (Nat.le_refl _) _).trans (H2.out.mono (by omega))⟩
  |some u2=>
   have l2:=h.lookA hu hc hg
   have hm:=hid (h.leaf a u c u2 hu (h.hereA hu hg)).2
   have hs:=hid (units_srt (srt_kindsOf h.ok.srtE a c))
   have hl:=length_kindsOf E a c
   clear hf hg hu h
   go_enter Tryz.func12,Tryz.ntmps12
   go_wp2_with fail
   refine(keysB (some u2) _).mono ?_
   rintro e w1 ⟨rfl,rfl⟩
   go_wp2_with fail
   refine(sortedB hm.out hs.out (by rw[units_length];omega)).mono ?_
   rintro e w1 ⟨v,rfl,h1,h2⟩
   rw[units_keys] at h1
   have H1:=hid h1
   have H2:=hid h2
   clear h1 h2
   go_wp2
   go_ret
   exact⟨v,rfl,H1.out.base (by omega),((Below.refl _ _).alloc (Nat.le_refl _) _).trans (H2.out.mono (by omega))⟩
theorem gr_edge (h:GrAt w lo hi p N E) (hhi:hi≤w.heap.size) (hN:N.length≤900000) (hE:E.length≤900000) (a c k:Int) (ha:dI a) (hc:dI c) (hk:dI k):Calls Tryz.prog 73 #[.pointer (some ⟨p,0,none⟩),.int .i64 a,.int .i64 c,.int .i64 k] w fun e w'=>
  e=.returned (.bool (decide ((a,c,k) ∉ E)))∧GrAt w' lo w'.heap.size p (insI c (insI a N)) (insT (a,c,k) E)∧Keep w w'∧Below lo w w':=by
 have hmm:=@run_makeMap Tryz.prog
 have q:∀(w:World) (r:Option Nat),(binOp .eql 102 (.map r) (.map none)).run Tryz.prog w=.ok (.bool r.isNone) w:=fun w r=>run_eql_map_nil w _ _ _ r Tryz.underlying102
 go_enter Tryz.func73,Tryz.ntmps73
 go_wp2_with fail
 refine(gr_node h hhi (by omega) a ha).mono ?_
 rintro e w1 ⟨rfl,h1,k1,b1⟩
 have H1:=hid h1
 have K1:=hid k1
 have B1:=hid b1
 have hl1:=length_insI (n:=a) (l:=N)
 clear h h1 k1 b1
 go_wp2_with fail
 refine(gr_node H1.out (Nat.le_refl _) (by omega) c hc).mono ?_
 rintro e w2 ⟨rfl,h2,k2,b2⟩
 have hl2:=length_insI (n:=c) (l:=insI a N)
 have haN:a ∈ insI c (insI a N):=mem_insI.2 (.inr (mem_insI.2 (.inl rfl)))
 have hcN:c ∈ insI c (insI a N):=mem_insI.2 (.inl rfl)
 have K2:=hid (K1.out.trans k2)
 have B2:=hid (B1.out.trans b2)
 generalize hN2:insI c (insI a N)=N2 at *
 have HN2:=hid hN2
 have HAN:=hid haN
 have HCN:=hid hcN
 clear k2 b2 H1 K1 B1 haN hcN hl1 hN2
 obtain⟨b,ow,M,A,h2⟩:=h2
 have hp:=row_cell h2.ptr 0
 obtain⟨u,hf⟩:=h2.there HAN.out
 have l1:=h2.look ha hf
 have hu:=h2.here hf
 have hbl:=h2.hb
 have hpl:=h2.hp
 have hul:=(h2.inn a u hu).1
 cases hg:fnd c (A a) with
 |some v=>
  have hv:=h2.hereA hu hg
  have l2:=h2.lookA hu hc hg
  have l3:=h2.lookK hu hv hk
  have hvl:=(h2.leaf a u c v hu hv).1
  have hkl:=length_kindsOf E a c
  have H:=hid h2
  have HU:=hid hu
  have HV:=hid hv
  clear hf hg h2 hu hv
  go_wp2_with (at_mapUpdate;refine Stop.halt ?_)
  refine Stop.go ?_
  refine(H.out.leaf a u c v HU.out HV.out).2.wpList_store keyI elem_bool (units_dom (H.out.domK a c)) (units_srt (srt_kindsOf H.out.ok.srtE a c)) Tryz.underlying102 (v:=()) (by rw[units_length];unfold maxLen;omega) hk rfl rfl (by rfl) (by rfl) (by rfl) ?_
  intro w3 h3 t3
  rw[units_upd] at h3
  have H3:=hid h3.tight
  have T3:=hid t3
  have z3:=turned_size t3
  clear h3 t3 l1 l2 l3
  go_wp2
  go_ret
  exact⟨by simp,by rw[HN2.out];exact⟨_,_,_,_,(H.out.edge_old HU.out HV.out T3.out H3.out hk).raise (hi':=w3.heap.size) (by omega)⟩,K2.out.trans (Keep.turned T3.out),B2.out.trans (Below.turned T3.out (by omega))⟩
 |none=>
  have l2:=h2.lookA hu hc hg
  have hAl:=h2.lenA hu
  have hE1:=hid (show decide ((a,c,k) ∈ E)=false by simpa using fun hm=>h2.goneA hu hg (mem_row.2 (mem_prs.2 ⟨k,hm⟩)))
  have HE2:=hid (show decide ((a,c,k) ∉ E)=true by have:=hE1.out;simpa using this)
  have H:=hid h2
  have HU:=hid hu
  have HG:=hid hg
  have HF:=hid hf
  clear hf hg h2 hu
  go_wp2_with (at_mapUpdate;refine Stop.halt ?_)
  refine Stop.go ?_
  refine((H.out.inn a u HU.out).2.1.alloc (.map #[] 0)).wpList_store keyI elem_map (H.out.domA HU.out) (H.out.inn a u HU.out).2.2.1 Tryz.underlying103 (v:=w2.heap.size) (by unfold maxLen;omega) hc rfl rfl (by rfl) (by rfl) (by rfl) ?_
  intro w3 h3 t3
  have z3:=turned_size t3
  rw[World.size_alloc] at z3
  have hp3:=row_cell ((turned_other t3 (mapo_ne H.out.ptr (H.out.inn a u HU.out).2.1)).trans (row_old (o:=.map #[] 0) H.out.ptr)) 0
  have l31:=look3 ((H.out.out.alloc (.map #[] 0)).obj (turned_other t3 (by omega))) H.out.domM ha
  rw[HF.out] at l31
  have l32:=look2 h3 (KDom.upd (v:=w2.heap.size) (H.out.domA HU.out) hc) hc
  rw[fnd_upd_same (H.out.inn a u HU.out).2.2.1] at l32
  have hi3:MapB w3 w2.heap.size (units []):=((IsMapK.made w2):MapB _ _ (units [])).obj (turned_other t3 (by omega))
  have l33:=look_bool hi3 (by simp) hk
  have H3:=hid h3.tight
  have T3:=hid t3
  have HI:=hid hi3
  clear h3 t3 hi3 l1 l2
  go_wp2_with (at_mapUpdate;refine Stop.halt ?_)
  refine Stop.go ?_
  refine HI.out.wpList_store keyI elem_bool (by simp[units,KDom]) List.Pairwise.nil Tryz.underlying102 (v:=()) (by simp[units,maxLen]) hk rfl rfl (by rfl) (by rfl) (by rfl) ?_
  intro w4 h4 t4
  have H4:=hid h4.tight
  have T4:=hid t4
  clear h4 t4 l31 l32 l33
  go_wp2
  go_ret
  refine⟨by rw[HE2.out];rfl,by rw[HN2.out];exact⟨_,_,_,_,H.out.edge_new (Nat.le_refl _) HU.out HCN.out HG.out T3.out T4.out H3.out H4.out hk⟩,K2.out.trans ((Keep.alloc _ _).trans ((Keep.turned T3.out).trans (Keep.turned T4.out))),?_⟩
  exact B2.out.trans (((Below.refl _ _).alloc (by omega) _).trans ((Below.turned T3.out (by omega)).trans (Below.turned T4.out (by omega))))
end
section
attribute [local irreducible] wpL
def ruleFn:Nat→Nat
 |0=>117
 |1=>119
 |2=>120
 |_=>122
def ruleCap (n:Nat):Nat→Array Value
 |0=>#[.pointer (some ⟨n,0,none⟩)]
 |1=>#[.pointer (some ⟨n+1,0,none⟩),.pointer (some ⟨n+1+1,0,none⟩)]
 |_=>#[.pointer (some ⟨n+1,0,none⟩)]
theorem rule_ent (q:Nat) (args:Array Value) (w:World):(callFunc (ruleFn q) args).run Tryz.prog w=.ok (.enter (ruleFn q) args) w:=by
 match q with
 |0=>exact enters_of Tryz.func117 (by kernel_rfl) rfl args w
 |1=>exact enters_of Tryz.func119 (by kernel_rfl) rfl args w
 |2=>exact enters_of Tryz.func120 (by kernel_rfl) rfl args w
 |q+3=>exact enters_of Tryz.func122 (by kernel_rfl) rfl args w
theorem rule_cells {w:World} {pW n q:Nat} (h:RulesAt w pW n) (hq:q < 4):w.cell? ⟨n+1+1+1,q*2,none⟩=some (.int .i64 ((q:Int)+1))∧w.cell? ⟨n+1+1+1,q*2+1,none⟩=some (.func (.func (ruleFn q)) #[] (ruleCap n q)):=by
 have y:=row_cell h.list
 match q,hq with
 |0,_=>exact⟨y 0,y 1⟩
 |1,_=>exact⟨y 2,y 3⟩
 |2,_=>exact⟨y 4,y 5⟩
 |3,_=>exact⟨y 6,y 7⟩
section
variable {w:World} {lo hi pW bB n:Nat} {lev:Int} {ov vv lv:Value} {ms:List Mvr} {A:Au} {T:List Bool} {i j:Nat} {m m':Mvr} {a a':St}
theorem r_rule (h:FwAt w lo hi pW bB lev ov vv ms lv A T) (hov:∃x y z,ov=.slice x y z) (hvv:∃x y z,vv=.slice x y z) (hd:MvDom A) (hr:RulesAt w pW n) (h1:ms[i]?=some m) (h2:ms[j]?=some m') (g1:A[i]?=some a) (g2:A[j]?=some a') (q:Nat) (hq:q < 4):
  Calls Tryz.prog (ruleFn q) (#[.pointer (some ⟨m.p,0,none⟩),.pointer (some ⟨m'.p,0,none⟩)]++ruleCap n q) w fun e w'=>e=.returned (.bool (ruleK lev T i j a a' q))∧Below w.heap.size w w':=by
 have e1:∀a b c:Value,(#[a,b]++#[c]:Array Value)=#[a,b,c]:=fun a b c=>by simp
 have e2:∀a b c d:Value,(#[a,b]++#[c,d]:Array Value)=#[a,b,c,d]:=fun a b c d=>by simp
 match q,hq with
 |0,_=>have:=r_real h hov hvv hr h1 h2 g1 g2;rw[←e1] at this;exact this
 |1,_=>have:=r_from h hd hr h1 h2 g1 g2;rw[←e2] at this;exact this
 |2,_=>have:=r_write h hd hr h1 h2 g1 g2;rw[←e1] at this;exact this
 |3,_=>have:=r_anti h hd hr h1 h2 g1 g2;rw[←e1] at this;exact this
theorem rule_at (hr:RulesAt w pW n) (hov:∃x y z,ov=.slice x y z) (hvv:∃x y z,vv=.slice x y z) (hd:MvDom A) (h1:ms[i]?=some m) (h2:ms[j]?=some m') (g1:A[i]?=some a) (g2:A[j]?=some a') {q:Nat} (hq:q < 4):∃(g:Nat) (lb:Array Value),w.cell? ⟨n+1+1+1,q*2,none⟩=some (.int .i64 ((q:Int)+1))∧w.cell? ⟨n+1+1+1,q*2+1,none⟩=some (.func (.func g) #[] lb)∧(∀args w,(callFunc g args).run Tryz.prog w=.ok (.enter g args) w)∧
  ∀W,FwAt W lo hi pW bB lev ov vv ms lv A T→RulesAt W pW n→Calls Tryz.prog g (#[.pointer (some ⟨m.p,0,none⟩),.pointer (some ⟨m'.p,0,none⟩)]++lb) W fun e w'=>e=.returned (.bool (ruleK lev T i j a a' q))∧Below W.heap.size W w':=by
 obtain⟨c0,c1⟩:=rule_cells hr hq
 exact⟨_,_,c0,c1,rule_ent q,fun W h hr'=>r_rule h hov hvv hd hr' h1 h2 g1 g2 q hq⟩
def gsz (g:Gp):Nat:=g.1.length+g.2.length
theorem gsz_put (g:Gp) (e:Trp):gsz (putE g e)≤gsz g+3:=by
 unfold gsz putE
 have h1:=length_insI (n:=e.2.1) (l:=insI e.1 g.1)
 have h2:=length_insI (n:=e.1) (l:=g.1)
 have h3:=length_insT (p:=e) (l:=g.2)
 simp only
 omega
theorem gsz_edge1 {k:Nat} {g:Gp}:gsz (edge1 lev T i j a a' g k)≤gsz g+3:=by
 unfold edge1
 split
 ·exact gsz_put g _
 ·omega
theorem gsz_foldl {α:Type} {f:Gp→α→Gp} {c:Nat} (hf:∀g x,gsz (f g x)≤gsz g+c):∀(l:List α) (g:Gp),gsz (l.foldl f g)≤gsz g+c*l.length
 |[],g=>by simp
 |x::l,g=>by
  rw[List.foldl_cons]
  have h1:=gsz_foldl hf l (f g x)
  have h2:=hf g x
  rw[List.length_cons,Nat.mul_add]
  omega
theorem graph_size (hal:A.length≤200):(graphF lev A T).1.length≤900000∧(graphF lev A T).2.length≤900000:=by
 have h1:∀(i:Nat) (a:St) (g:Gp) (j:Nat),gsz (edges1 lev A T i a g j)≤gsz g+12:=fun i a g j=>by
  unfold edges1
  split
  ·rename_i b hb
   have:=gsz_foldl (f:=edge1 lev T i j a b) (c:=3) (fun g x=>gsz_edge1) (List.range 4) g
   simpa using this
  ·omega
 have h2:∀(g:Gp) (i:Nat),gsz (node1 lev A T g i)≤gsz g+2401:=fun g i=>by
  unfold node1
  split
  ·split
   ·rename_i a ha hl
    have h3:=gsz_foldl (f:=edges1 lev A T i a) (c:=12) (h1 i a) (List.range A.length) (insI a.id g.1,g.2)
    have h4:gsz (insI a.id g.1,g.2)≤gsz g+1:=by
     unfold gsz
     have:=length_insI (n:=a.id) (l:=g.1)
     simp only
     omega
    rw[List.length_range] at h3
    have:12*A.length≤2400:=by omega
    omega
   ·omega
  ·omega
 have h5:=gsz_foldl (f:=node1 lev A T) (c:=2401) h2 (List.range A.length) ([],[])
 rw[List.length_range] at h5
 have h6:gsz (graphF lev A T)≤2401*A.length:=by
  unfold graphF
  simpa[gsz] using h5
 have h7:2401*A.length≤900000:=by omega
 unfold gsz at h6
 omega
theorem f_graph (h:FwAt w lo hi pW bB lev ov vv ms lv A T) (hov:∃x y z,ov=.slice x y z) (hvv:∃x y z,vv=.slice x y z) (hd:MvDom A) (hids:∀s ∈ A,dI s.id) (hal:A.length≤200) (hhi:hi≤w.heap.size):
  Calls Tryz.prog 36 #[.pointer (some ⟨pW,0,none⟩)] w fun e w'=>∃p,e=.returned (.pointer (some ⟨p,0,none⟩))∧GrAt w' w.heap.size w'.heap.size p (graphF lev A T).1 (graphF lev A T).2∧Below w.heap.size w w':=by
 have HH:=hid h
 have HOV:=hid hov
 have HVV:=hid hvv
 have HD:=hid hd
 have HID:=hid hids
 obtain⟨al,cl,hlv⟩:=OwnF.sli h.lst
 subst hlv
 have hml:ms.length=A.length:=h.len
 have hml2:ms.length≤200:=by omega
 have HML:=hid hml
 have rw0:=h.row
 have y0:=row_cell rw0
 have y2:=y0 3
 simp at y2
 have yl:=row_lt rw0
 clear h hov hvv hd hids hml y0
 go_enter Tryz.func36,Tryz.ntmps36
 go_wp2_with fail
 refine(gr_new w).mono ?_
 rintro e W1 ⟨p,rfl,hg1,b1⟩
 have F1:=hid (HH.out.below b1 hhi (Nat.le_refl _))
 have G1:=hid hg1
 have B1:=hid b1
 have hz1:=b1.size
 have hpl:=hg1.lt
 clear hg1 b1
 go_wp2_with fail
 refine(r_rules W1 pW).mono ?_
 rintro e W2 ⟨rfl,hr2,b2⟩
 have F2:=hid (F1.out.below b2 (by omega) (Nat.le_refl _))
 have G2:=hid (G1.out.below b2 (Nat.le_refl _))
 have R2:=hid hr2
 have B2:=hid (B1.out.trans (b2.mono hz1))
 have hz2:=b2.size
 have hR2:W1.heap.size+1+1+1 < W2.heap.size:=row_lt hr2.list
 have G2r:=hid (G2.out.raise hz2)
 clear hr2 b2 F1 G1 B1 G2
 generalize W1.heap.size=nR at *
 have rw2:=F2.out.row
 have yq:=row_cell rw2 3
 simp at yq
 have yql:=row_lt rw2
 clear rw2 rw0 y2 yl
 go_wp2_with fail
 go_loopw [19] (fun q wr=>∃(k:Nat),k≤ms.length∧q=.int .i64 k∧FwAt wr lo hi pW bB lev ov vv ms (.slice al ms.length cl) A T∧RulesAt wr pW nR∧GrAt wr w.heap.size wr.heap.size p ((List.range k).foldl (node1 lev A T) ([],[])).1 ((List.range k).foldl (node1 lev A T) ([],[])).2∧gsz ((List.range k).foldl (node1 lev A T) ([],[]))≤2500*k∧Below w.heap.size w wr∧nR+1+1+1 < wr.heap.size) (fun q _=>ms.length - (intOf q).toNat)
 case atStart=>exact⟨0,by omega,by go_num,F2.out,R2.out,G2r.out,by simp[gsz],B2.out,hR2⟩
 case round=>
  obtain⟨k,hk,rfl,hF,hR,hG,hgz,hB,hzr⟩:=hrel
  obtain⟨g,hgd⟩:∃g,(List.range k).foldl (node1 lev A T) ([],[])=g:=⟨_,rfl⟩
  rw[hgd] at hG hgz
  have HGD:=hid hgd
  have HF:=hid hF
  have HR:=hid hR
  have HG:=hid hG
  have HB:=hid hB
  have hwz:=hB.size
  have hgz':g.1.length+g.2.length≤2500*k:=hgz
  clear hgd hF hR hG hB F2 R2 G2r B2 hR2 hgz
  by_cases hlt:k < ms.length
  ·obtain ⟨bl,ol,m,hqe,hbl,hmk,hcl⟩:=(OwnF.sl HF.out.lst).atF Mvr.len rfl hlt
   subst hqe
   have c0:wr.cell? ⟨bl,ol+k,none⟩=some (.pointer (some ⟨m.p,0,none⟩)):=by have:=hcl 0 (by decide);simpa[Mvr.cells,ptrV] using this
   obtain⟨m0,s,g1,hsk,hMv⟩:=HF.out.get (k:=k) (by have:=HML.out;omega)
   rw[hmk] at g1
   obtain rfl:=Option.some.inj g1
   have HMK:=hid hmk
   have HSK:=hid hsk
   have ym:=row_cell hMv.row
   have ym0:=ym 0
   have ym9:=ym 9
   simp at ym0 ym9
   have yml:=row_lt hMv.row
   have HRG:=hid (show(List.range (k+1)).foldl (node1 lev A T) ([],[])=node1 lev A T g k by rw[List.range_succ,List.foldl_append,HGD.out];rfl)
   obtain⟨lk,hlk⟩:∃lk,lookF lev T k=lk:=⟨_,rfl⟩
   rw[hlk] at ym9
   have HLK:=hid hlk
   clear hmk hsk hMv ym hcl hlk
   cases lk with
   |false=>
    go_wp2_with fail
    go_roundw
    case rel=>
     have e:node1 lev A T g k=g:=by unfold node1;rw[HSK.out];simp only[HLK.out,Bool.false_eq_true,if_false]
     refine⟨k+1,by omega,by go_num,HF.out,HR.out,?_,?_,HB.out,hzr⟩
     ·rw [HRG.out,e];exact HG.out
     ·rw [HRG.out,e];show g.1.length+g.2.length≤_;omega
    case measure=>simp[intOf];omega
   |true=>
    have hsid:=HID.out s (List.mem_of_getElem? HSK.out)
    have NC:=hid (gr_node HG.out (Nat.le_refl _) (by omega) s.id hsid)
    have hNe:=length_insI (n:=s.id) (l:=g.1)
    clear hsid
    go_wp2_with fail
    refine(NC.out).mono ?_
    rintro e W3 ⟨rfl,hg3,k3,b3⟩
    have hz3:=k3.size
    have F3:=hid (HF.out.below b3 hhi (Nat.le_refl _))
    have R3:=hid (show RulesAt W3 pW nR from⟨k3.cells HR.out.wd,k3.cells HR.out.same,k3.cells HR.out.any_,k3.cells HR.out.list⟩)
    have G3:=hid hg3
    have B3:=hid (HB.out.trans (b3.mono (Nat.le_refl _)))
    obtain⟨g3,hg3d⟩:∃g3:Gp,(insI s.id g.1,g.2)=g3:=⟨_,rfl⟩
    have HN1:=hid (show node1 lev A T g k=(List.range A.length).foldl (edges1 lev A T k s) g3 by unfold node1;rw[HSK.out,←hg3d];simp only[HLK.out,if_true])
    have hg3z:g3.1.length+g3.2.length≤2500*k+1:=by rw[←hg3d];simp only;omega
    have G3:=hid (show GrAt W3 w.heap.size W3.heap.size p g3.1 g3.2 by rw[←hg3d];exact G3.out)
    have hzr3:nR+1+1+1 < W3.heap.size:=by omega
    clear hg3 k3 b3 NC HF HR HG HB hg3d hNe ym0 ym9 yml c0
    have rw3:=F3.out.row
    have yq:=row_cell rw3 3
    simp at yq
    have yql:=row_lt rw3
    clear rw3
    go_wp2_with fail
    go_loopw [40] (fun q wq=>∃(j:Nat),j≤ms.length∧q=.int .i64 j∧FwAt wq lo hi pW bB lev ov vv ms (.slice (some ⟨bl,ol,none⟩) ms.length cl) A T∧RulesAt wq pW nR∧GrAt wq w.heap.size wq.heap.size p ((List.range j).foldl (edges1 lev A T k s) g3).1 ((List.range j).foldl (edges1 lev A T k s) g3).2∧gsz ((List.range j).foldl (edges1 lev A T k s) g3)≤2500*k+1+12*j∧Below w.heap.size w wq∧nR+1+1+1 < wq.heap.size) (fun q _=>ms.length - (intOf q).toNat)
    case atStart=>exact⟨0,by omega,by go_num,F3.out,R3.out,G3.out,by simpa[gsz] using hg3z,B3.out,hzr3⟩
    case round=>
     obtain⟨j,hj,rfl,hF,hR,hG,hgz,hB,hzr⟩:=hrel
     obtain⟨g4,hg4⟩:∃g4,(List.range j).foldl (edges1 lev A T k s) g3=g4:=⟨_,rfl⟩
     rw[hg4] at hG hgz
     have HG4:=hid hg4
     have HF:=hid hF
     have HR:=hid hR
     have HG:=hid hG
     have HB:=hid hB
     have hwz:=hB.size
     clear hg4 hF hR hG hB F3 R3 G3 B3 hzr3 yq yql
     by_cases hlt2:j < ms.length
     ·obtain ⟨bl2,ol2,m',hqe,hbl2,hmj,hcl⟩:=(OwnF.sl HF.out.lst).atF Mvr.len rfl hlt2
      simp only[Option.some.injEq,Addr.mk.injEq,and_true] at hqe
      obtain⟨rfl,rfl⟩:=hqe
      have c0:wr.cell? ⟨bl,ol+j,none⟩=some (.pointer (some ⟨m'.p,0,none⟩)):=by have:=hcl 0 (by decide);simpa[Mvr.cells,ptrV] using this
      obtain⟨m0,s',g1,hsj,hMv⟩:=HF.out.get (k:=j) (by have:=HML.out;omega)
      rw[hmj] at g1
      obtain rfl:=Option.some.inj g1
      have HMJ:=hid hmj
      have HSJ:=hid hsj
      have HRE:=hid (show(List.range (j+1)).foldl (edges1 lev A T k s) g3=edges1 lev A T k s g4 j by rw[List.range_succ,List.foldl_append,HG4.out];rfl)
      have HE1:=hid (show edges1 lev A T k s g4 j=(List.range 4).foldl (edge1 lev T k j s s') g4 by unfold edges1;rw[HSJ.out])
      clear hmj hsj hMv hcl
      go_wp2_with fail
      go_loopw [46] (fun r wq=>∃(q:Nat),q≤4∧r=.int .i64 q∧FwAt wq lo hi pW bB lev ov vv ms (.slice (some ⟨bl,ol,none⟩) ms.length cl) A T∧RulesAt wq pW nR∧GrAt wq w.heap.size wq.heap.size p ((List.range q).foldl (edge1 lev T k j s s') g4).1 ((List.range q).foldl (edge1 lev T k j s s') g4).2∧gsz ((List.range q).foldl (edge1 lev T k j s s') g4)≤2500*k+1+12*j+3*q∧Below w.heap.size w wq∧nR+1+1+1 < wq.heap.size) (fun r _=>4 - (intOf r).toNat)
      case atStart=>exact⟨0,by omega,by go_num,HF.out,HR.out,HG.out,by simpa using hgz,HB.out,hzr⟩
      case round=>
       obtain⟨q,hq,rfl,hF,hR,hG,hgz2,hB,hzr⟩:=hrel
       obtain⟨g5,hg5⟩:∃g5,(List.range q).foldl (edge1 lev T k j s s') g4=g5:=⟨_,rfl⟩
       rw[hg5] at hG hgz2
       have HG5:=hid hg5
       have HF:=hid hF
       have HR:=hid hR
       have HG:=hid hG
       have HB:=hid hB
       have hwz:=hB.size
       have hgz3:g5.1.length+g5.2.length≤2500*k+1+12*j+3*q:=hgz2
       clear hg5 hF hR hG hB hgz2 c0
       by_cases hq4:q < 4
       ·obtain ⟨gq,lbq,k0,k1,eg,hRQ⟩:=rule_at (w:=wr) (lo:=lo) (hi:=hi) (bB:=bB) (lev:=lev) (lv:=.slice (some ⟨bl,ol,none⟩) ms.length cl) (T:=T) HR.out HOV.out HVV.out HD.out HMK.out HMJ.out HSK.out HSJ.out hq4
        have HRQ:=hid (show(List.range (q+1)).foldl (edge1 lev T k j s s') g4=edge1 lev T k j s s' g5 q by rw[List.range_succ,List.foldl_append,HG5.out];rfl)
        have BC:=hid (show Below wr.heap.size wr (wr.alloc (.cells #[.int .i64 ((q:Int)+1),.func (.func gq) #[] lbq] 168)) from(Below.refl _ wr).alloc (Nat.le_refl _) _)
        have rC:=row_new wr (.cells #[.int .i64 ((q:Int)+1),.func (.func gq) #[] lbq] 168)
        have RCR:=hid rC
        have FC:=hid (HF.out.below BC.out (by omega) (Nat.le_refl _))
        have RCc:=hid (HR.out.below BC.out (by omega))
        have hzc:wr.heap.size < (wr.alloc (.cells #[.int .i64 ((q:Int)+1),.func (.func gq) #[] lbq] 168)).heap.size:=row_lt rC
        have GC:=hid ((HG.out.below BC.out (Nat.le_refl _)).raise (Nat.le_of_lt hzc))
        have BWC:=hid (HB.out.trans (BC.out.mono hwz))
        have RQ:=hid (hRQ _ FC.out RCc.out)
        have rj:=(FC.out.mv j m' s' HMJ.out HSJ.out).row
        have rk:=(FC.out.mv k m s HMK.out HSK.out).row
        have HRJ:=hid rj
        have HRK:=hid rk
        have z9:=row_cell rj 9
        simp at z9
        have zl:=row_lt rj
        have yl:=row_lt rk
        have hpn:=ptr_neq rk rj
        have HPK:=hid (show m.p=m'.p↔k=j from⟨fun e=>FC.out.inj k j m m' HMK.out HMJ.out e,fun e=>by subst e;have h1:=HMK.out;rw[HMJ.out] at h1;rw[Option.some.inj h1]⟩)
        have w0:(wr.alloc (.cells #[.int .i64 ((q:Int)+1),.func (.func gq) #[] lbq] 168)).cell? ⟨wr.heap.size,0,none⟩=some (.int .i64 ((q:Int)+1)):=row_cell rC 0
        have w1:(wr.alloc (.cells #[.int .i64 ((q:Int)+1),.func (.func gq) #[] lbq] 168)).cell? ⟨wr.heap.size,1,none⟩=some (.func (.func gq) #[] lbq):=row_cell rC 1
        obtain⟨lj,hlj⟩:∃lj,lookF lev T j=lj:=⟨_,rfl⟩
        rw[hlj] at z9
        have HLJ:=hid hlj
        clear rj rk rC hlj hRQ BC HF HR HG HB
        cases lj with
        |false=>
         go_wp2_with fail
         generalize wr.alloc (.cells #[.int .i64 ((q:Int)+1),.func (.func gq) #[] lbq] 168)=Wc at *
         go_roundw
         case rel=>
          have e:edge1 lev T k j s s' g5 q=g5:=by unfold edge1;rw[if_neg];rw[HLJ.out];simp
          refine⟨q+1,by omega,by go_num,FC.out,RCc.out,?_,?_,BWC.out,by omega⟩
          ·rw [HRQ.out,e];exact GC.out
          ·rw [HRQ.out,e];show g5.1.length+g5.2.length≤_;omega
         case measure=>simp[intOf];omega
        |true=>
         by_cases hkj:k=j
         ·rw [show decide (m.p=m'.p)=true by simpa using HPK.out.2 hkj] at hpn
          simp only[Bool.not_true] at hpn
          have HNE:=hid hkj
          clear hkj
          go_wp2_with fail
          generalize wr.alloc (.cells #[.int .i64 ((q:Int)+1),.func (.func gq) #[] lbq] 168)=Wc at *
          go_roundw
          case rel=>
           have e:edge1 lev T k j s s' g5 q=g5:=by unfold edge1;rw[if_neg];rw[HNE.out];simp
           refine⟨q+1,by omega,by go_num,FC.out,RCc.out,?_,?_,BWC.out,by omega⟩
           ·rw [HRQ.out,e];exact GC.out
           ·rw [HRQ.out,e];show g5.1.length+g5.2.length≤_;omega
          case measure=>simp[intOf];omega
         ·rw [show decide (m.p=m'.p)=false by simpa using fun e=>hkj (HPK.out.1 e)] at hpn
          simp only[Bool.not_false] at hpn
          have HNE:=hid hkj
          clear hkj
          go_wp2_with fail
          generalize wr.alloc (.cells #[.int .i64 ((q:Int)+1),.func (.func gq) #[] lbq] 168)=Wc at *
          refine(RQ.out).mono ?_
          rintro e W4 ⟨rfl,b4⟩
          obtain⟨rq,hrq⟩:∃rq,ruleK lev T k j s s' q=rq:=⟨_,rfl⟩
          rw[hrq]
          have HRK2:=hid hrq
          have F4:=hid (FC.out.below b4 (by have:=BWC.out.size;omega) (Nat.le_refl _))
          have R4:=hid (RCc.out.below b4 (by omega))
          have hz4:=b4.size
          have G4:=hid ((GC.out.below b4 (Nat.le_refl _)).raise hz4)
          have B4:=hid (BWC.out.trans (b4.mono BWC.out.size))
          have rk4:=row_below HRK.out b4 (row_lt HRK.out)
          have rj4:=row_below HRJ.out b4 (row_lt HRJ.out)
          have rc4:=row_below RCR.out b4 hzc
          have yk:=row_cell rk4 0
          have yj:=row_cell rj4 0
          have yc:=row_cell rc4 0
          simp at yk yj yc
          have ykl:=row_lt rk4
          have yjl:=row_lt rj4
          have ycl:=row_lt rc4
          clear hrq b4 rk4 rj4 rc4 FC RCc GC BWC RQ hpn z9 zl yl w0 w1 k0 k1
          cases rq with
          |false=>
           go_wp2_with fail
           go_roundw
           case rel=>
            have e:edge1 lev T k j s s' g5 q=g5:=by unfold edge1;rw[if_neg];rw[HRK2.out];simp
            refine⟨q+1,by omega,by go_num,F4.out,R4.out,?_,?_,B4.out,by omega⟩
            ·rw [HRQ.out,e];exact G4.out
            ·rw [HRQ.out,e];show g5.1.length+g5.2.length≤_;omega
           case measure=>simp[intOf];omega
          |true=>
           have hik:=HID.out s (List.mem_of_getElem? HSK.out)
           have hij:=HID.out s' (List.mem_of_getElem? HSJ.out)
           have EC:=hid (gr_edge (w:=W4.drew) (G4.out.below (Below.refl _ W4).drew (Nat.le_refl _)) (Nat.le_refl _) (by omega) (by omega) s.id s'.id ((q:Int)+1) hik hij (by unfold dI Lit.wf;simp[IntKind.min,IntKind.max,IntKind.bits,IntKind.signed];omega))
           clear hik hij
           go_wp2_with fail
           refine wp_rN (W4.heap.size) [0,0,0,0,0,1,0,0,0,0,1,0,1,2] (.fin [0,1,2,3,4,5,6,7,8,9,10,11,12,13]) (by kernel_rfl) ?_
           simp only[wpT,selX,guardAt,sD,sE,sF,sG]
           repeat first|(refine wpL_p fun K hK=>?_;go_simp;refine hK _ _ ?_;clear hK K)|(apply wpL_s;(intro w2 hw2;have hk1:=hw2.cell;have hk3:=hw2.1;clear hw2;go_simp;with_reducible rfl);simp only[Act.put,sA,sB,sC])
           refine wpL_e (fun K hK=>?_)
           go_simp
           refine(EC.out).mono ?_
           rintro e W5 ⟨rfl,hg6,k6,b6⟩
           refine hK _ _ ?_
           clear hK K
           have k6:Keep W4 W5:=⟨k6.size,fun i o hi ho=>k6.obj i o hi ho⟩
           have F6:=hid (F4.out.below (show Below w.heap.size W4 W5 from(Below.refl _ W4).drew.trans b6) hhi (Nat.le_refl _))
           have R6:=hid (show RulesAt W5 pW nR from⟨k6.cells R4.out.wd,k6.cells R4.out.same,k6.cells R4.out.any_,k6.cells R4.out.list⟩)
           have B6:=hid (B4.out.trans ((Below.refl _ W4).drew.trans b6))
           have hz6:=k6.size
           have hput:=gsz_put g5 (s.id,s'.id,((q+1:Nat):Int))
           have HED:=hid (show edge1 lev T k j s s' g5 q=putE g5 (s.id,s'.id,((q+1:Nat):Int)) by unfold edge1;rw[if_pos];rw[HLJ.out,HRK2.out];simp[HNE.out])
           have G6:=hid (show GrAt W5 w.heap.size W5.heap.size p (putE g5 (s.id,s'.id,((q+1:Nat):Int))).1 (putE g5 (s.id,s'.id,((q+1:Nat):Int))).2 from by
            have e1:((q+1:Nat):Int)=(q:Int)+1:=by omega
            rw[e1]
            exact hg6)
           clear hg6 k6 b6 EC
           repeat first|(refine wpL_p fun K hK=>?_;go_simp;refine hK _ _ ?_;clear hK K)|refine wpL_nil ?_
           go_wp2_with fail
           go_roundw
           case rel=>
            refine⟨q+1,by omega,by go_num,F6.out,R6.out,?_,?_,B6.out,by omega⟩
            ·rw [HRQ.out,HED.out];exact G6.out
            ·rw [HRQ.out,HED.out];have:gsz g5=g5.1.length+g5.2.length:=rfl;omega
           case measure=>simp[intOf];omega
       ·obtain rfl:q=4:=by omega
        go_wp2_with fail
        go_roundw
        case rel=>
         refine⟨j+1,by omega,by go_num,HF.out,HR.out,?_,?_,HB.out,hzr⟩
         ·rw [HRE.out,HE1.out,HG5.out];exact HG.out
         ·rw [HRE.out,HE1.out,HG5.out];show g5.1.length+g5.2.length≤_;omega
        case measure=>simp[intOf];omega
     ·obtain rfl:j=ms.length:=by omega
      have hq:decide ((ms.length:Int) < (ms.length:Int))=false:=by simp
      have hgz3:g4.1.length+g4.2.length≤2500*k+1+12*ms.length:=hgz
      have HNE:=hid (show node1 lev A T g k=g4 by rw[HN1.out,←HML.out];exact HG4.out)
      go_wp2_with fail
      go_roundw
      case rel=>
       refine⟨k+1,by omega,by go_num,HF.out,HR.out,?_,?_,HB.out,hzr⟩
       ·rw [HRG.out,HNE.out];exact HG.out
       ·rw [HRG.out,HNE.out];show g4.1.length+g4.2.length≤_;omega
      case measure=>simp[intOf];omega
  ·obtain rfl:k=ms.length:=by omega
   have hq:decide ((ms.length:Int) < (ms.length:Int))=false:=by simp
   have HGE:=hid (show graphF lev A T=g by unfold graphF;rw[←HML.out];exact HGD.out)
   go_wp2_with fail
   go_ret
   exact⟨p,rfl,by rw[HGE.out];exact HG.out,HB.out⟩
end
end
abbrev MapI (w:World) (b:Nat) (M:List (Int×Int)):Prop:=IsMapK Tryz.prog 3 Rint (.int .i64) (fun n:Int=>.lit (.int .i64 n)) w b M.length M
section
variable {P:Program} {K:TypeId} {R:RdU} {kl:Int→Lit} {ε:Type} {ed:ε→DU} {w w':World} {q n b r cnt:Nat} {L:List (Int×ε)} {S:Int→Bool}
variable {α:Type} {f:α→List Value} {e:TypeId} {sz B:Nat} {v v':Value} {l:List α}
def IterAt (w:World) (r:Nat):Prop:=∃m since seen c0,w.heap[r]?=some (.mapIter m since seen c0)
theorem Rng.iterAt (h:Rng P K R kl ed w b r n L S cnt):IterAt w r:=let ⟨s,s2,c,hr⟩:=h.iter;⟨_,s,s2,c,hr⟩
theorem IsMapK.nextK (h:IsMapK P K R kl ed w q n L) (hi:IterAt w r) (hg:w.grownBy w' (some r)):IsMapK P K R kl ed w' q n L:=by
 obtain⟨es,c,hb,-⟩:=id h
 refine h.obj (hg.block q h.lt fun e=>?_)
 cases e
 obtain⟨m,s,s2,c,hr⟩:=hi
 rw[hb] at hr
 cases hr
theorem OwnF.nextK (h:OwnF f e sz w B v l) (hi:IterAt w r) (hg:w.grownBy w' (some r)):OwnF f e sz w' B v l:=by
 refine h.kept hg ?_
 refine .inr fun e=>?_
 obtain⟨cs,hcs⟩:=h.keepObj r e
 obtain⟨m,s,s2,c,hr⟩:=hi
 rw[hcs] at hr
 cases hr
theorem Rng.nextK {r':Nat} (h:Rng P K R kl ed w b r n L S cnt) (hi:IterAt w r') (hne:r≠r') (hg:w.grownBy w' (some r')):Rng P K R kl ed w' b r n L S cnt:=by
 refine h.obj (hg.block b h.owns.lt fun e=>?_) (hg.block r h.lt fun e=>hne (Option.some.inj e))
 cases e
 obtain⟨es,c,hb,-⟩:=id h.owns
 obtain⟨m,s,s2,c,hr⟩:=hi
 rw[hb] at hr
 cases hr
theorem IsMapK.none (h:IsMapK P K R kl ed w q n L) (hg:w.grownBy w' Option.none):IsMapK P K R kl ed w' q n L:=h.obj (hg.block q h.lt (by simp))
theorem OwnF.none (h:OwnF f e sz w B v l) (hg:w.grownBy w' Option.none):OwnF f e sz w' B v l:=h.kept hg (by cases v.ownBlock <;> simp)
theorem Rng.none (h:Rng P K R kl ed w b r n L S cnt) (hg:w.grownBy w' Option.none):Rng P K R kl ed w' b r n L S cnt:=h.obj (hg.block b h.owns.lt (by simp)) (hg.block r h.lt (by simp))
theorem IsMapK.grw (h:IsMapK P K R kl ed w q n L) (ho:OwnF f e sz w B v l) (hg:Grw w w' v v'):IsMapK P K R kl ed w' q n L:=by
 obtain⟨es,c,hb,-⟩:=id h
 refine h.obj (hg.grown.block q h.lt fun e=>?_)
 obtain⟨cs,hcs⟩:=ho.keepObj q e.symm
 rw[hb] at hcs
 cases hcs
theorem Rng.grw (h:Rng P K R kl ed w b r n L S cnt) (ho:OwnF f e sz w B v l) (hg:Grw w w' v v'):Rng P K R kl ed w' b r n L S cnt:=by
 obtain⟨s,s2,c,hr⟩:=h.iter
 obtain⟨es,c,hb,-⟩:=id h.owns
 refine h.obj (hg.grown.block b h.owns.lt fun e=>?_) (hg.grown.block r h.lt fun e=>?_)
 ·obtain ⟨cs,hcs⟩:=ho.keepObj b e.symm
  rw[hb] at hcs
  cases hcs
 ·obtain ⟨cs,hcs⟩:=ho.keepObj r e.symm
  rw[hr] at hcs
  cases hcs
theorem OwnF.turn (h:OwnF f e sz w B v l) {q':Nat} (ht:w.mapTurned w' q'):OwnF f e sz w' B v l:=h.keepC (Keep.turned ht)
theorem Rng.turn (h:Rng P K R kl ed w b r n L S cnt) {q':Nat} (ht:w.mapTurned w' q') (hne:b≠q'):Rng P K R kl ed w' b r n L S cnt:=by
 obtain⟨s,s2,c,hr⟩:=h.iter
 refine h.obj (turned_other ht hne) (turned_other ht ?_)
 rintro rfl
 obtain⟨es,c,es',c',hb,-⟩:=ht
 rw[hr] at hb
 cases hb
end
