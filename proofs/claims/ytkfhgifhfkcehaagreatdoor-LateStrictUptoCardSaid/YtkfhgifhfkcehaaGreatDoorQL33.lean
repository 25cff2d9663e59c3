/- Parts of the proof, merged by program out of 2 texts (SnB, SnG): the first: What a node is known by; all of a game; nobody asks. Conditions: those of each theorem, as typed. -/
import Derived.Test.YtkfhgifhfkcehaaGreatDoorQL32
import Derived.Conc.LoneSelect
set_option linter.unusedVariables false
set_option linter.unusedSimpArgs false
set_option linter.unusedSectionVars false
set_option maxRecDepth 100000
set_option maxHeartbeats 4000000
namespace Go.Proofs.YtkfhgifhfkcehaaGreatDoor
open Go.Conc Go.Maps Go.RowKit
section
attribute [local irreducible] wpL
theorem n_pair {w:World} (h:PowAt w) (hW:WordsAt w) (p:Nat) (v:Value) (σ:List Int) (hs:SlS w w.heap.size v σ) (hl:σ.length≤8) (hv:SmallV σ):
  Calls Tryz.prog 93 #[.agg #[.int .i64 p,v]] w fun e w'=>e=.returned (.agg #[.int .i64 p,.string (keyB σ)])∧Below w.heap.size w w':=by
 obtain⟨av,cv,rfl,-⟩:=hs.ex
 have b0:Below w.heap.size w ((w.alloc (.cells #[.int .i64 p,.slice av σ.length cv] 181)).alloc (.cells #[.int .i64 0,.string ⟨#[]⟩] 176)):=((Below.refl _ w).alloc (Nat.le_refl _) _).alloc (by simp) _
 have r0:((w.alloc (.cells #[.int .i64 p,.slice av σ.length cv] 181)).alloc (.cells #[.int .i64 0,.string ⟨#[]⟩] 176)).heap[w.heap.size]?=some (.cells #[.int .i64 p,.slice av σ.length cv] 181 (0,0)):=row_old (row_new w _)
 have r1:((w.alloc (.cells #[.int .i64 p,.slice av σ.length cv] 181)).alloc (.cells #[.int .i64 0,.string ⟨#[]⟩] 176)).heap[w.heap.size+1]?=some (.cells #[.int .i64 0,.string ⟨#[]⟩] 176 (0,0)):=row_new' (by simp)
 go_enter Tryz.func93,Tryz.ntmps93
 go_wp2_with fail
 generalize (w.alloc (.cells #[.int .i64 p,.slice av σ.length cv] 181)).alloc (.cells #[.int .i64 0,.string ⟨#[]⟩] 176)=W at *
 have KC:=hid (s_Key (w:=W.drew) (h.below b0.drew) (hW.below b0.drew) (.slice av σ.length cv) σ ((hs.below b0).more b0.size) hl hv)
 have y:=row_cell r0
 have y0:=y 0
 have y1:=y 1
 simp at y0 y1
 have yl:=row_lt r0
 have R1:=hid r1
 have B0:=hid b0
 clear y r0 r1 b0 h hW hs
 refine wp_rN (W.heap.size) [0,1,0,1,3,0,2] (.fin [0,1,2,3,4,5,6]) (by kernel_rfl) ?_
 simp only[wpT,selX,guardAt,sD,sE,sF,sG]
 repeat first|(refine wpL_p fun K hK=>?_;go_simp;refine hK _ _ ?_;clear hK K)|(apply wpL_s;(intro w2 hw2;have hk1:=hw2.cell;have hk3:=hw2.1;clear hw2;go_simp;with_reducible rfl);simp only[Act.put,sA,sB,sC])
 refine wpL_k (fun K hK=>?_)
 go_simp
 refine KC.out.mono ?_
 rintro e w1 ⟨rfl,b1⟩
 refine hK _ _ (RN.KeepsN.of_below b1) ?_
 clear hK K
 have b1':Below W.heap.size W w1:=(Below.refl _ W).drew.trans b1
 have r1:=row_below R1.out b1' (row_lt R1.out)
 have z:=row_cell r1
 have z0:=z 0
 have z1:=z 1
 simp at z0 z1
 have zl:=row_lt r1
 have zf:=fun j=>row_free r1 j
 have BF:=hid (((B0.out.trans (b1'.mono B0.out.size)).setCell (p:=⟨w.heap.size+1,0,none⟩) (Nat.le_succ _) (.int .i64 p)).setCell (p:=⟨w.heap.size+1,1,none⟩) (Nat.le_succ _) (.string (keyB σ)))
 have rF:=row_set (row_set r1 0 (.int .i64 p)) 1 (.string (keyB σ))
 have c:=row_cell rF
 have c0:=c 0
 have c1:=c 1
 simp at c0 c1
 clear z r1 rF c b1 b1'
 repeat (refine wpL_p fun K hK=>?_;go_simp;refine hK _ _ ?_;clear hK K)
 refine wpL_e (fun K hK=>?_)
 go_simp
 refine hK _ _ ?_
 clear hK K
 repeat refine wpL_nil ?_
 go_wp2_with fail
 refine bodyPost_ret (v:=.agg #[.int .i64 p,.string (keyB σ)]) (by simp[results,Tryz.results93,go_sem,c0,c1]) rfl ?_
 exact⟨rfl,BF.out⟩
theorem g_all {w:World} {bG n:Nat} {lv mv fv:Value} {a:Option Addr} {c:Nat} (h:w.heap[bG]?=some (.cells #[lv,.slice a n c,mv,fv] 188 (0,0))) (hn:n≤12):
  Calls Tryz.prog 141 #[.pointer (some ⟨bG,0,none⟩)] w fun e w'=>e=.returned (.int .i64 (2 ^ n - 1:Nat))∧w'=w:=by
 have y1:=row_cell h 1
 simp at y1
 have yl:=row_lt h
 have q:wrap64 (wrap64 (2 ^ n) - 1)=((2 ^ n - 1:Nat):Int):=by
  have hc:n=0∨n=1∨n=2∨n=3∨n=4∨n=5∨n=6∨n=7∨n=8∨n=9∨n=10∨n=11∨n=12:=by omega
  rcases hc with rfl|rfl|rfl|rfl|rfl|rfl|rfl|rfl|rfl|rfl|rfl|rfl|rfl <;> simp[wrap64]
 have Q:=hid q
 clear q
 go_enter Tryz.func141,Tryz.ntmps141
 go_wp2_with fail
 have q:=Q.out
 refine bodyPost_ret (v:=.int .i64 (2 ^ n - 1:Nat)) (by simp only[q];simp[results,Tryz.results141,go_sem]) rfl ⟨rfl,rfl⟩
def baseA (f:FuncId):Frame:={(default:Frame) with fn:=f,kind:=.normal}
theorem n_asked (w:World):Calls Tryz.prog 96 #[.chan none] w fun e w'=>e=.returned (.bool false)∧w'=w:=by
 refine calls_of_loneTo fun cs=>?_
 have e:Frame.enter Tryz.prog 96 #[.chan none] .normal=(baseA 96).at ⟨#[.chan none,undef,undef,undef,undef,undef,undef],[]⟩ [.code (Tryz.f96.body.getD .skip)]:=by
  simp[Frame.enter,Frame.at,Tryz.func96,baseA,Tryz.f96]
 rw[e]
 refine LoneTo.goes (n:=10) ?_
 simp only[Tryz.f96,Option.getD_some]
 s_c stepG_seq
 s_reg
 s_op
 s_c stepG_region_end
 s_c stepG_seq
 s_reg
 s_op
 s_c stepG_region_end
 s_c stepG_seq
 s_reg
 s_stop
 refine LoneTo.step (step_lone_select_recv_nil (z:=.agg #[]) (stepG_comm (cases:=#[rcaseNil (.agg #[])]) (blocking:=false) (shape:=.select) (w':=w) rfl rfl (by decide) (by simp[go_sem,execOp,rcaseNil,Act.eval]))) ?_
 rw[Frame.finish_at]
 walk_nrm
 refine LoneTo.goes (n:=10) ?_
 s_op
 s_op
 s_c stepG_region_end
 s_c stepG_block
 s_cond false
 s_c stepG_seq
 s_reg
 s_op
 s_c stepG_region_end
 s_c stepG_ret'
 s_stop
 exact LoneTo.done ⟨.returned (.bool false),_,rfl,⟨rfl,rfl⟩,rfl,rfl,rfl,rfl,_,Tryz.func96,by simp[results,Tryz.f96,Frame.at]⟩
end
section
attribute [local irreducible] wpL
structure MemAt (m:Nat) (w:World) (B b12 b13 b14 bS bm most:Nat) (cv qv ov:Value) (L:List (NdK m)) (rows orows:List NR) (n:Nat):Prop where
 var:w.heap[b12]?=some (.cells #[.pointer (some ⟨bS,0,none⟩)] 173 (0,0))
 set:SetAt m w B bS bm most cv L
 que:QueueAt w B b13 qv rows n
 ord:w.heap[b14]?=some (.cells #[ov] 177 (0,0))
 own:OwnF NR.cells 181 2 w B ov orows
 dis:∀k,qv.ownBlock=some k→ov.ownBlock≠some k
 hB:B≤b12∧B≤b14
theorem SetAt.fr {S:Nat→Prop} {m B bS bm most:Nat} {cv:Value} {L:List (NdK m)} {w w':World} (h:SetAt m w B bS bm most cv L) (hk:Fr S w w') (hn:∀j,j=bS∨j=bm∨cv.ownBlock=some j→¬S j):SetAt m w' B bS bm most cv L:=by
 obtain⟨h1,⟨M,h2,h3⟩,h4,h5⟩:=h
 exact⟨hk.row h1 (hn _ (.inl rfl)),⟨M,h2.obj (hk.blk bm h2.lt (hn _ (.inr (.inl rfl)))),h3⟩,OwnF.fr h4 hk fun j e=>hn j (.inr (.inr e)),h5⟩
def SeT (t:TypeId):Prop:=t=262∨t=176∨t=179∨t=181∨t=177
section
variable {m B b12 b13 b14 bS bm most n:Nat} {cv qv ov:Value} {L:List (NdK m)} {rows orows:List NR} {w w':World}
theorem MemAt.below (h:MemAt m w B b12 b13 b14 bS bm most cv qv ov L rows orows n) (hb:Below w.heap.size w w'):MemAt m w' B b12 b13 b14 bS bm most cv qv ov L rows orows n:=
 ⟨row_below h.var hb (row_lt h.var),h.set.below hb,h.que.fr (Fr.below (S:=fun _=>False) hb) (fun _ _ h=>h),row_below h.ord hb (row_lt h.ord),OwnF.below h.own hb,h.dis,h.hB⟩
theorem MemAt.setTurn (h:MemAt m w B b12 b13 b14 bS bm most cv qv ov L rows orows n) {cv':Value} {L':List (NdK m)} (hs:SetAt m w' B bS bm most cv' L') (hk:Kd (fun t=>t=262∨t=176) w w'):
  MemAt m w' B b12 b13 b14 bS bm most cv' qv ov L' rows orows n:=
 ⟨hk _ _ _ _ h.var (by decide),hs,⟨hk _ _ _ _ h.que.row (by decide),OwnF.kd h.que.own hk (by decide),h.que.le,h.que.hB⟩,hk _ _ _ _ h.ord (by decide),OwnF.kd h.own hk (by decide),h.dis,h.hB⟩
def PutPost (m:Nat) (w:World) (B b12 b13 b14 bS bm most:Nat) (qv ov:Value) (L:List (NdK m)) (rows orows:List NR) (n:Nat) (k:NdK m) (r:NR) (ev:Value) (e:Ending) (w':World):Prop:=
 (k ∈ L∧e=.returned .nilIface∧Below w.heap.size w w')∨
 (k ∉ L∧L.length=most∧e=.returned ev∧Below w.heap.size w w')∨
 (k ∉ L∧L.length < most∧e=.returned .nilIface∧(∃cv' qv' ov',MemAt m w' B b12 b13 b14 bS bm most cv' qv' ov' (L++[k]) (rows++[r]) (orows++[r]) n)∧Kd SeT w w'∧Below B w w')
theorem s_put (h:MemAt m w B b12 b13 b14 bS bm most cv qv ov L rows orows n) (hB:B≤w.heap.size) (hl:L.length≤most) (hm:most≤65536) (hr:rows.length≤65536) (hor:orows.length≤65536) (k:NdK m) {a:Option Addr} {c:Nat} (hs:OwnS w 0 (.slice a k.1.2.length c) k.1.2) (hP:PowAt w) (hW:WordsAt w) {t0:TypeId} {v0:Value} (hev:w.cell? ⟨0,0,none⟩=some (.iface t0 v0)) (hel:0 < w.heap.size):
  Calls Tryz.prog 91 #[.agg #[.int .i64 (k.1.1:Nat),.slice a k.1.2.length c],.pointer (some ⟨b12,0,none⟩),.pointer (some ⟨b13,0,none⟩),.pointer (some ⟨b14,0,none⟩)] w (PutPost m w B b12 b13 b14 bS bm most qv ov L rows orows n k ⟨k.1.1,.slice a k.1.2.length c⟩ (.iface t0 v0)):=by
 have b0:Below w.heap.size w (w.alloc (.cells #[.int .i64 (k.1.1:Nat),.slice a k.1.2.length c] 181)):=(Below.refl _ w).alloc (Nat.le_refl _) _
 have r0:=hid (row_new w (.cells #[.int .i64 (k.1.1:Nat),.slice a k.1.2.length c] 181))
 have hz0:=hid (show(w.alloc (.cells #[.int .i64 (k.1.1:Nat),.slice a k.1.2.length c] 181)).heap.size=w.heap.size+1 by simp)
 go_enter Tryz.func91,Tryz.ntmps91
 go_wp2_with fail
 generalize w.alloc (.cells #[.int .i64 (k.1.1:Nat),.slice a k.1.2.length c] 181)=W at *
 have h1:=h.below b0
 have hev1:=cell_below b0 hel hev
 have hel1:0 < W.heap.size:=by have:=b0.size;omega
 have PC:=hid (n_pair (w:=W.drew) (hP.below b0.drew) (hW.below b0.drew) k.1.1 (.slice a k.1.2.length c) k.1.2 (OwnF.sl (OwnF.below hs b0.drew)) (by have:=k.2;omega) k.2.2.2.2)
 have x0:=row_cell h1.var 0
 have z:=row_cell r0.out
 have z0:=z 0
 have z1:=z 1
 simp at x0 z0 z1
 have xl:=row_lt h1.var
 have zl:=row_lt r0.out
 have HQL:=hid (fun j hj=>(OwnF.lt h.que.own j hj).2)
 have HOL:=hid (fun j hj=>(OwnF.lt h.own j hj).2)
 have H1:=hid h1
 have B0:=hid b0
 have HS:=hid hs
 clear z h1 b0 h hP hW hs hev hel
 refine wp_rN (W.heap.size) [1,1,3,2,0,0,0,0,0] (.fin [0,1,2,3,4,5,6,7,8]) (by kernel_rfl) ?_
 simp only[wpT,selX,guardAt,sD,sE,sF,sG]
 repeat (apply wpL_s;(intro w2 hw2;have hk1:=hw2.cell;have hk3:=hw2.1;clear hw2;go_simp;with_reducible rfl);simp only[Act.put,sA,sB,sC])
 refine wpL_k (fun K hK=>?_)
 go_simp
 refine PC.out.mono ?_
 rintro e w1 ⟨rfl,b1⟩
 refine hK _ _ (RN.KeepsN.of_below b1) ?_
 clear hK K
 have b1':Below W.heap.size W w1:=(Below.refl _ W).drew.trans b1
 have hev2:=cell_below b1' hel1 hev1
 have h2:=H1.out.below b1'
 have hB1:B≤w1.heap.size:=by have:=B0.out.size;have:=b1'.size;omega
 have AC:=hid (m_Add h2.set hB1 hl (by omega) k hev2 (by have:=b1'.size;omega))
 unfold kapV at AC
 refine wpL_e (fun K hK=>?_)
 go_simp
 refine AC.out.mono ?_
 intro e w2 hpost
 have R1:=hid (row_below r0.out b1' zl)
 have BB1:=hid (B0.out.trans (b1'.mono B0.out.size))
 rcases hpost with⟨hk,rfl,b2⟩|⟨hk,hfull,rfl,b2⟩|⟨hk,hlt,rfl,⟨cv',hs2⟩,hf⟩
 ·refine hK _ _ ?_
  clear hK K
  repeat first|(refine wpL_p fun K hK=>?_;go_simp;refine hK _ _ ?_;clear hK K)|refine wpL_nil ?_
  go_wp2_with fail
  go_ret
  exact .inl ⟨hk,rfl,BB1.out.trans (b2.mono BB1.out.size)⟩
 ·refine hK _ _ ?_
  clear hK K
  repeat first|(refine wpL_p fun K hK=>?_;go_simp;refine hK _ _ ?_;clear hK K)|refine wpL_nil ?_
  go_wp2_with fail
  go_ret
  exact .inr (.inl ⟨hk,hfull,rfl,BB1.out.trans (b2.mono BB1.out.size)⟩)
 ·refine hK _ _ ?_
  clear hK K
  have h3:=h2.setTurn hs2 hf.1
  have r3:=hf.1 _ _ _ _ R1.out (by decide)
  have z:=row_cell r3
  have z0:=z 0
  have z1:=z 1
  simp at z0 z1
  have zl:=row_lt r3
  have H3:=hid h3
  have HF:=hid hf
  have R3:=hid r3
  have hB2:B≤w2.heap.size:=Nat.le_trans hB1 hf.2.size
  clear z h3 h2 r3 hf hs2 PC AC b1 b1'
  repeat first|(refine wpL_p fun K hK=>?_;go_simp;refine hK _ _ ?_;clear hK K)|refine wpL_nil ?_
  go_wp2_with fail
  refine(m_Put H3.out.que hB2 (by omega) k.1.1 a k.1.2.length c).mono ?_
  rintro e w4 ⟨rfl,qv',q4,f4,own4⟩
  have hqlt:=HQL.out
  have holt:=HOL.out
  have hq2:=OwnF.lt H3.out.que.own
  have ho2:=OwnF.lt H3.out.own
  have hz1:w.heap.size < w2.heap.size:=row_lt R3.out
  have r4:w4.heap[w.heap.size]?=some (.cells #[.int .i64 (k.1.1:Nat),.slice a k.1.2.length c] 181 (0,0)):=f4.row R3.out (fun hq=>by
   rcases hq with e|hq
   ·have:=H3.out.que.row;rw[←e,R3.out] at this;simp at this
   ·exact absurd (hqlt _ hq) (Nat.lt_irrefl _))
  have nQS:∀j,ov.ownBlock=some j→¬QS b13 qv j:=fun j hj hq=>by
   rcases hq with rfl|hq
   ·exact OwnF.neT H3.out.own H3.out.que.row (by decide) hj
   ·exact H3.out.dis j hq hj
  have n14:¬QS b13 qv b14:=fun hq=>by
   rcases hq with e|hq
   ·have:=H3.out.que.row;rw[←e,H3.out.ord] at this;simp at this
   ·exact OwnF.neT H3.out.que.own H3.out.ord (by decide) hq
  have ro4:=f4.row H3.out.ord n14
  have oo4:=OwnF.fr H3.out.own f4 nQS
  have hz24:w2.heap.size≤w4.heap.size:=f4.base.size
  have hB4:B≤w4.heap.size:=by omega
  obtain⟨ao,co,rfl,-⟩:=(OwnF.sl oo4).ex
  have z:=row_cell r4
  have z0:=z 0
  have z1:=z 1
  have y0:=row_cell ro4 0
  simp at z0 z1 y0
  have zl:=row_lt r4
  have yl:=row_lt ro4
  have RO4:=hid ro4
  have F4:=hid f4
  have Q4:=hid q4
  have NQS:=hid nQS
  have OWN4:=hid own4
  clear z r4 ro4 f4 q4 nQS own4 hqlt holt hz1
  have hor2:orows.length≤70000:=by omega
  go_wp2_with (at_builtin;refine wpList_appF rfl _ _ _ rfl _ 32 Tryz.underlying177 infoNd rfl oo4 (NR.mk k.1.1 (.slice a k.1.2.length c)) hB4 (by rfl) (by rfl) (by first|rfl|simp) rfl (nd_one _) (by first|omega|(simp only[List.length_append,List.length_cons,List.length_nil,List.length_replicate];omega)) (by first|omega|(simp only[List.length_append,List.length_cons,List.length_nil,List.length_replicate];omega)) ?_;refine Stop.halt ?_)
  refine Stop.go ?_
  intro g5 c5 w5 o5 G5
  have ne5:=OwnF.neT oo4 RO4.out (by decide)
  have r5:w5.heap[b14]?=some _:=row_grw RO4.out G5 ne5
  have y5:=row_cell r5 0
  simp at y5
  have yf:=row_free r5 0
  have yl5:=row_lt r5
  have oF:=hid (OwnF.other (j:=0) o5 (OwnF.neT o5 r5 (by decide)) (.slice (some ⟨g5,0,none⟩) (orows.length+1) c5))
  have rF:=hid (row_set r5 0 (.slice (some ⟨g5,0,none⟩) (orows.length+1) c5))
  have f46:Fr (fun j=>j=b14∨(Value.slice ao orows.length co).ownBlock=some j) w4 (w5.setCell ⟨b14,0,none⟩ (.slice (some ⟨g5,0,none⟩) (orows.length+1) c5)):=
   ((Fr.grw G5).mono fun j _ e=>Or.inr e).trans (Fr.setB (S:=fun j=>j=b14∨(Value.slice ao orows.length co).ownBlock=some j) (.inl rfl) 0 _) fun _ _ e=>e
  have FF:Fr (fun j=>QS b13 qv j∨j=b14∨(Value.slice ao orows.length co).ownBlock=some j) w2 (w5.setCell ⟨b14,0,none⟩ (.slice (some ⟨g5,0,none⟩) (orows.length+1) c5)):=
   (F4.out.mono fun j _ e=>Or.inl e).trans f46 fun j _ e=>Or.inr e
  have hty:∀j,(QS b13 qv j∨j=b14∨(Value.slice ao orows.length co).ownBlock=some j)→∃cs t,w2.heap[j]?=some (.cells cs t (0,0))∧(t=179∨t=181∨t=177):=by
   intro j hj
   rcases hj with(rfl|hj)|rfl|hj
   ·exact ⟨_,_,H3.out.que.row,.inl rfl⟩
   ·obtain ⟨cs,hcs⟩:=OwnF.keepObj H3.out.que.own j hj;exact⟨cs,_,hcs,.inr (.inl rfl)⟩
   ·exact ⟨_,_,H3.out.ord,.inr (.inr rfl)⟩
   ·obtain ⟨cs,hcs⟩:=OwnF.keepObj H3.out.own j hj;exact⟨cs,_,hcs,.inr (.inl rfl)⟩
  have nty:∀j cs t fz,w2.heap[j]?=some (.cells cs t fz)→(t≠179∧t≠181∧t≠177)→¬(QS b13 qv j∨j=b14∨(Value.slice ao orows.length co).ownBlock=some j):=by
   intro j cs t fz hj ht hS
   obtain⟨cs',t',h1,h2⟩:=hty j hS
   rw[hj] at h1
   simp only[Option.some.injEq,Obj.cells.injEq] at h1
   obtain⟨-,rfl,-⟩:=h1
   rcases h2 with h2|h2|h2
   ·exact ht.1 h2
   ·exact ht.2.1 h2
   ·exact ht.2.2 h2
  have set6:=H3.out.set.fr FF (fun j hj=>by
   rcases hj with rfl|rfl|hj
   ·exact nty _ _ _ _ H3.out.set.row (by decide)
   ·intro hS
    obtain⟨cs',t',h1,-⟩:=hty _ hS
    obtain⟨M,hM,-⟩:=H3.out.set.map
    obtain⟨es,cl,hes⟩:=hM.isMap
    rw[hes] at h1
    cases h1
   ·obtain ⟨cs,hcs⟩:=OwnF.keepObj H3.out.set.came j hj
    exact nty _ _ _ _ hcs (by decide))
  have var6:=FF.row H3.out.var (nty _ _ _ _ H3.out.var (by decide))
  have que6:=Q4.out.fr f46 (fun j hj=>by
   rintro(rfl|hov)
   ·rcases hj with e|hj
    ·have:=Q4.out.row;rw[←e,RO4.out] at this;simp at this
    ·exact OwnF.neT Q4.out.own RO4.out (by decide) hj
   ·rcases hj with rfl|hj
    ·exact NQS.out _ hov (.inl rfl)
    ·rcases OWN4.out j hj with e|e
     ·exact NQS.out _ hov (.inr e)
     ·have:=(ho2 j hov).2;omega)
  have dis6:∀j,qv'.ownBlock=some j→(Value.slice (some ⟨g5,0,none⟩) (orows.length+1) c5).ownBlock≠some j:=by
   intro j hj hg
   rcases G5.own j hg with e|e
   ·rcases OWN4.out j hj with e2|e2
    ·exact NQS.out _ e (.inr e2)
    ·have:=(ho2 j e).2;omega
   ·have:=(OwnF.lt Q4.out.own j hj).2;omega
  have kd6:Kd SeT w2 (w5.setCell ⟨b14,0,none⟩ (.slice (some ⟨g5,0,none⟩) (orows.length+1) c5)):=FF.kd fun j cs t fz hS hj=>by
   obtain⟨cs',t',h1,h2⟩:=hty j hS
   rw[hj] at h1
   simp only[Option.some.injEq,Obj.cells.injEq] at h1
   obtain⟨-,rfl,-⟩:=h1
   rcases h2 with h2|h2|h2
   ·exact .inr (.inr (.inl h2))
   ·exact .inr (.inr (.inr (.inl h2)))
   ·exact .inr (.inr (.inr (.inr h2)))
  have bel6:Below B w2 (w5.setCell ⟨b14,0,none⟩ (.slice (some ⟨g5,0,none⟩) (orows.length+1) c5)):=FF.toBelow hB2 fun j hj=>by
   rintro((rfl|hq)|rfl|hq)
   ·have:=H3.out.que.hB;omega
   ·have:=(hq2 j hq).1;omega
   ·have:=H3.out.hB.2;omega
   ·have:=(ho2 j hq).1;omega
  have FIN:=hid (show MemAt m (w5.setCell ⟨b14,0,none⟩ (.slice (some ⟨g5,0,none⟩) (orows.length+1) c5)) B b12 b13 b14 bS bm most cv' qv' (.slice (some ⟨g5,0,none⟩) (orows.length+1) c5) (L++[k]) (rows++[⟨k.1.1,.slice a k.1.2.length c⟩]) (orows++[⟨k.1.1,.slice a k.1.2.length c⟩]) n from
   ⟨var6,set6,que6,by simpa using rF.out,oF.out,dis6,H3.out.hB⟩)
  have KF:=hid ((((Kd.below BB1.out:Kd SeT w w1).trans (HF.out.1.mono fun t e=>by rcases e with e|e;exact .inl e;exact .inr (.inl e))).trans kd6))
  have BF:=hid (((BB1.out.mono (by omega)).trans HF.out.2).trans bel6)
  clear FF hty nty set6 var6 que6 dis6 kd6 bel6 f46 ne5 r5 o5 G5 oo4 hq2 ho2
  go_wp2_with fail
  go_ret
  exact .inr (.inr ⟨hk,hlt,rfl,⟨_,_,_,FIN.out⟩,KF.out,BF.out⟩)
end
end
