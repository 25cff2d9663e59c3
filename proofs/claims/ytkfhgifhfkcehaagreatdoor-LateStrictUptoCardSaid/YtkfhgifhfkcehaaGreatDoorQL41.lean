/- Parts of the proof, merged by program out of 3 texts (SnJ, SnK, Glo): the first: The search answers: of a game that leads to its end it says yes, or the budget is spent. Conditions: those of each theorem, as typed. -/
import Derived.Test.YtkfhgifhfkcehaaGreatDoorQL36
import Derived.Test.YtkfhgifhfkcehaaGreatDoorQL40
import Derived.Test.YtkfhgifhfkcehaaGreatDoorQL30
import Derived.Test.YtkfhgifhfkcehaaGreatDoorQL31
import Derived.Test.YtkfhgifhfkcehaaGreatDoorQL35
set_option linter.unusedVariables false
set_option linter.unusedSimpArgs false
set_option linter.unusedSectionVars false
set_option maxRecDepth 100000
set_option maxHeartbeats 4000000
namespace Go.Proofs.YtkfhgifhfkcehaaGreatDoor
open Go.Maps Go.RowKit
section
attribute [local irreducible] wpL
def FoundPost (w:World) (ev:Value) (e:Ending) (w':World):Prop:=∃(y:Bool) (a:Option Addr) (n c:Nat) (k:Int) (er:Value),e=.returned (.tuple #[.agg #[.bool y,.slice a n c,.int .i64 k],er])∧(er=.nilIface∧y=true∨er=ev)∧Below w.heap.size w w'
theorem mskOf_lt {lev:Int} {l:List St} {b:St} (h:l.length≤12):mskOf lev l b < 4096:=Nat.lt_of_lt_of_le (maskN_lt _ _) (pow_wrap h).2
def qOf (b13 b14:Nat) (w:World):Nat:=lenV ((w.cell? ⟨b14,0,none⟩).getD .nilIface) - (lenV ((w.cell? ⟨b13,0,none⟩).getD .nilIface) - (intOf ((w.cell? ⟨b13,1,none⟩).getD .nilIface)).toNat)
theorem qOf_eq {m B b12 b13 b14 bS bm most n:Nat} {cv qv ov:Value} {L:List (NdK m)} {rows orows:List NR} {w:World} (h:MemAt m w B b12 b13 b14 bS bm most cv qv ov L rows orows n):qOf b13 b14 w=orows.length - (rows.length - n):=by
 obtain⟨a,c,rfl⟩:=OwnF.slv h.own
 obtain⟨a',c',rfl⟩:=OwnF.slv h.que.own
 have y:=row_cell h.ord 0
 have z0:=row_cell h.que.row 0
 have z1:=row_cell h.que.row 1
 unfold qOf
 rw[y,z0,z1]
 simp[lenV,intOf]
theorem NodeIs.kdS {w w':World} {r:NR} {n:Nd} (h:NodeIs w r n) (hk:Kd SeT w w'):NodeIs w' r n:=h.kd hk (by unfold SeT;decide)
theorem NdsAt.kdS {w w':World} {rs:List NR} {ns:List Nd} (h:NdsAt w rs ns) (hk:Kd SeT w w'):NdsAt w' rs ns:=⟨h.1,fun k r n hr hn=>(h.2 k r n hr hn).kdS hk⟩
theorem NdsAt.snoc {w:World} {rs:List NR} {ns:List Nd} {r:NR} {n:Nd} (h:NdsAt w rs ns) (hr:NodeIs w r n):NdsAt w (rs++[r]) (ns++[n]):=by
 refine⟨by simp[h.1],fun k r' n' h1 h2=>?_⟩
 have hl:=h.1
 rcases Nat.lt_trichotomy k ns.length with hk|hk|hk
 ·rw [List.getElem?_append_left (by omega)] at h1 h2
  exact h.2 k r' n' h1 h2
 ·subst hk
  rw[List.getElem?_append_right (by omega)] at h1 h2
  simp[hl] at h1 h2
  subst h1 h2
  exact hr
 ·rw [List.getElem?_eq_none (by simp;omega)] at h2
  cases h2
section
variable {m B b12 b13 b14 bS bm most n:Nat} {cv qv ov:Value} {L:List (NdK m)} {rows orows:List NR} {w w':World}
theorem MemAt.qty (h:MemAt m w B b12 b13 b14 bS bm most cv qv ov L rows orows n):∀j,QS b13 qv j→∃cs t,w.heap[j]?=some (.cells cs t (0,0))∧(t=179∨t=181):=by
 rintro j (rfl|hj)
 ·exact ⟨_,_,h.que.row,.inl rfl⟩
 ·obtain ⟨cs,hcs⟩:=OwnF.keepObj h.que.own j hj;exact⟨cs,_,hcs,.inr rfl⟩
theorem MemAt.nty (h:MemAt m w B b12 b13 b14 bS bm most cv qv ov L rows orows n) {j:Nat} {cs:Array Value} {t:TypeId} {fz:Nat×Nat} (hj:w.heap[j]?=some (.cells cs t fz)) (ht:t≠179∧t≠181):¬QS b13 qv j:=fun hS=>by
 obtain⟨cs',t',h1,h2⟩:=h.qty j hS
 rw[hj] at h1
 simp only[Option.some.injEq,Obj.cells.injEq] at h1
 obtain⟨-,rfl,-⟩:=h1
 rcases h2 with h2|h2
 ·exact ht.1 h2
 ·exact ht.2 h2
theorem MemAt.queTurn (h:MemAt m w B b12 b13 b14 bS bm most cv qv ov L rows orows n) (hB:B≤w.heap.size) {qv':Value} {rows':List NR} {n':Nat} (hq:QueueAt w' B b13 qv' rows' n') (hf:Fr (QS b13 qv) w w') (ho:∀k,qv'.ownBlock=some k→qv.ownBlock=some k):
  MemAt m w' B b12 b13 b14 bS bm most cv qv' ov L rows' orows n'∧Kd SeT w w'∧Below B w w':=by
 refine⟨⟨hf.row h.var (h.nty h.var (by decide)),h.set.fr hf fun j hj=>?_,hq,hf.row h.ord (h.nty h.ord (by decide)),OwnF.fr h.own hf fun j hj=>?_,fun k hk=>h.dis k (ho k hk),h.hB⟩,hf.kd fun j cs t fz hS hj=>?_,hf.toBelow hB fun j hj=>?_⟩
 ·rcases hj with rfl|rfl|hj
  ·exact h.nty h.set.row (by decide)
  ·intro hS
   obtain⟨cs',t',h1,-⟩:=h.qty _ hS
   obtain⟨M,hM,-⟩:=h.set.map
   obtain⟨es,cl,hes⟩:=hM.isMap
   rw[hes] at h1
   cases h1
  ·obtain ⟨cs,hcs⟩:=OwnF.keepObj h.set.came j hj
   exact h.nty hcs (by decide)
 ·rintro (rfl|hq')
  ·exact OwnF.neT h.own h.que.row (by decide) hj
  ·exact h.dis j hq' hj
 ·obtain ⟨cs',t',h1,h2⟩:=h.qty j hS
  rw[hj] at h1
  simp only[Option.some.injEq,Obj.cells.injEq] at h1
  obtain⟨-,rfl,-⟩:=h1
  rcases h2 with h2|h2
  ·exact .inr (.inr (.inl h2))
  ·exact .inr (.inr (.inr (.inl h2)))
 ·rintro (rfl|hq')
  ·have:=h.que.hB;omega
  ·have:=(OwnF.lt h.que.own j hq').1;omega
end
theorem m_SetLen {m:Nat} {w:World} {B bS bm most:Nat} {cv:Value} {L:List (NdK m)} (h:SetAt m w B bS bm most cv L):
  Calls Tryz.prog 98 #[.pointer (some ⟨bS,0,none⟩)] w fun e w'=>e=.returned (.int .i64 L.length)∧w'=w:=by
 obtain⟨a,c,rfl,-⟩:=(OwnF.sl h.came).ex
 have y:=row_cell h.row 2
 simp at y
 have yl:=row_lt h.row
 go_enter Tryz.func98,Tryz.ntmps98
 go_wp2
 go_ret
 exact⟨rfl,rfl⟩
theorem GEnv.put {w:World} {B bG m B2 b12 b13 b14 bS bm most n:Nat} {g:Gm} {σ0:List Int} {tv mv fv:Value} (h:GEnv w B bG m g σ0 tv mv fv) {cv qv ov:Value} {L:List (NdK m)} {rows orows:List NR} (hM:MemAt m w B2 b12 b13 b14 bS bm most cv qv ov L rows orows n) (hB:B2≤w.heap.size) (hl:L.length≤most) (hm:most≤65536) (hr:rows.length≤65536) (hor:orows.length≤65536)
  {t0:TypeId} {v0:Value} (hev:w.cell? ⟨0,0,none⟩=some (.iface t0 v0)) {d:Nd} (hn:NdOk g m d) {a:Option Addr} {c:Nat} (hs:OwnS w 0 (.slice a d.2.length c) d.2):
  Calls Tryz.prog 91 #[.agg #[.int .i64 (d.1:Nat),.slice a d.2.length c],.pointer (some ⟨b12,0,none⟩),.pointer (some ⟨b13,0,none⟩),.pointer (some ⟨b14,0,none⟩)] w (PutPost m w B2 b12 b13 b14 bS bm most qv ov L rows orows n (h.key hn) ⟨d.1,.slice a d.2.length c⟩ (.iface t0 v0)):=
 s_put hM hB hl hm hr hor (h.key hn) hs h.pow h.wrd hev h.bud.1
theorem key_mem {w:World} {B bG m:Nat} {g:Gm} {σ0:List Int} {tv mv fv:Value} (h:GEnv w B bG m g σ0 tv mv fv) {d:Nd} (hn:NdOk g m d) {L:List (NdK m)}:h.key hn ∈ L↔d ∈ L.map (·.1):=by
 constructor
 ·intro hk;exact List.mem_map.2 ⟨_,hk,rfl⟩
 ·intro hk
  obtain⟨k,hk,e⟩:=List.mem_map.1 hk
  have:k=h.key hn:=Subtype.ext e
  rw[←this];exact hk
def TrF (w:World) (B:Nat) (v:Value) (rs:List TnR) (ts:List Tn):Prop:=OwnF TnR.cells 195 4 w B v rs∧rs.length=ts.length∧∀(k:Nat) (r:TnR) (t:Tn),rs[k]?=some r→ts[k]?=some t→TurnIs w r t
theorem TrF.below {w w':World} {B:Nat} {v:Value} {rs:List TnR} {ts:List Tn} (h:TrF w B v rs ts) (hb:Below w.heap.size w w'):TrF w' B v rs ts:=⟨OwnF.below h.1 hb,h.2.1,fun k r t hr ht=>(h.2.2 k r t hr ht).below hb⟩
theorem TrF.kdS {w w':World} {B:Nat} {v:Value} {rs:List TnR} {ts:List Tn} (h:TrF w B v rs ts) (hk:Kd SeT w w'):TrF w' B v rs ts:=
 ⟨OwnF.kd h.1 hk (by unfold SeT;decide),h.2.1,fun k r t hr ht=>let x:=h.2.2 k r t hr ht;⟨x.1,x.2.1,x.2.2.1,OwnF.kd x.2.2.2 hk (by unfold SeT;decide)⟩⟩
def SInv (m:Nat) (W1:World) (b12 most:Nat) (ord:List Nd) (q:Nat) (wr:World):Prop:=∃n cv qv ov L rows orows,MemAt m wr W1.heap.size b12 (b12+1) (b12+1+1) (W1.heap.size+1) W1.heap.size most cv qv ov L rows orows n∧L.map (·.1)=ord∧NdsAt wr orows ord∧NdsAt wr (rows.drop n) (ord.drop q)∧ord.length≤most∧rows.length≤orows.length∧q≤ord.length∧Below W1.heap.size W1 wr
theorem SInv.below {m b12 most q:Nat} {W1 wr wr':World} {ord:List Nd} (h:SInv m W1 b12 most ord q wr) (hb:Below wr.heap.size wr wr'):SInv m W1 b12 most ord q wr':=by
 obtain⟨n,cv,qv,ov,L,rows,orows,h1,h2,h3,h4,h5,h6,h7,h8⟩:=h
 exact⟨n,cv,qv,ov,L,rows,orows,h1.below hb,h2,h3.below hb,h4.below hb,h5,h6,h7,h8.trans (hb.mono h8.size)⟩
theorem SInv.qOf {m b12 most q:Nat} {W1 wr:World} {ord:List Nd} (h:SInv m W1 b12 most ord q wr):qOf (b12+1) (b12+1+1) wr=q:=by
 obtain⟨n,cv,qv,ov,L,rows,orows,h1,h2,h3,h4,h5,h6,h7,h8⟩:=h
 rw[qOf_eq h1,h3.1]
 have:=h4.1
 simp only[List.length_drop] at this
 omega
theorem s_search (lev:Int) (hl:lev=1∨lev=2∨lev=3) (most:Nat) (hmo:1≤most∧most≤65536) (ov vv:Value) (os:List Ob) (es:List Ev) (A:Au) (w:World) (ho:Sl w w.heap.size 2 ov os.length (os.flatMap Ob.cells)) (he:Sl w w.heap.size 8 vv es.length (es.flatMap Ev.cells)) (hne:os≠[]) (hr:RegOk os) (hel:es.length≤400) (hes:∀e ∈ es,EvOk os.length e) (hW:WordsAt w) (hF:Fed es A) (hA:A.length≤12)
  (hP:PowAt w) (hEa:ErrAt 15 w) {t0:TypeId} {v0:Value} (hEb:0 < w.heap.size∧w.cell? ⟨0,0,none⟩=some (.iface t0 v0)) (hdd:∀s ∈ A,∀d ∈ s.deeds,DdR os.length d) (hE:(gmOf lev A).Ends (0,os.map (·.init))):
  Calls Tryz.prog 51 #[.chan none,.agg #[ov,vv],.int .i64 lev,.int .i64 most] w (FoundPost w (.iface t0 v0)):=by
 classical
 obtain⟨ao,co,rfl,mo⟩:=ho.ex
 obtain⟨ae,ce,rfl,me⟩:=he.ex
 obtain⟨hm1,hm2⟩:=hmo
 have q1:decide (lev < 1)=false:=by simp;omega
 have q2:decide (lev > 3)=false:=by simp;omega
 have q2':decide (3 < lev)=false:=by simp;omega
 have q3:decide ((most:Int) < 1)=false:=by simp;omega
 have q4:decide ((most:Int) > 65536)=false:=by simp;omega
 have q4':decide (65536 < (most:Int))=false:=by simp;omega
 have b0:Below w.heap.size w ((w.alloc (.cells #[.slice ao os.length co,.slice ae es.length ce] 37)).alloc (.cells #[.bool false,.slice none 0 0,.int .i64 0] 68)):=((Below.refl _ w).alloc (Nat.le_refl _) _).alloc (by simp) _
 have r0:((w.alloc (.cells #[.slice ao os.length co,.slice ae es.length ce] 37)).alloc (.cells #[.bool false,.slice none 0 0,.int .i64 0] 68)).heap[w.heap.size]?=some (.cells #[.slice ao os.length co,.slice ae es.length ce] 37 (0,0)):=row_old (row_new w _)
 have r8:((w.alloc (.cells #[.slice ao os.length co,.slice ae es.length ce] 37)).alloc (.cells #[.bool false,.slice none 0 0,.int .i64 0] 68)).heap[w.heap.size+1]?=some (.cells #[.bool false,.slice none 0 0,.int .i64 0] 68 (0,0)):=row_new' (by simp)
 have hz0:=hid (show((w.alloc (.cells #[.slice ao os.length co,.slice ae es.length ce] 37)).alloc (.cells #[.bool false,.slice none 0 0,.int .i64 0] 68)).heap.size=w.heap.size+2 by simp)
 have HL:=hid hl
 have HOe:=hid hE
 have HDD:=hid hdd
 have HP:=hid hP
 have HWd:=hid hW
 have HEa:=hid hEa
 have HEb:=hid hEb
 have HRr:=hid hr
 have HF:=hid hF
 have hol:=hr.1
 go_enter Tryz.func51,Tryz.ntmps51
 go_wp2_with fail
 generalize (w.alloc (.cells #[.slice ao os.length co,.slice ae es.length ce] 37)).alloc (.cells #[.bool false,.slice none 0 0,.int .i64 0] 68)=W at *
 have BC:=hid (b_begin lev hl (.slice ao os.length co) (.slice ae es.length ce) os es A W ((ho.below b0).more b0.size) ((he.below b0).more b0.size) hne hr hel hes (hW.below b0) hF hA)
 have y:=row_cell r0
 have y0:=y 0
 have y1:=y 1
 simp at y0 y1
 have yl:=row_lt r0
 have R8:=hid r8
 have B0:=hid b0
 clear y r0 r8 b0 ho he hes hW hF hP hEa hEb hdd hE hl hr hne hel
 go_wp2_with fail
 refine BC.out.mono ?_
 rintro e W1 ⟨bG,tv,mv,fv,rfl,G1,b1⟩
 have hz1:=b1.size
 have B1:=hid (B0.out.trans (b1.mono B0.out.size))
 have R81:=hid (row_below R8.out b1 (row_lt R8.out))
 have hfl:(A.filter (cntd lev)).length≤12:=Nat.le_trans (List.length_filter_le _ _) hA
 have GE:GEnv W1 W.heap.size bG os.length (gmOf lev A) (os.map (·.init)) tv mv fv:=by
  refine⟨G1,hfl,fun x hx=>?_,by simp[gmOf],fun s hs d hd=>HDD.out s (List.mem_filter.1 hs).1 d hd,hol,HP.out.below B1.out,HWd.out.below B1.out,HEa.out.below B1.out,ErrAt.below ⟨HEb.out.1,t0,v0,HEb.out.2⟩ B1.out⟩
  obtain⟨s,-,rfl⟩:=List.mem_map.1 hx
  exact mskOf_lt hfl
 have hn0:NdOk (gmOf lev A) os.length (0,os.map (·.init)):=⟨Nat.two_pow_pos _,by simp,fun x hx=>by
  obtain⟨o,ho,rfl⟩:=List.mem_map.1 hx
  exact(HRr.out.2 o ho).2⟩
 obtain⟨af,cf,hfv⟩:=OwnF.slv G1.first
 rw[List.length_map] at hfv
 subst hfv
 have HGE:=hid GE
 have HN0:=hid hn0
 have hev1:=hid (cell_below B1.out HEb.out.1 HEb.out.2)
 have MC:=hid (m_New os.length most W1 (by omega))
 clear GE hn0 b1 G1 y0 y1 yl BC R8 B0
 generalize hgg:gmOf lev A=g at *
 go_wp2_with fail
 refine MC.out.mono ?_
 rintro e W2 ⟨rfl,S2,b2⟩
 have hz2:=b2.size
 have b5:Below W2.heap.size W2 (((W2.alloc (.cells #[.pointer (some ⟨W1.heap.size+1,0,none⟩)] 173)).alloc (.cells #[.slice none 0 0,.int .i64 0] 179)).alloc (.cells #[.slice none 0 0] 177)):=(((Below.refl _ W2).alloc (Nat.le_refl _) _).alloc (by simp) _).alloc (by simp;omega) _
 have r12:(((W2.alloc (.cells #[.pointer (some ⟨W1.heap.size+1,0,none⟩)] 173)).alloc (.cells #[.slice none 0 0,.int .i64 0] 179)).alloc (.cells #[.slice none 0 0] 177)).heap[W2.heap.size]?=some (.cells #[.pointer (some ⟨W1.heap.size+1,0,none⟩)] 173 (0,0)):=row_old (row_old (row_new W2 _))
 have r13:(((W2.alloc (.cells #[.pointer (some ⟨W1.heap.size+1,0,none⟩)] 173)).alloc (.cells #[.slice none 0 0,.int .i64 0] 179)).alloc (.cells #[.slice none 0 0] 177)).heap[W2.heap.size+1]?=some (.cells #[.slice none 0 0,.int .i64 0] 179 (0,0)):=row_old (row_new' (by simp))
 have r14:(((W2.alloc (.cells #[.pointer (some ⟨W1.heap.size+1,0,none⟩)] 173)).alloc (.cells #[.slice none 0 0,.int .i64 0] 179)).alloc (.cells #[.slice none 0 0] 177)).heap[W2.heap.size+1+1]?=some (.cells #[.slice none 0 0] 177 (0,0)):=row_new' (by simp)
 have B5:=hid (b2.trans (b5.mono hz2))
 have hg5:=row_below HGE.out.game.row B5.out (row_lt HGE.out.game.row)
 have yg:=row_cell hg5 3
 simp only[List.getElem?_toArray,List.getElem?_cons_succ,List.getElem?_cons_zero] at yg
 have ygl:=row_lt hg5
 have M5:=hid (show MemAt os.length (((W2.alloc (.cells #[.pointer (some ⟨W1.heap.size+1,0,none⟩)] 173)).alloc (.cells #[.slice none 0 0,.int .i64 0] 179)).alloc (.cells #[.slice none 0 0] 177)) W1.heap.size W2.heap.size (W2.heap.size+1) (W2.heap.size+1+1) (W1.heap.size+1) W1.heap.size most (.slice none 0 0) (.slice none 0 0) (.slice none 0 0) [] [] [] 0 from
  ⟨r12,S2.below b5,⟨r13,OwnF.nil _ _,Nat.le_refl _,by omega⟩,r14,OwnF.nil _ _,(fun k e=>by cases e),⟨hz2,by omega⟩⟩)
 have henter:∀args w,(callFunc 91 args).run Tryz.prog w=.ok (.enter 91 args) w:=enters_of Tryz.func91 (by kernel_rfl) rfl
 have GE5:=hid (HGE.out.below B5.out)
 have PC0:=(s_put M5.out (B5.out.size) (by simp) (by omega) (by simp) (by simp) (HGE.out.key HN0.out) (OwnF.base GE5.out.game.first (Nat.zero_le _) |> fun h=>by have:=h;rw[show (HGE.out.key HN0.out).1.2.length=os.length by simp[GEnv.key]];exact this) GE5.out.pow GE5.out.wrd (cell_below B5.out (by have:=B1.out.size;have:=HEb.out.1;omega) hev1.out) (by have:=B1.out.size;have:=HEb.out.1;have:=B5.out.size;omega))
 rw[show (HGE.out.key HN0.out).1.2.length=os.length from by simp[GEnv.key]] at PC0
 have PC:=hid PC0
 clear r12 r13 r14 S2 b2 b5 hg5 MC PC0
 go_wp2_with fail
 refine PC.out.mono ?_
 rintro e W6 (⟨hk,-⟩|⟨-,hfull,-⟩|⟨-,-,rfl,⟨cv6,qv6,ov6,M6⟩,kd6,bel6⟩)
 ·cases hk
 ·simp at hfull;omega
 have M6:=hid M6
 have B6:=hid (show Below W1.heap.size W1 W6 from B5.out.trans bel6)
 have R86:=hid (row_below R81.out B6.out (row_lt R81.out))
 have GE6:=hid (HGE.out.below B6.out)
 have hN6:NodeIs W6 ⟨0,.slice af os.length cf⟩ (0,os.map (·.init)):=⟨rfl,by have:=OwnF.base GE6.out.game.first (Nat.zero_le _);exact this⟩
 have HN6:=hid hN6
 clear PC kd6 bel6 M5 yg ygl GE5 hN6 hz2 B5
 generalize hb12:W2.heap.size=b12 at *
 go_wp2_with fail
 go_loopw [] (fun wr=>∃(ord:List Nd) (q:Nat),SInv os.length W1 b12 most ord q wr∧Bfs g os.length (0,os.map (·.init)) ord q) (fun wr=>most+1 - qOf (b12+1) (b12+1+1) wr)
 case atStart=>
  refine⟨[(0,os.map (·.init))],0,⟨0,cv6,qv6,ov6,_,_,_,M6.out,rfl,?_,?_,by simp;omega,by simp,by simp,B6.out⟩,Bfs.start HN0.out⟩
  ·exact NdsAt.snoc (rs:=[]) (ns:=[]) ⟨rfl,fun k r n h=>by simp at h⟩ HN6.out
  ·exact NdsAt.snoc (rs:=[]) (ns:=[]) ⟨rfl,fun k r n h=>by simp at h⟩ HN6.out
 case round=>
  obtain⟨ord,q,hI,hBf⟩:=hrel
  obtain⟨n,cv,qv,ov,L,rows,orows,h1,h2,h3,h4,h5,h6,h7,h8⟩:=hI
  have hqo:qOf (b12+1) (b12+1+1) wr=q:=SInv.qOf ⟨n,cv,qv,ov,L,rows,orows,h1,h2,h3,h4,h5,h6,h7,h8⟩
  have hsz:=h8.size
  have hol2:orows.length≤65536:=by have:=h3.1;omega
  have hrl2:rows.length≤70000:=by omega
  have M1:=hid h1
  have HL2:=hid h2
  have N3:=hid h3
  have N4:=hid h4
  have BF:=hid hBf
  have B8:=hid h8
  have HQO:=hid hqo
  have h41:=h4.1
  have hle:=h1.que.le
  clear h1 h2 h3 h4 hBf h8 hqo M6 B6 R86 GE6 HN6
  simp only[List.length_drop] at h41
  by_cases hlt:q < ord.length
  ·have hnr:n < rows.length:=by omega
   obtain⟨r,hr⟩:∃r,rows[n]?=some r:=⟨_,List.getElem?_eq_getElem hnr⟩
   obtain⟨c,hc⟩:∃c,ord[q]?=some c:=⟨_,List.getElem?_eq_getElem hlt⟩
   have hni:=N4.out.2 0 r c (by rw[List.getElem?_drop];exact hr) (by rw[List.getElem?_drop];exact hc)
   obtain⟨a1,c1,hsv⟩:=hni.slv
   have TC:=hid (m_Take M1.out.que hsz hrl2 hr hsv)
   obtain⟨hp1,hos⟩:=hni
   obtain⟨rp,rv⟩:=r
   simp only at hp1 hsv hos
   subst hp1 hsv
   have HOS:=hid hos
   have HC:=hid hc
   have hok:NdOk g os.length c:=BF.out.ok c (List.mem_of_getElem? hc)
   clear hr hc hos
   go_wp2_with fail
   refine TC.out.mono ?_
   rintro e W7 ⟨rfl,qv',rows',n',Q7,hdrop,hlen,F7,own7⟩
   obtain⟨M7,kd7,bel7⟩:=M1.out.queTurn hsz Q7 F7 own7
   have b8:Below W7.heap.size W7 (W7.alloc (.cells #[.int .i64 (c.1:Nat),.slice a1 c.2.length c1] 181)):=(Below.refl _ W7).alloc (Nat.le_refl _) _
   have r8:=row_new W7 (.cells #[.int .i64 (c.1:Nat),.slice a1 c.2.length c1] 181)
   have B78:=hid ((B8.out.trans bel7).trans (b8.mono (Nat.le_trans hsz bel7.size)))
   have M8:=hid (M7.below b8)
   have OS8:=hid (OwnF.below (OwnF.kd HOS.out kd7 (by unfold SeT;decide)) b8)
   have N38:=hid ((N3.out.kdS kd7).below b8)
   have hd1:ord.drop (q+1)=(ord.drop q).drop 1:=by rw[List.drop_drop]
   have N48:Hid (NdsAt (W7.alloc (.cells #[.int .i64 (c.1:Nat),.slice a1 c.2.length c1] 181)) (rows'.drop n') (ord.drop (q+1))):=hid (by
    have h:=(N4.out.kdS kd7).below b8
    rw[hdrop]
    refine⟨by have:=h.1;simp only[List.length_drop] at this ⊢;omega,fun k r d h1 h2=>h.2 (k+1) r d ?_ ?_⟩
    ·rw [List.getElem?_drop] at h1 ⊢;rw[←h1];congr 1;omega
    ·rw [List.getElem?_drop] at h2 ⊢;rw[←h2];congr 1;omega)
   have hlen':rows'.length≤orows.length:=Nat.le_trans hlen h6
   have z:=row_cell r8
   have z0:=z 0
   have z1:=z 1
   have zl:=row_lt r8
   clear z r8 M7 kd7 bel7 F7 own7 Q7 TC hd1 hdrop b8
   go_wp2_with fail
   generalize W7.alloc (.cells #[.int .i64 (c.1:Nat),.slice a1 c.2.length c1] 181)=W8 at *
   refine(n_asked W8).mono ?_
   rintro e W8' ⟨rfl,rfl⟩
   simp at z0 z1
   have G8:=hid (HGE.out.below B78.out)
   have UC:=hid (G8.out.turns hok OS8.out)
   go_wp2_with fail
   refine UC.out.mono ?_
   rintro e W9 ⟨tv5,rfl,T5,b9⟩
   obtain⟨trs,o5,htl,htc⟩:=T5
   obtain⟨at5,ct5,rfl⟩:=OwnF.slv o5
   have T9:Hid (TrF W9 W8'.heap.size (.slice at5 trs.length ct5) trs (g.turns c)):=hid ⟨o5,htl,htc⟩
   have htlm:trs.length≤30:=by rw[htl];have:=len_turnsK g c g.txs.length;have:=HGE.out.few;unfold Gm.turns;omega
   have B9:=hid (B78.out.trans (b9.mono B78.out.size))
   have M9:=hid (M8.out.below b9)
   have N39:=hid (N38.out.below b9)
   have N49:=hid (N48.out.below b9)
   have HTL:=hid htl
   clear o5 htl htc b9 UC z0 z1 zl
   go_wp2_with fail
   go_loopw [78] (fun y wx=>∃(k:Nat) (ord':List Nd),k≤trs.length∧y=.int .i64 k∧SInv os.length W1 b12 most ord' (q+1) wx∧Bmd g os.length (0,os.map (·.init)) ord' q k c∧TrF wx W8'.heap.size (.slice at5 trs.length ct5) trs (g.turns c)) (fun y _=>trs.length - (intOf y).toNat)
   case atStart=>exact⟨0,ord,by omega,by go_num,⟨n',cv,qv',ov,L,rows',orows,M9.out,HL2.out,N39.out,N49.out,h5,hlen',by omega,B9.out⟩,BF.out.take HC.out,T9.out⟩
   case round=>
    obtain⟨k,ord',hk3,rfl,⟨n2,cv2,qv2,ov2,L2,rows2,orows2,i1,i2,i3,i4,i5,i6,i7,i8⟩,hBm,hT⟩:=hrel
    clear M9 N39 N49 B9 T9
    have hsz9:=i8.size
    have hor2:orows2.length≤65536:=by have:=i3.1;omega
    have hL2l:L2.length≤most:=by
     have:L2.length=ord'.length:=by rw[←i2];simp
     omega
    have J1:=hid i1
    have J2:=hid i2
    have J3:=hid i3
    have J4:=hid i4
    have J8:=hid i8
    have BM:=hid hBm
    have TT:=hid hT
    clear i1 i2 i3 i4 i8 hBm hT
    by_cases hlt3:k < trs.length
    ·obtain ⟨b',off',r,rfl,hbb',hrx,hc⟩:=(OwnF.sl TT.out.1).atF TnR.len rfl hlt3
     obtain⟨t,ht⟩:∃t,(g.turns c)[k]?=some t:=⟨_,List.getElem?_eq_getElem (by have:=HTL.out;omega)⟩
     obtain⟨te1,te2,te3,tos⟩:=TT.out.2.2 k r t hrx ht
     obtain⟨ti,tc,tp,tv1⟩:=r
     simp only at te1 te2 te3 tos
     subst te1 te2 te3
     obtain⟨a2,c2,hsv2⟩:=OwnF.slv tos
     subst hsv2
     have d0:wr.cell? ⟨b',off'+k*4,none⟩=some (.int .i64 t.id):=hc 0 (by decide)
     have d1:wr.cell? ⟨b',off'+k*4+1,none⟩=some (.bool t.com):=hc 1 (by decide)
     have d2:wr.cell? ⟨b',off'+k*4+2,none⟩=some (.int .i64 (t.to.1:Nat)):=hc 2 (by decide)
     have d3:wr.cell? ⟨b',off'+k*4+3,none⟩=some (.slice a2 t.to.2.length c2):=hc 3 (by decide)
     have HT:=hid ht
     have TOS:=hid tos
     clear hc hrx ht tos hbb'
     have b6:Below wr.heap.size wr (wr.alloc (.cells #[.int .i64 t.id,.bool t.com,.int .i64 (t.to.1:Nat),.slice a2 t.to.2.length c2] 195)):=(Below.refl _ wr).alloc (Nat.le_refl _) _
     have B10:=hid (J8.out.trans (b6.mono hsz9))
     have M10:=hid (J1.out.below b6)
     have N10:=hid (J3.out.below b6)
     have O10:=hid (J4.out.below b6)
     have T10:=hid (TT.out.below b6)
     have S10:=hid (OwnF.below TOS.out b6)
     have G10:=hid (HGE.out.below B10.out)
     have htok:NdOk g os.length t.to:=turn_ok hok HGE.out.deedv (List.mem_of_getElem? HT.out)
     have hev10:(wr.alloc (.cells #[.int .i64 t.id,.bool t.com,.int .i64 (t.to.1:Nat),.slice a2 t.to.2.length c2] 195)).cell? ⟨0,0,none⟩=some (.iface t0 v0):=cell_below B10.out (by have:=B1.out.size;have:=HEb.out.1;omega) hev1.out
     have PC:=hid (G10.out.put M10.out (by have:=B10.out.size;exact this) hL2l hm2 (by omega) hor2 hev10 htok S10.out)
     have HEV:=hid hev10
     clear hev10 b6
     go_wp2_with fail
     generalize wr.alloc (.cells #[.int .i64 t.id,.bool t.com,.int .i64 (t.to.1:Nat),.slice a2 t.to.2.length c2] 195)=W10 at *
     refine PC.out.mono ?_
     rintro e W11 (⟨hkin,rfl,b11⟩|⟨-,-,rfl,b11⟩|⟨hkin,hlm,rfl,⟨cv3,qv3,ov3,M11⟩,kd11,bel11⟩)
     ·have hin:t.to ∈ ord':=by have:=(key_mem G10.out htok).1 hkin;rw[J2.out] at this;exact this
      have F1:=hid (show SInv os.length W1 b12 most ord' (q+1) W11 from⟨n2,cv2,qv2,ov2,L2,rows2,orows2,M10.out.below b11,J2.out,N10.out.below b11,O10.out.below b11,i5,i6,i7,B10.out.trans (b11.mono B10.out.size)⟩)
      have F2:=hid (BM.out.old HT.out hin)
      have F3:=hid (T10.out.below b11)
      clear PC
      go_wp2_with fail
      exact⟨⟨k+1,ord',by omega,by go_num,F1.out,F2.out,F3.out⟩,by simp[intOf];omega⟩
     ·have B11:=hid (B10.out.trans (b11.mono B10.out.size))
      have R11:=hid (row_below R81.out B11.out (row_lt R81.out))
      have y:=row_cell R11.out
      have u0:=y 0
      have u1:=y 1
      have u2:=y 2
      simp at u0 u1 u2
      have uf:=fun j=>row_free R11.out j
      have ul:=row_lt R11.out
      have rT:=row_set (row_set (row_set R11.out 0 (.bool false)) 1 (.slice none 0 0)) 2 (.int .i64 0)
      have cc:=row_cell rT
      have cc0:=cc 0
      have cc1:=cc 1
      have cc2:=cc 2
      simp at cc0 cc1 cc2
      have hB1:=B1.out.size
      clear y cc rT PC
      go_wp2_with fail
      refine bodyPost_ret (v:=.tuple #[.agg #[.bool false,.slice none 0 0,.int .i64 0],.iface t0 v0]) ?hres rfl ?_
      case hres=>simp[results,Tryz.results51,go_sem,cc0,cc1,cc2]
      exact⟨false,none,0,0,0,_,rfl,.inr rfl,(((B1.out.trans (B11.out.mono hB1)).setCell (p:=⟨w.heap.size+1,0,none⟩) (Nat.le_succ _) _).setCell (p:=⟨w.heap.size+1,1,none⟩) (Nat.le_succ _) _).setCell (p:=⟨w.heap.size+1,2,none⟩) (Nat.le_succ _) _⟩
     ·have hnin:t.to ∉ ord':=fun hx=>hkin ((key_mem G10.out htok).2 (by rw[J2.out];exact hx))
      have hni11:NodeIs W11 ⟨t.to.1,.slice a2 t.to.2.length c2⟩ t.to:=NodeIs.kdS ⟨rfl,S10.out⟩ kd11
      have hL2e:L2.length=ord'.length:=by rw[←J2.out];simp
      have hle2:=J1.out.que.le
      have F1:=hid (show SInv os.length W1 b12 most (ord'++[t.to]) (q+1) W11 from⟨n2,cv3,qv3,ov3,L2++[_],rows2++[_],orows2++[_],M11,by rw[List.map_append,J2.out];rfl,(N10.out.kdS kd11).snoc hni11,
       by rw[List.drop_append_of_le_length hle2,List.drop_append_of_le_length i7];exact(O10.out.kdS kd11).snoc hni11,by simp;omega,by simp;omega,by simp;omega,B10.out.trans bel11⟩)
      have F2:=hid (BM.out.put HGE.out.deedv HT.out hnin)
      have F3:=hid (T10.out.kdS kd11)
      clear PC M11 kd11 bel11
      go_wp2_with fail
      exact⟨⟨k+1,_,by omega,by go_num,F1.out,F2.out,F3.out⟩,by simp[intOf];omega⟩
    ·obtain rfl:k=trs.length:=by omega
     have hq3:decide ((trs.length:Int) < (trs.length:Int))=false:=by simp
     have SI:=hid (show SInv os.length W1 b12 most ord' (q+1) wr from⟨n2,cv2,qv2,ov2,L2,rows2,orows2,J1.out,J2.out,J3.out,J4.out,i5,i6,i7,J8.out⟩)
     have BD:=hid (BM.out.done (by have:=HTL.out;omega))
     go_wp2_with fail
     refine⟨⟨ord',q+1,SI.out,BD.out⟩,?_⟩
     rw[SI.out.qOf,HQO.out]
     omega
  ·have hn:n=rows.length:=by omega
   have TC:=hid (m_TakeNone M1.out.que hn hrl2)
   go_wp2_with fail
   refine TC.out.mono ?_
   rintro e W7 ⟨rfl,b7⟩
   have b8':Below wr.heap.size wr (W7.alloc (.cells #[.int .i64 0,.slice none 0 0] 181)):=b7.alloc b7.size _
   have M8:=hid (M1.out.below b8')
   have B9:=hid (B8.out.trans (b8'.mono hsz))
   have N9:=hid (N3.out.below b8')
   have x0:=row_cell M8.out.var 0
   simp at x0
   have xl:=row_lt M8.out.var
   have LC:=hid (m_SetLen M8.out.set)
   clear b7 b8' TC
   go_wp2_with fail
   generalize W7.alloc (.cells #[.int .i64 0,.slice none 0 0] 181)=W8 at *
   refine LC.out.mono ?_
   rintro e W8' ⟨rfl,rfl⟩
   have b9:Below W8'.heap.size W8' (W8'.alloc (.cells #[.bool false,.slice none 0 0,.int .i64 L.length] 68)):=(Below.refl _ W8').alloc (Nat.le_refl _) _
   have r22:=hid (row_new W8' (.cells #[.bool false,.slice none 0 0,.int .i64 L.length] 68))
   have M10:=hid (M8.out.below b9)
   have B10:=hid (B9.out.trans (b9.mono B9.out.size))
   have N10:=hid (N9.out.below b9)
   have G10:=hid (HGE.out.below B10.out)
   have R10:=hid (row_below R81.out B10.out (row_lt R81.out))
   have x1:=row_cell M10.out.ord 0
   simp at x1
   have xl1:=row_lt M10.out.ord
   have hfull:Bfs g os.length (0,os.map (·.init)) ord ord.length:=by
    have:q=ord.length:=by omega
    rw[←this];exact BF.out
   obtain⟨aov,cov,hov⟩:=OwnF.slv M10.out.own
   subst hov
   have EC:=hid (g_leads G10.out (OwnF.sl M10.out.own) N10.out hfull hol2)
   clear b9 LC x0 xl
   go_wp2_with fail
   generalize W8'.alloc (.cells #[.bool false,.slice none 0 0,.int .i64 L.length] 68)=W10 at *
   have HZ22:=hid (show W1.heap.size≤W8'.heap.size from B9.out.size)
   generalize W8'.heap.size=b22 at *
   refine EC.out.mono ?_
   rintro e W11 ⟨bl,M,rfl,RM,LD,b11⟩
   have B11:=hid (B10.out.trans (b11.mono B10.out.size))
   have G11:=hid (HGE.out.below B11.out)
   have R11:=hid (row_below R10.out b11 (row_lt R10.out))
   have r22':=hid (row_below r22.out b11 (row_lt r22.out))
   have hs11:OwnS W11 0 (.slice af os.length cf) (os.map (·.init)):=OwnF.base G11.out.game.first (Nat.zero_le _)
   have PC:Calls Tryz.prog 93 #[.agg #[.int .i64 0,.slice af os.length cf]] W11 fun e w'=>e=.returned (.agg #[.int .i64 0,.string (keyB (os.map (·.init)))])∧Below W11.heap.size W11 w':=G11.out.pair HN0.out hs11
   have PC:=hid PC
   have yg:=row_cell G11.out.game.row 3
   simp only[List.getElem?_toArray,List.getElem?_cons_succ,List.getElem?_cons_zero] at yg
   have ygl:=row_lt G11.out.game.row
   have hMk:=(LD (HGE.out.key HN0.out)).1 (List.mem_of_getElem? hfull.hd)
   have hEE:g.Ends (0,os.map (·.init)):=HOe.out
   have HRM:=hid RM
   have HLD:=hid LD
   have HFU:=hid hfull
   clear EC hs11 RM LD b11 hfull x1 xl1
   go_wp2_with fail
   refine PC.out.mono ?_
   rintro e W12 ⟨rfl,b12'⟩
   have B12:=hid (B11.out.trans (b12'.mono B11.out.size))
   have G12:=hid (HGE.out.below B12.out)
   have R12:=hid (row_below R11.out b12' (row_lt R11.out))
   have RM12:=HRM.out.below b12' HRM.out.lt
   have r22b:=hid (row_below r22'.out b12' (row_lt r22'.out))
   have hlk:Sem.run Tryz.prog (Instr.lookup 197 (.map (some bl)) (.agg #[.int .i64 0,.string (keyB (os.map (·.init)))]) false) W12=.ok (.bool true) W12:=by
    have:=(RM12.look (kap os.length) Tryz.underlying197 (zv:=.bool false) (by kernel_rfl) (HGE.out.key HN0.out) hMk).1
    simp only[Option.getD_some] at this
    rw[show decide (g.Ends (HGE.out.key HN0.out).1)=true from decide_eq_true hEE] at this
    exact this
   have LC:=hid (g_least G12.out RM12 HLD.out HFU.out hEE)
   clear PC b12' yg ygl hMk RM12
   go_wp2_with fail
   refine LC.out.mono ?_
   rintro e W13 ⟨⟨a13,n13,c13,rfl⟩,b13⟩
   have r22c:=row_below r22b.out b13 (row_lt r22b.out)
   have R13:=hid (row_below R12.out b13 (row_lt R12.out))
   have B13:=hid (B12.out.trans (b13.mono B12.out.size))
   have z:=row_cell r22c
   have z0:=z 0
   have z1:=z 1
   have z2:=z 2
   simp at z0 z1 z2
   have zl:=row_lt r22c
   have zf:=fun j=>row_free r22c j
   have ne8:b22≠w.heap.size+1:=by have:=B9.out.size;have:=hz0.out;have:=HZ22.out;omega
   have rF:=row_set (row_set r22c 0 (.bool true)) 1 (.slice a13 n13 c13)
   have r8F:=row_other (j:=1) (v:=.slice a13 n13 c13) (row_other (j:=0) (v:=.bool true) R13.out ne8) ne8
   have RF:=hid rF
   have R8F:=hid r8F
   have y:=row_cell R13.out
   have u0:=y 0
   have u1:=y 1
   have u2:=y 2
   simp at u0 u1 u2
   have uf:=fun j=>row_free R13.out j
   have ul:=row_lt R13.out
   clear z y b13 LC
   go_wp2_with fail
   have rT:=row_set (row_set (row_set R8F.out 0 (.bool true)) 1 (.slice a13 n13 c13)) 2 (.int .i64 L.length)
   have c:=row_cell rT
   have c0:=c 0
   have c1:=c 1
   have c2:=c 2
   simp at c0 c1 c2
   have hB1:=B1.out.size
   have hb22:w.heap.size≤b22:=by have:=HZ22.out;omega
   refine bodyPost_ret (v:=.tuple #[.agg #[.bool true,.slice a13 n13 c13,.int .i64 L.length],.nilIface]) ?hres rfl ?_
   case hres=>simp[results,Tryz.results51,go_sem,c0,c1,c2]
   exact⟨true,a13,n13,c13,_,_,rfl,.inl ⟨rfl,rfl⟩,(((((B1.out.trans (B13.out.mono hB1)).setCell (p:=⟨b22,0,none⟩) hb22 _).setCell (p:=⟨b22,1,none⟩) hb22 _).setCell (p:=⟨w.heap.size+1,0,none⟩) (Nat.le_succ _) _).setCell (p:=⟨w.heap.size+1,1,none⟩) (Nat.le_succ _) _).setCell (p:=⟨w.heap.size+1,2,none⟩) (Nat.le_succ _) _⟩
end
section
attribute [local irreducible] wpL
theorem s_Run (lev:Int) (hl:lev=1∨lev=2∨lev=3) (most:Nat) (hmo:1≤most∧most≤65536) (ov vv:Value) (os:List Ob) (es:List Ev) (A:Au) (w:World) (ho:Sl w w.heap.size 2 ov os.length (os.flatMap Ob.cells)) (he:Sl w w.heap.size 8 vv es.length (es.flatMap Ev.cells)) (hne:os≠[]) (hr:RegOk os) (hel:es.length≤400) (hes:∀e ∈ es,EvOk os.length e) (hW:WordsAt w) (hF:Fed es A) (hA:A.length≤12)
  (hP:PowAt w) (hEa:ErrAt 15 w) {t0:TypeId} {v0:Value} (hEb:0 < w.heap.size∧w.cell? ⟨0,0,none⟩=some (.iface t0 v0)) (hdd:∀s ∈ A,∀d ∈ s.deeds,DdR os.length d) (hE:(gmOf lev A).Ends (0,os.map (·.init))):
  Calls Tryz.prog 24 #[.agg #[ov,vv],.int .i64 lev,.int .i64 most] w (FoundPost w (.iface t0 v0)):=by
 obtain⟨ao,co,rfl,mo⟩:=ho.ex
 obtain⟨ae,ce,rfl,me⟩:=he.ex
 have b0:Below w.heap.size w ((w.alloc (.cells #[.slice ao os.length co,.slice ae es.length ce] 37)).alloc (.cells #[.bool false,.slice none 0 0,.int .i64 0] 68)):=((Below.refl _ w).alloc (Nat.le_refl _) _).alloc (by simp) _
 have r0:((w.alloc (.cells #[.slice ao os.length co,.slice ae es.length ce] 37)).alloc (.cells #[.bool false,.slice none 0 0,.int .i64 0] 68)).heap[w.heap.size]?=some (.cells #[.slice ao os.length co,.slice ae es.length ce] 37 (0,0)):=row_old (row_new w _)
 have r8:((w.alloc (.cells #[.slice ao os.length co,.slice ae es.length ce] 37)).alloc (.cells #[.bool false,.slice none 0 0,.int .i64 0] 68)).heap[w.heap.size+1]?=some (.cells #[.bool false,.slice none 0 0,.int .i64 0] 68 (0,0)):=row_new' (by simp)
 go_enter Tryz.func24,Tryz.ntmps24
 go_wp2_with fail
 generalize (w.alloc (.cells #[.slice ao os.length co,.slice ae es.length ce] 37)).alloc (.cells #[.bool false,.slice none 0 0,.int .i64 0] 68)=W at *
 have SC:=hid (s_search lev hl most hmo (.slice ao os.length co) (.slice ae es.length ce) os es A W ((ho.below b0).more b0.size) ((he.below b0).more b0.size) hne hr hel hes (hW.below b0) hF hA (hP.below b0) (hEa.below b0) ⟨by have:=b0.size;have:=hEb.1;omega,cell_below b0 hEb.1 hEb.2⟩ hdd hE)
 have y:=row_cell r0
 have y0:=y 0
 have y1:=y 1
 simp at y0 y1
 have yl:=row_lt r0
 have R8:=hid r8
 have B0:=hid b0
 clear y r0 r8 b0 ho he hne hr hel hes hW hF hA hP hEa hEb hdd hE hl
 go_wp2_with fail
 refine SC.out.mono ?_
 rintro e W1 ⟨yb,a,n,c,k,er,rfl,hres,b1⟩
 have r8:=row_below R8.out b1 (row_lt R8.out)
 have y:=row_cell r8
 have u0:=y 0
 have u1:=y 1
 have u2:=y 2
 simp at u0 u1 u2
 have uf:=fun j=>row_free r8 j
 have ul:=row_lt r8
 have rT:=row_set (row_set (row_set r8 0 (.bool yb)) 1 (.slice a n c)) 2 (.int .i64 k)
 have cc:=row_cell rT
 have cc0:=cc 0
 have cc1:=cc 1
 have cc2:=cc 2
 simp at cc0 cc1 cc2
 have BB:=hid (B0.out.trans (b1.mono B0.out.size))
 clear y cc rT r8 SC b1
 go_wp2_with fail
 refine bodyPost_ret (v:=.tuple #[.agg #[.bool yb,.slice a n c,.int .i64 k],er]) ?hres rfl ?_
 case hres=>simp[results,Tryz.results24,go_sem,cc0,cc1,cc2]
 exact⟨yb,a,n,c,k,er,rfl,hres,((BB.out.setCell (p:=⟨w.heap.size+1,0,none⟩) (Nat.le_succ _) _).setCell (p:=⟨w.heap.size+1,1,none⟩) (Nat.le_succ _) _).setCell (p:=⟨w.heap.size+1,2,none⟩) (Nat.le_succ _) _⟩
end
structure Glob (w:World):Prop where
 big:25 < w.heap.size
 prog:∃t v,w.cell? ⟨2,0,none⟩=some (.iface t v)
 words:WordsAt w
 pow:PowAt w
 ans:ErrAt 15 w
 bud:∃b:Addr,w.cell? ⟨0,0,none⟩=some (.iface 375 (.pointer (some b)))
theorem Glob.below {w w':World} (h:Glob w) (hb:Below w.heap.size w w'):Glob w':=by
 obtain⟨h1,⟨t,v,h2⟩,h3,h4,h5,⟨b,h6⟩⟩:=h
 exact⟨by have:=hb.size;omega,⟨t,v,cell_below hb (by omega) h2⟩,h3.below hb,h4.below hb,h5.below hb,⟨b,cell_below hb (by omega) h6⟩⟩
