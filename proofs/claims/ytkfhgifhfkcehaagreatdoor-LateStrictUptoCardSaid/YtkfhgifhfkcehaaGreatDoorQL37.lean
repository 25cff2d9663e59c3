/- Parts of the proof, merged by program out of 2 texts (SnC, SnD): the first: Bits; which are counted, which are really ahead. Conditions: those of each theorem, as typed. -/
import Derived.Test.YtkfhgifhfkcehaaGreatDoorQL36
import Derived.Test.YtkfhgifhfkcehaaGreatDoorQL34
import Derived.Test.YtkfhgifhfkcehaaGreatDoorQL30
import Derived.Laws.Bits64b
set_option linter.unusedVariables false
set_option linter.unusedSimpArgs false
set_option linter.unusedSectionVars false
set_option maxRecDepth 100000
set_option maxHeartbeats 4000000
namespace Go.Proofs.YtkfhgifhfkcehaaGreatDoor
open Go.Maps Go.RowKit
section
attribute [local irreducible] wpL
theorem wrap64_id (n:Int) (h:-9223372036854775808≤n∧n≤9223372036854775807):wrap64 n=n:=by unfold wrap64;omega
theorem wrap_i64 (n:Int):IntKind.i64.wrap n=wrap64 n:=by simp[IntKind.wrap,IntKind.bits,IntKind.signed,wrap64];omega
theorem ofInt_nat {a:Nat} (ha:a < 18446744073709551616):(BitVec.ofInt 64 (a:Int)).toNat=a:=by
 rw[BitVec.ofInt_natCast,BitVec.toNat_ofNat];exact Nat.mod_eq_of_lt (by omega)
theorem bits_or_nat {a b:Nat} (ha:a < 4611686018427387904) (hb:b < 4611686018427387904):bits .or .i64 (a:Int) (b:Int)=((a|||b:Nat):Int):=by
 have hx:a|||b < 2 ^ 62:=Nat.or_lt_two_pow (by omega) (by omega)
 show IntKind.i64.wrap ((BitVec.ofInt 64 (a:Int)|||BitVec.ofInt 64 (b:Int)).toNat:Int)=_
 rw[BitVec.toNat_or,ofInt_nat (by omega),ofInt_nat (by omega),wrap_i64,wrap64_id]
 omega
theorem bits_and_nat {a b:Nat} (ha:a < 4611686018427387904) (hb:b < 4611686018427387904):bits .and .i64 (a:Int) (b:Int)=((a&&&b:Nat):Int):=by
 have hx:a&&&b < 2 ^ 62:=Nat.and_lt_two_pow _ (by omega)
 show IntKind.i64.wrap ((BitVec.ofInt 64 (a:Int)&&&BitVec.ofInt 64 (b:Int)).toNat:Int)=_
 rw[BitVec.toNat_and,ofInt_nat (by omega),ofInt_nat (by omega),wrap_i64,wrap64_id]
 omega
theorem bits_andNot_nat {a b:Nat} (ha:a < 4611686018427387904) (hb:b < 4611686018427387904):(bits .andNot .i64 (a:Int) (b:Int)=0)=(a&&&b=a):=by
 have e1:bits .andNot .i64 (a:Int) (b:Int)=IntKind.i64.wrap ((BitVec.ofInt 64 (a:Int)&&&~~~ BitVec.ofInt 64 (b:Int)).toNat:Int):=rfl
 have e2:(BitVec.ofInt 64 (a:Int)&&&~~~ BitVec.ofInt 64 (b:Int)).toNat≤a:=by
  rw[BitVec.toNat_and,ofInt_nat (by omega)];exact Nat.and_le_left
 have e3:((BitVec.ofInt 64 (a:Int)&&&~~~ BitVec.ofInt 64 (b:Int)).toNat=0)=(a&&&b=a):=by
  refine propext ⟨fun h=>?_,fun h=>?_⟩
  ·refine Nat.eq_of_testBit_eq fun i=>?_
   have h0:(BitVec.ofInt 64 (a:Int)&&&~~~ BitVec.ofInt 64 (b:Int)).toNat.testBit i=false:=by rw[h];simp
   rw[BitVec.toNat_and,Nat.testBit_and,ofInt_nat (by omega),BitVec.toNat_not,ofInt_nat (by omega)] at h0
   rw[Nat.testBit_and]
   by_cases hi:i < 64
   ·rw [show 2 ^ 64 - 1 - b=2 ^ 64 - (b+1) by omega,Nat.testBit_two_pow_sub_succ (by omega)] at h0
    simp only[hi,decide_true,Bool.true_and] at h0
    cases h1:a.testBit i <;> cases h2:b.testBit i <;> simp_all
   ·have:a.testBit i=false:=Nat.testBit_lt_two_pow (Nat.lt_of_lt_of_le (show a < 2 ^ 64 by omega) (Nat.pow_le_pow_right (by omega) (by omega)))
    simp[this]
  ·refine Nat.eq_of_testBit_eq fun i=>?_
   rw[BitVec.toNat_and,Nat.testBit_and,ofInt_nat (by omega),BitVec.toNat_not,ofInt_nat (by omega),Nat.zero_testBit]
   have h0:(a&&&b).testBit i=a.testBit i:=by rw[h]
   rw[Nat.testBit_and] at h0
   by_cases hi:i < 64
   ·rw [show 2 ^ 64 - 1 - b=2 ^ 64 - (b+1) by omega,Nat.testBit_two_pow_sub_succ (by omega)]
    simp only[hi,decide_true,Bool.true_and]
    cases h1:a.testBit i <;> cases h2:b.testBit i <;> simp_all
   ·have:a.testBit i=false:=Nat.testBit_lt_two_pow (Nat.lt_of_lt_of_le (show a < 2 ^ 64 by omega) (Nat.pow_le_pow_right (by omega) (by omega)))
    simp[this]
 rw[e1,wrap_i64,wrap64_id _ (by omega),←e3]
 exact propext ⟨fun h=>by omega,fun h=>by rw[h];rfl⟩
def cntL (lev st:Int):Bool:=if lev=1∨lev=2 then decide (st=3∨st=2) else decide (lev=3)
theorem cntd_L (lev:Int) (s:St):cntd lev s=cntL lev s.status:=rfl
def txV (r:TxR):Value:=.agg #[.int .i64 r.id,.int .i64 r.thread,.int .i64 r.status,.int .i64 r.beg,.int .i64 r.fin,.int .i64 r.tri,r.dv]
theorem sh_Counted (lev:Int) (hl:lev=1∨lev=2∨lev=3) (i th st be fi tr:Int) (a:Option Addr) (n c:Nat) (w:World):
  Calls Tryz.prog 137 #[.agg #[.int .i64 i,.int .i64 th,.int .i64 st,.int .i64 be,.int .i64 fi,.int .i64 tr,.slice a n c],.int .i64 lev] w fun e w'=>e=.returned (.bool (cntL lev st))∧Below w.heap.size w w':=by
 have b0:Below w.heap.size w (w.alloc (.cells #[.int .i64 i,.int .i64 th,.int .i64 st,.int .i64 be,.int .i64 fi,.int .i64 tr,.slice a n c] 56)):=(Below.refl _ w).alloc (Nat.le_refl _) _
 go_enter Tryz.func137,Tryz.ntmps137
 rcases hl with rfl|rfl|rfl
 ·by_cases h3:st=3
  ·subst h3
   go_wp2_with fail
   go_ret
   exact⟨rfl,b0⟩
  ·have q3:(st==3)=false:=by simpa using h3
   go_wp2_with fail
   go_ret
   refine⟨?_,b0⟩
   simp[cntL,h3]
   rfl
 ·by_cases h3:st=3
  ·subst h3
   go_wp2_with fail
   go_ret
   exact⟨rfl,b0⟩
  ·have q3:(st==3)=false:=by simpa using h3
   go_wp2_with fail
   go_ret
   refine⟨?_,b0⟩
   simp[cntL,h3]
   rfl
 ·go_wp2_with fail
  go_ret
  exact⟨rfl,b0⟩
theorem sh_Really (i th st be fi tr:Int) (a:Option Addr) (n c:Nat) (i2 th2 st2 be2 fi2 tr2:Int) (a2:Option Addr) (n2 c2:Nat) (w:World):
  Calls Tryz.prog 184 #[.agg #[.int .i64 i,.int .i64 th,.int .i64 st,.int .i64 be,.int .i64 fi,.int .i64 tr,.slice a n c],.agg #[.int .i64 i2,.int .i64 th2,.int .i64 st2,.int .i64 be2,.int .i64 fi2,.int .i64 tr2,.slice a2 n2 c2]] w fun e w'=>e=.returned (.bool (decide (0≤fi)&&decide (fi < be2)))∧Below w.heap.size w w':=by
 have b0:Below w.heap.size w ((w.alloc (.cells #[.int .i64 i,.int .i64 th,.int .i64 st,.int .i64 be,.int .i64 fi,.int .i64 tr,.slice a n c] 56)).alloc (.cells #[.int .i64 i2,.int .i64 th2,.int .i64 st2,.int .i64 be2,.int .i64 fi2,.int .i64 tr2,.slice a2 n2 c2] 56)):=((Below.refl _ w).alloc (Nat.le_refl _) _).alloc (by simp) _
 go_enter Tryz.func184,Tryz.ntmps184
 by_cases h:0≤fi
 ·have q:decide (0≤fi)=true:=by simpa using h
  go_wp2_with fail
  go_ret
  refine⟨?_,b0⟩
  simp[h]
 ·have q:decide (0≤fi)=false:=by simpa using h
  go_wp2_with fail
  go_ret
  refine⟨?_,b0⟩
  simp[h]
end
section
attribute [local irreducible] wpL
def cntR (lev:Int) (r:TxR):Bool:=cntL lev r.status
def rlyR (a b:TxR):Bool:=decide (0≤a.fin)&&decide (a.fin < b.beg)
def mskR (lev:Int) (l:List TxR) (b:TxR) (i:Nat):Bool:=match l[i]? with
 |some a=>decide (lev≠1)&&rlyR a b
 |none=>false
def mskV (lev:Int) (l:List TxR) (b:TxR):Nat:=maskN (mskR lev l b) l.length
def SlDv (rs:List TxR):Prop:=∀r ∈ rs,∃a n c,r.dv=.slice a n c
theorem OwnI.intc {w:World} {B g n cap k:Nat} {l:List Int} {x:Int} (h:OwnF intC 3 1 w B (.slice (some ⟨g,0,none⟩) n cap) l) (hn:n=l.length) (hk:l[k]?=some x):w.cell? ⟨g,k,none⟩=some (.int .i64 x):=by
 subst hn
 obtain⟨b',o,y,hq,hb,hy,hc⟩:=(OwnF.sl h).atF intC_len rfl (List.getElem?_eq_some_iff.1 hk).1
 simp only[Option.some.injEq,Addr.mk.injEq,and_true] at hq
 obtain⟨rfl,rfl⟩:=hq
 rw[hk] at hy
 obtain rfl:=Option.some.inj hy
 have:=hc 0 (by decide)
 simpa[intC] using this
theorem OwnI.setI {w:World} {B g n c:Nat} {l:List Int} (h:OwnI w B (.slice (some ⟨g,0,none⟩) n c) l) (hn:n=l.length) (k:Nat) (x:Int):OwnI (w.setCell ⟨g,k,none⟩ (.int .i64 x)) B (.slice (some ⟨g,0,none⟩) n c) (l.set k x):=by
 subst hn
 have:=ownsRow_set h k (.int .i64 x)
 unfold OwnI OwnF
 rw[List.length_set]
 have e:(l.flatMap intC).set k (.int .i64 x)=(l.set k x).flatMap intC:=by rw[flat_int,flat_int,List.map_set]
 rw[←e]
 exact this
theorem pow_wrap {i:Nat} (hi:i≤12):wrap64 ((2:Int) ^ i)=((2 ^ i:Nat):Int)∧2 ^ i≤4096:=by
 have hc:i=0∨i=1∨i=2∨i=3∨i=4∨i=5∨i=6∨i=7∨i=8∨i=9∨i=10∨i=11∨i=12:=by omega
 rcases hc with rfl|rfl|rfl|rfl|rfl|rfl|rfl|rfl|rfl|rfl|rfl|rfl|rfl <;> simp[wrap64]
def mkV (lev:Int) (L:List TxR) (j m:Nat):Int:=match L[j]? with
 |some b=>((maskN (mskR lev L b) m:Nat):Int)
 |none=>0
theorem filter_take_succ {α:Type} (f:α→Bool) (l:List α) (k:Nat) (x:α) (h:l[k]?=some x):(l.take (k+1)).filter f=(l.take k).filter f++if f x then[x] else[]:=by
 rw[List.take_add_one,List.filter_append,h]
 simp only[Option.toList]
 cases hf:f x <;> simp[hf]
theorem filter_take_len {α:Type} (f:α→Bool) (l:List α) (k:Nat):((l.take k).filter f).length≤l.length:=Nat.le_trans (List.length_filter_le _ _) (by simp;omega)
theorem rl_Masks (lev:Int) (hl:lev=1∨lev=2∨lev=3) (v:Value) (rs:List TxR) (w:World) (h:Sl w w.heap.size 7 v rs.length (rs.flatMap TxR.cells)) (hd:SlDv rs) (hn:rs.length≤12):
  Calls Tryz.prog 138 #[v,.int .i64 lev] w fun e w'=>∃v',e=.returned (.tuple #[v',.nilIface])∧OwnI w' w.heap.size v' ((rs.filter (cntR lev)).map fun b=>((mskV lev (rs.filter (cntR lev)) b:Nat):Int))∧Below w.heap.size w w':=by
 obtain⟨a,c,rfl,hm⟩:=h.ex
 have hlq:=hid hl
 have q1:decide (lev < 1)=false:=by simp;omega
 have q2:decide (lev > 3)=false:=by simp;omega
 have q2':decide (3 < lev)=false:=by simp;omega
 have H:=hid h
 have HD:=hid hd
 clear h hd hl
 go_enter Tryz.func138,Tryz.ntmps138
 go_wp2_with fail
 go_loopw [6,23] (fun q p wr=>∃(k:Nat),k≤rs.length∧p=.int .i64 k∧OwnF TxR.cells 56 7 wr w.heap.size q ((rs.take k).filter (cntR lev))∧Below w.heap.size w wr) (fun _ p _=>rs.length - (intOf p).toNat)
 case atStart=>exact⟨0,by omega,by go_num,OwnF.nil _ _,Below.refl _ _⟩
 case round=>
  obtain⟨k,hk,rfl,qo,qb⟩:=hrel
  have hsz:=qb.size
  obtain⟨L,hL⟩:∃L,(rs.take k).filter (cntR lev)=L:=⟨_,rfl⟩
  have hLl:=filter_take_len (cntR lev) rs k
  rw[hL] at qo hLl
  have HL:=hid hL
  clear hL
  obtain⟨aq,cq,rfl,-⟩:=(OwnF.sl qo).ex
  have QO:=hid qo
  have QB:=hid qb
  clear qo qb
  by_cases hlt:k < rs.length
  ·have src:=(H.out.below QB.out).more hsz
   obtain⟨b,off,o,rfl,hb,hox,hc⟩:=src.atF TxR.len rfl hlt
   obtain⟨i,th,st,be,fi,tr,dv⟩:=o
   obtain⟨ad,nd,cd,hdv⟩:=HD.out _ (List.mem_of_getElem? hox)
   simp only at hdv
   subst hdv
   have c0:wr.cell? ⟨b,off+k*7,none⟩=some (.int .i64 i):=hc 0 (by decide)
   have c1:wr.cell? ⟨b,off+k*7+1,none⟩=some (.int .i64 th):=hc 1 (by decide)
   have c2:wr.cell? ⟨b,off+k*7+2,none⟩=some (.int .i64 st):=hc 2 (by decide)
   have c3:wr.cell? ⟨b,off+k*7+3,none⟩=some (.int .i64 be):=hc 3 (by decide)
   have c4:wr.cell? ⟨b,off+k*7+4,none⟩=some (.int .i64 fi):=hc 4 (by decide)
   have c5:wr.cell? ⟨b,off+k*7+5,none⟩=some (.int .i64 tr):=hc 5 (by decide)
   have c6:wr.cell? ⟨b,off+k*7+6,none⟩=some (.slice ad nd cd):=hc 6 (by decide)
   have HX:=hid (filter_take_succ (cntR lev) rs k _ hox)
   clear hc src hox
   have b3:Below wr.heap.size wr (wr.alloc (.cells #[.int .i64 i,.int .i64 th,.int .i64 st,.int .i64 be,.int .i64 fi,.int .i64 tr,.slice ad nd cd] 56)):=(Below.refl _ wr).alloc (Nat.le_refl _) _
   have r3:=row_new wr (.cells #[.int .i64 i,.int .i64 th,.int .i64 st,.int .i64 be,.int .i64 fi,.int .i64 tr,.slice ad nd cd] 56)
   go_wp2_with fail
   generalize wr.alloc (.cells #[.int .i64 i,.int .i64 th,.int .i64 st,.int .i64 be,.int .i64 fi,.int .i64 tr,.slice ad nd cd] 56)=W3 at *
   refine(sh_Counted lev hlq.out i th st be fi tr ad nd cd W3).mono ?_
   rintro e W4 ⟨rfl,b4⟩
   have b34:=b3.trans (b4.mono b3.size)
   have hz4:=b34.size
   have B4:=hid (QB.out.trans (b34.mono hsz))
   have r4:=row_below r3 b4 (row_lt r3)
   have d:=row_cell r4
   have d0:=d 0
   have d1:=d 1
   have d2:=d 2
   have d3:=d 3
   have d4:=d 4
   have d5:=d 5
   have d6:=d 6
   simp at d0 d1 d2 d3 d4 d5 d6
   have dl:=row_lt r4
   have QO4:=hid (OwnF.below QO.out b34)
   clear d r3 b3 b4 b34 r4 c0 c1 c2 c3 c4 c5 c6
   cases hcb:cntL lev st with
   |true=>
    have hB4:w.heap.size≤W4.heap.size:=by omega
    go_wp2_with (at_builtin;refine wpList_appF rfl _ _ _ rfl _ 72 Tryz.underlying39 infoTx rfl QO4.out (TxR.mk i th st be fi tr (.slice ad nd cd)) hB4 (by rfl) (by rfl) (by first|rfl|simp) rfl (tx_one _) (by first|omega|(simp only[List.length_append,List.length_cons,List.length_nil,List.length_replicate];omega)) (by first|omega|(simp only[List.length_append,List.length_cons,List.length_nil,List.length_replicate];omega)) ?_;refine Stop.halt ?_)
    refine Stop.go ?_
    intro g1 c1 w5 o5 G5
    have B5:=hid (B4.out.trans (G5.below hB4 fun j hj=>(OwnF.lt QO4.out j hj).1))
    have O5:=hid o5
    clear o5 G5
    go_wp2_with fail
    refine⟨⟨k+1,by omega,by go_num,?_,B5.out⟩,by simp[intOf];omega⟩
    have hcR:cntR lev ⟨i,th,st,be,fi,tr,.slice ad nd cd⟩=true:=hcb
    rw[HX.out,HL.out,if_pos hcR]
    exact O5.out
   |false=>
    go_wp2_with fail
    refine⟨⟨k+1,by omega,by go_num,?_,B4.out⟩,by simp[intOf];omega⟩
    rw[HX.out,HL.out,if_neg (by show ¬cntL lev st=true;rw[hcb];simp),List.append_nil]
    exact QO4.out
  ·obtain rfl:k=rs.length:=by omega
   have hq:decide ((rs.length:Int) < (rs.length:Int))=false:=by simp
   have hLe:=hid (show L=rs.filter (cntR lev) by rw[←HL.out,List.take_length])
   have hl62:decide ((L.length:Int) > 62)=false:=by simp;omega
   have hl62':decide (62 < (L.length:Int))=false:=by simp;omega
   have hsz':w.heap.size≤wr.heap.size:=hsz
   go_wp2_with (at_make;refine wpList_makeN (f:=intC) (e:=3) (sz:=1) (B:=w.heap.size) rfl _ _ _ rfl _ 8 Tryz.underlying22 infoI rfl rfl (by omega) (by omega) hsz' (0:Int) rfl rfl (by decide) ?_;refine Stop.halt ?_)
   refine Stop.go ?_
   intro w5 o5 b5 z5
   have B5:=hid (QB.out.trans (b5.mono hsz))
   have QO5:=hid (OwnF.below QO.out b5)
   have O5:=hid o5
   have hdis:wr.heap.size < w5.heap.size:=z5
   have hgB:w.heap.size≤wr.heap.size:=hsz
   have HDL:Hid (SlDv L):=hid (fun r hr=>HD.out r (by rw[hLe.out] at hr;exact(List.mem_filter.1 hr).1))
   generalize wr.heap.size=g5 at *
   clear b5 o5 QO QB H z5 HL
   have hL12:L.length≤12:=by omega
   go_wp2_with fail
   go_loopw [44] (fun p wr=>∃(k:Nat) (O:List Int),k≤L.length∧p=.int .i64 k∧OwnI wr w.heap.size (.slice (some ⟨g5,0,none⟩) L.length L.length) O∧O.length=L.length∧(∀j,j < L.length→O[j]?=some (mkV lev L j (if j < k then L.length else 0)))∧OwnF TxR.cells 56 7 wr w.heap.size (.slice aq L.length cq) L∧Below w.heap.size w wr) (fun p _=>L.length - (intOf p).toNat)
   case atStart=>
    refine⟨0,_,by omega,by go_num,O5.out,by simp,fun j hj=>?_,QO5.out,B5.out⟩
    rw[List.getElem?_replicate,if_pos hj]
    simp only[Nat.not_lt_zero,if_false]
    unfold mkV
    rw[List.getElem?_eq_getElem hj]
    rfl
   case round=>
    obtain⟨k,O,hk2,rfl,qo,qn,qv,ql,qb⟩:=hrel
    clear O5 QO5 B5 hdis w5
    have hsz2:=qb.size
    have QO:=hid qo
    have QN:=hid qn
    have QV:=hid qv
    have QL:=hid ql
    have QB:=hid qb
    clear qo qn qv ql qb
    by_cases hlt2:k < L.length
    ·obtain ⟨b,off,o,rfl,hb,hox,hc⟩:=(OwnF.sl QL.out).atF TxR.len rfl hlt2
     obtain⟨i1,th1,st1,be1,fi1,tr1,dv⟩:=o
     obtain⟨ad1,nd1,cd1,hdv⟩:=HDL.out _ (List.mem_of_getElem? hox)
     simp only at hdv
     subst hdv
     have c0:wr.cell? ⟨b,off+k*7,none⟩=some (.int .i64 i1):=hc 0 (by decide)
     have c1:wr.cell? ⟨b,off+k*7+1,none⟩=some (.int .i64 th1):=hc 1 (by decide)
     have c2:wr.cell? ⟨b,off+k*7+2,none⟩=some (.int .i64 st1):=hc 2 (by decide)
     have c3:wr.cell? ⟨b,off+k*7+3,none⟩=some (.int .i64 be1):=hc 3 (by decide)
     have c4:wr.cell? ⟨b,off+k*7+4,none⟩=some (.int .i64 fi1):=hc 4 (by decide)
     have c5:wr.cell? ⟨b,off+k*7+5,none⟩=some (.int .i64 tr1):=hc 5 (by decide)
     have c6:wr.cell? ⟨b,off+k*7+6,none⟩=some (.slice ad1 nd1 cd1):=hc 6 (by decide)
     have HOX:=hid hox
     have b3:Below wr.heap.size wr (wr.alloc (.cells #[.int .i64 i1,.int .i64 th1,.int .i64 st1,.int .i64 be1,.int .i64 fi1,.int .i64 tr1,.slice ad1 nd1 cd1] 56)):=(Below.refl _ wr).alloc (Nat.le_refl _) _
     have R3:=hid (row_new wr (.cells #[.int .i64 i1,.int .i64 th1,.int .i64 st1,.int .i64 be1,.int .i64 fi1,.int .i64 tr1,.slice ad1 nd1 cd1] 56))
     have QO3:=hid (OwnF.below QO.out b3)
     have QL3:=hid (OwnF.below QL.out b3)
     have QB3:=hid (QB.out.trans (b3.mono hsz2))
     have hz3:(wr.alloc (.cells #[.int .i64 i1,.int .i64 th1,.int .i64 st1,.int .i64 be1,.int .i64 fi1,.int .i64 tr1,.slice ad1 nd1 cd1] 56)).heap.size=wr.heap.size+1:=by simp
     have HZ3:=hid hz3
     clear hc hox b3 hz3
     go_wp2_with fail
     have c:=c0
     clear c c0 c1 c2 c3 c4 c5 c6 hb
     generalize wr.alloc (.cells #[.int .i64 i1,.int .i64 th1,.int .i64 st1,.int .i64 be1,.int .i64 fi1,.int .i64 tr1,.slice ad1 nd1 cd1] 56)=W3 at *
     generalize wr.heap.size=p11 at *
     go_loopw [51] (fun p wx=>∃(i:Nat) (O2:List Int),i≤L.length∧p=.int .i64 i∧OwnI wx w.heap.size (.slice (some ⟨g5,0,none⟩) L.length L.length) O2∧O2.length=L.length∧(∀j,j < L.length→O2[j]?=some (mkV lev L j (if j < k then L.length else if j=k then i else 0)))∧OwnF TxR.cells 56 7 wx w.heap.size (.slice (some ⟨b,off,none⟩) L.length cq) L∧wx.heap[p11]?=some (.cells #[.int .i64 i1,.int .i64 th1,.int .i64 st1,.int .i64 be1,.int .i64 fi1,.int .i64 tr1,.slice ad1 nd1 cd1] 56 (0,0))∧Below w.heap.size w wx) (fun p _=>L.length - (intOf p).toNat)
     case atStart=>
      refine⟨0,O,by omega,by go_num,QO3.out,QN.out,fun j hj=>?_,QL3.out,R3.out,QB3.out⟩
      rw[QV.out j hj]
      by_cases e1:j < k
      ·rw [if_pos e1,if_pos e1]
      ·by_cases e2:j=k
       ·rw [if_neg e1,if_neg e1,if_pos e2]
       ·rw [if_neg e1,if_neg e1,if_neg e2]
     case round=>
      obtain⟨i,O2,hi2,rfl,qo,qn,qv,ql,qr,qb⟩:=hrel
      clear QO3 QL3 R3 QB3 HZ3 W3 QO QN QV QL QB
      have hsz3:=qb.size
      have QO:=hid qo
      have QN:=hid qn
      have QV:=hid qv
      have QL:=hid ql
      have QB:=hid qb
      have QR:=hid qr
      clear qo qn qv ql qb qr
      by_cases hlt3:i < L.length
      ·obtain ⟨b',off',o,hqe,hb,hox,hc⟩:=(OwnF.sl QL.out).atF TxR.len rfl hlt3
       simp only[Option.some.injEq,Addr.mk.injEq,and_true] at hqe
       obtain⟨rfl,rfl⟩:=hqe
       obtain⟨i2,th2,st2,be2,fi2,tr2,dv⟩:=o
       obtain⟨ad2,nd2,cd2,hdv⟩:=HDL.out _ (List.mem_of_getElem? hox)
       simp only at hdv
       subst hdv
       have c0:wr.cell? ⟨b,off+i*7,none⟩=some (.int .i64 i2):=hc 0 (by decide)
       have c1:wr.cell? ⟨b,off+i*7+1,none⟩=some (.int .i64 th2):=hc 1 (by decide)
       have c2:wr.cell? ⟨b,off+i*7+2,none⟩=some (.int .i64 st2):=hc 2 (by decide)
       have c3:wr.cell? ⟨b,off+i*7+3,none⟩=some (.int .i64 be2):=hc 3 (by decide)
       have c4:wr.cell? ⟨b,off+i*7+4,none⟩=some (.int .i64 fi2):=hc 4 (by decide)
       have c5:wr.cell? ⟨b,off+i*7+5,none⟩=some (.int .i64 tr2):=hc 5 (by decide)
       have c6:wr.cell? ⟨b,off+i*7+6,none⟩=some (.slice ad2 nd2 cd2):=hc 6 (by decide)
       have hms:mskR lev L ⟨i1,th1,st1,be1,fi1,tr1,.slice ad1 nd1 cd1⟩ i=(decide (lev≠1)&&(decide (0≤fi2)&&decide (fi2 < be1))):=by
        unfold mskR;rw[hox];rfl
       have HMS:=hid hms
       have b4:Below wr.heap.size wr (wr.alloc (.cells #[.int .i64 i2,.int .i64 th2,.int .i64 st2,.int .i64 be2,.int .i64 fi2,.int .i64 tr2,.slice ad2 nd2 cd2] 56)):=(Below.refl _ wr).alloc (Nat.le_refl _) _
       have r4:=row_new wr (.cells #[.int .i64 i2,.int .i64 th2,.int .i64 st2,.int .i64 be2,.int .i64 fi2,.int .i64 tr2,.slice ad2 nd2 cd2] 56)
       have QO4:=hid (OwnF.below QO.out b4)
       have QL4:=hid (OwnF.below QL.out b4)
       have QB4:=hid (QB.out.trans (b4.mono hsz3))
       have r5:=row_below QR.out b4 (row_lt QR.out)
       have hl5:=row_lt r5
       have hl4:=row_lt r4
       have R5:=hid r5
       clear hc hox b4 hms
       by_cases hlev:lev=1
       ·have ql1:(lev !=1)=false:=by simp[hlev]
        go_wp2_with fail
        generalize wr.alloc (.cells #[.int .i64 i2,.int .i64 th2,.int .i64 st2,.int .i64 be2,.int .i64 fi2,.int .i64 tr2,.slice ad2 nd2 cd2] 56)=W4 at *
        refine⟨⟨i+1,O2,by omega,by go_num,QO4.out,QN.out,fun j hj=>?_,QL4.out,R5.out,QB4.out⟩,by simp[intOf];omega⟩
        rw[QV.out j hj]
        by_cases e1:j < k
        ·rw [if_pos e1,if_pos e1]
        ·by_cases e2:j=k
         ·subst e2
          rw[if_neg e1,if_pos rfl,if_neg e1,if_pos rfl]
          unfold mkV
          rw[HOX.out]
          simp only
          rw[show maskN (mskR lev L ⟨i1,th1,st1,be1,fi1,tr1,.slice ad1 nd1 cd1⟩) (i+1)=maskN (mskR lev L ⟨i1,th1,st1,be1,fi1,tr1,.slice ad1 nd1 cd1⟩) i by rw[maskN,HMS.out];simp[hlev]]
         ·rw [if_neg e1,if_neg e2,if_neg e1,if_neg e2]
       ·have ql1:(lev !=1)=true:=by simpa using hlev
        have d:=row_cell r5
        have d0:=d 0
        have d1:=d 1
        have d2:=d 2
        have d3:=d 3
        have d4:=d 4
        have d5:=d 5
        have d6:=d 6
        have e:=row_cell r4
        have e0:=e 0
        have e1:=e 1
        have e2:=e 2
        have e3:=e 3
        have e4:=e 4
        have e5:=e 5
        have e6:=e 6
        clear d e r4 r5
        go_wp2_with fail
        generalize wr.alloc (.cells #[.int .i64 i2,.int .i64 th2,.int .i64 st2,.int .i64 be2,.int .i64 fi2,.int .i64 tr2,.slice ad2 nd2 cd2] 56)=W4 at *
        refine(sh_Really i2 th2 st2 be2 fi2 tr2 ad2 nd2 cd2 i1 th1 st1 be1 fi1 tr1 ad1 nd1 cd1 W4).mono ?_
        rintro e W5 ⟨rfl,b5⟩
        have QO5:=hid (OwnF.below QO4.out b5)
        have QL5:=hid (OwnF.below QL4.out b5)
        have hsz4:=QB4.out.size
        have QB5:=hid (QB4.out.trans (b5.mono hsz4))
        have R6:=hid (row_below R5.out b5 hl5)
        clear b5 c0 c1 c2 c3 c4 c5 c6 d0 d1 d2 d3 d4 d5 d6 e0 e1 e2 e3 e4 e5 e6 hl4
        have hmk:mskR lev L ⟨i1,th1,st1,be1,fi1,tr1,.slice ad1 nd1 cd1⟩ i=(decide (0≤fi2)&&decide (fi2 < be1)):=by rw[HMS.out];simp[hlev]
        cases hbb:(decide (0≤fi2)&&decide (fi2 < be1)) with
        |false=>
         rw[hbb] at hmk
         have HMK:=hid hmk
         clear hmk
         go_wp2_with fail
         refine⟨⟨i+1,O2,by omega,by go_num,QO5.out,QN.out,fun j hj=>?_,QL5.out,R6.out,QB5.out⟩,by simp[intOf];omega⟩
         rw[QV.out j hj]
         by_cases e1:j < k
         ·rw [if_pos e1,if_pos e1]
         ·by_cases e2:j=k
          ·subst e2
           rw[if_neg e1,if_pos rfl,if_neg e1,if_pos rfl]
           unfold mkV
           rw[HOX.out]
           simp only
           rw[show maskN (mskR lev L ⟨i1,th1,st1,be1,fi1,tr1,.slice ad1 nd1 cd1⟩) (i+1)=maskN (mskR lev L ⟨i1,th1,st1,be1,fi1,tr1,.slice ad1 nd1 cd1⟩) i by rw[maskN,HMK.out];simp]
          ·rw [if_neg e1,if_neg e2,if_neg e1,if_neg e2]
        |true=>
         rw[hbb] at hmk
         obtain⟨m,hmm⟩:∃m,maskN (mskR lev L ⟨i1,th1,st1,be1,fi1,tr1,.slice ad1 nd1 cd1⟩) i=m:=⟨_,rfl⟩
         have hml:m < 4096:=by
          rw[←hmm]
          exact Nat.lt_of_lt_of_le (maskN_lt _ i) (pow_wrap (by omega)).2
         have hOk:O2[k]?=some ((m:Nat):Int):=by
          rw[QV.out k hlt2,if_neg (Nat.lt_irrefl k),if_pos rfl]
          unfold mkV
          rw[HOX.out]
          simp only[hmm]
         have y0:=OwnI.intc QO5.out QN.out.symm hOk
         obtain⟨csO,hcO⟩:=OwnF.objT QO5.out
         have yf:=row_free hcO k
         have yl:=row_lt hcO
         have pw:=pow_wrap (i:=i) (by omega)
         have hbo:bits .or .i64 (m:Int) (wrap64 (2 ^ i))=((m|||2 ^ i:Nat):Int):=by rw[pw.1];exact bits_or_nat (by omega) (by have:=pw.2;omega)
         have hSet:=hid (OwnI.setI QO5.out QN.out.symm k ((m|||2 ^ i:Nat):Int))
         have hgs:g5 < W5.heap.size:=yl
         have QL6:=hid (OwnF.other (g:=g5) (j:=k) QL5.out (OwnF.neT QL5.out hcO (by decide)) (.int .i64 ((m|||2 ^ i:Nat):Int)))
         have R7:=hid (row_other (j:=k) (v:=.int .i64 ((m|||2 ^ i:Nat):Int)) R6.out (show g5≠p11 by rintro rfl;rw[R6.out] at hcO;simp at hcO))
         have QB6:=hid (QB5.out.setCell (p:=⟨g5,k,none⟩) hgB (.int .i64 ((m|||2 ^ i:Nat):Int)))
         have HMK:=hid hmk
         have HMM:=hid hmm
         have HBO:=hid hbo
         clear hmk hmm hcO pw hOk hbo
         go_wp2_with fail
         refine wp_rN (W5.heap.size) [0,0,0,1,0,0,0,0,2] (.fin [0,1,2,3,4,5,6,7,8]) (by kernel_rfl) ?_
         simp only[wpT,selX,guardAt,sD,sE,sF,sG]
         repeat first|(refine wpL_p fun K hK=>?_;go_simp;refine hK _ _ ?_;clear hK K)|(apply wpL_s;(intro w2 hw2;have hk1:=hw2.cell;have hk3:=hw2.1;clear hw2;go_simp;with_reducible rfl);simp only[Act.put,sA,sB,sC])
         refine wpL_e (fun K hK=>?_)
         go_simp
         refine hK _ _ ?_
         clear hK K
         repeat refine wpL_nil ?_
         go_wp2_with fail
         rw[HBO.out]
         refine⟨⟨i+1,O2.set k ((m|||2 ^ i:Nat):Int),by omega,by go_num,hSet.out.drew,by rw[List.length_set];exact QN.out,fun j hj=>?_,QL6.out.drew,R7.out,QB6.out.drew⟩,by simp[intOf];omega⟩
         by_cases e2:j=k
         ·subst e2
          rw[List.getElem?_set_self (by have:=QN.out;omega),if_neg (Nat.lt_irrefl _),if_pos rfl]
          unfold mkV
          rw[HOX.out]
          simp only
          rw[maskN,HMK.out,HMM.out,if_pos rfl]
         ·rw [List.getElem?_set_ne (fun e=>e2 e.symm),QV.out j hj,if_neg e2,if_neg e2]
      ·obtain rfl:i=L.length:=by omega
       have hq3:decide ((L.length:Int) < (L.length:Int))=false:=by simp
       go_wp2_with fail
       refine⟨⟨k+1,O2,by omega,by go_num,QO.out,QN.out,fun j hj=>?_,QL.out,QB.out⟩,by simp[intOf];omega⟩
       rw[QV.out j hj]
       by_cases e1:j < k
       ·rw [if_pos e1,if_pos (by omega)]
       ·by_cases e2:j=k
        ·rw [if_neg e1,if_pos e2,if_pos (by omega)]
        ·rw [if_neg e1,if_neg e2,if_neg (by omega)]
    ·obtain rfl:k=L.length:=by omega
     have hq2:decide ((L.length:Int) < (L.length:Int))=false:=by simp
     have hO:O=L.map fun b=>((mskV lev L b:Nat):Int):=by
      refine List.ext_getElem? fun j=>?_
      by_cases hj:j < L.length
      ·rw [QV.out j hj,if_pos hj,List.getElem?_map]
       unfold mkV
       rw[List.getElem?_eq_getElem hj]
       rfl
      ·rw [List.getElem?_eq_none (by have:=QN.out;omega),List.getElem?_eq_none (by simp;omega)]
     have HO:=hid hO
     clear hO
     go_wp2_with fail
     refine bodyPost_ret (v:=.tuple #[.slice (some ⟨g5,0,none⟩) L.length L.length,.nilIface]) (by simp[results,Tryz.results138,go_sem]) rfl ?_
     refine⟨_,rfl,?_,QB.out⟩
     rw[←hLe.out,←HO.out]
     exact QO.out
end
