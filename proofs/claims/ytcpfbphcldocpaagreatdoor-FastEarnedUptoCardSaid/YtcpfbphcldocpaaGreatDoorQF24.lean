/- Parts of the proof, merged by program out of 2 texts (FtH, GrP): the first: The rules of the graph. Conditions: those of each theorem, as typed. -/
import Derived.Test.YtcpfbphcldocpaaGreatDoorQF19
import Derived.Test.YtcpfbphcldocpaaGreatDoorQF23
import Derived.Test.YtcpfbphcldocpaaGreatDoorQF21
set_option linter.unusedVariables false
set_option linter.unusedSimpArgs false
set_option linter.unusedSectionVars false
set_option maxRecDepth 100000
set_option maxHeartbeats 4000000
namespace Go.Proofs.YtcpfbphcldocpaaGreatDoor
open Go.Maps Go.RowKit
section
attribute [local irreducible] wpL
def PredI (g:Nat) (lb:Array Value) (p:Int→Bool) (w:World):Prop:=
 ∀(W:World) (x:Int),dI x→Below w.heap.size w W→Calls Tryz.prog g (#[.int .i64 x]++lb) W fun e w'=>e=.returned (.bool (p x))∧Below W.heap.size W w'
theorem same_any {M1 M2:Mi} {f:Int→Bool}:(∃p ∈ M1,fnd p.1 M2=some p.2∧f p.1=true)↔sameM M1 M2 f=true:=by
 unfold sameM
 rw[List.any_eq_true]
 constructor
 ·rintro ⟨p,h1,h2,h3⟩;exact⟨p,h1,by simp[h2,h3]⟩
 ·rintro ⟨p,h1,h2⟩
  simp only[Bool.and_eq_true,beq_iff_eq] at h2
  exact⟨p,h1,h2.1,h2.2⟩
theorem r_same {w:World} {M1 M2:MI} {b1 b2:Nat} (h1:IsMI w b1 M1.length M1) (h2:IsMI w b2 M2.length M2) (d1:KDom dI M1) (s1:KSrt M1) (d2:KDom dI M2) {g:Nat} {lb:Array Value} {p:Int→Bool} (eg:∀args w,(callFunc g args).run Tryz.prog w=.ok (.enter g args) w) (hp:PredI g lb p w):
  Calls Tryz.prog 115 #[.map (some b1),.map (some b2),.func (.func g) #[] lb] w fun e w'=>e=.returned (.bool (sameM M1 M2 p))∧Below w.heap.size w w':=by
 obtain⟨R,hR⟩:∃R,sameM M1 M2 p=R:=⟨_,rfl⟩
 rw[hR]
 have HRR:=hid hR
 have H1:=hid h1
 have H2:=hid h2
 have D1:=hid d1
 have S1:=hid s1
 have D2:=hid d2
 have HP:=hid hp
 clear h1 h2 d1 s1 d2 hp hR
 go_enter Tryz.func115,Tryz.ntmps115
 go_wp2_with (at_range;refine Stop.halt ?_)
 refine Stop.go ?_
 refine H1.out.wpList_range keyI D1.out S1.out Tryz.underlying138 rfl rfl (by rfl) ?_
 intro Y hrg hg hz
 have HG:=hid hrg
 have BY:=hid (below_ranged (Below.refl w.heap.size w) hg (Nat.le_refl _))
 have hzY:w.heap.size < Y.heap.size:=by omega
 clear hrg hg hz
 obtain⟨w5,hw5⟩:∃w5,w5=w:=⟨_,rfl⟩
 subst hw5
 go_wp2_with fail
 go_frame
 go_loopg [7] M1.length (fun kk _ wq=>∃(S:Int→Bool),RngI wq b1 w5.heap.size M1 S kk∧(∀q ∈ M1,S q.1=false→¬(fnd q.1 M2=some q.2∧p q.1=true))∧Below w5.heap.size w5 wq∧w5.heap.size < wq.heap.size)
 case atStart=>exact⟨_,HG.out,(fun q _ h=>by cases h),BY.out,hzY⟩
 case round=>
  obtain⟨S,hrg,hno,hB,hz⟩:=hrel
  have HG:=hid hrg
  have HNO:=hid hno
  have HB:=hid hB
  clear hrg hno hB BY hzY
  go_wp2_with (at_next;refine Stop.halt ?_)
  refine Stop.go ?_
  refine HG.out.wpList_next keyI elem_int D1.out S1.out rfl rfl (by rfl) ?_ ?_
  ·intro hd
   have HRF:=hid (show R=false by
    rw[←HRR.out]
    cases e:sameM M1 M2 p with
    |false=>rfl
    |true=>
     obtain⟨q,h1,h2⟩:=same_any.2 e
     exact absurd h2 (HNO.out q h1 (hd q h1)))
   clear hd HG
   go_wp2_with fail
   refine bodyPost_ret (v:=.bool false) (by simp[results,Tryz.results115,go_sem]) rfl ?_
   exact⟨by rw[HRF.out],HB.out⟩
  ·intro x u w3 k3 hxm hS hrg3 hlt3 hg3 hz3 hen
   have HB3:=hid (below_next HB.out hg3 HB.out.size (Nat.le_refl _))
   have HG3:=hid hrg3
   have HX:=hid hxm
   have hdx:=D1.out _ hxm
   have hz3':w5.heap.size < w3.heap.size:=by omega
   have lk:=lookOkI (H2.out.below HB3.out H2.out.lt) D2.out hdx (r:=fnd x M2) rfl
   have HSK:=hid (fun(hn:¬(fnd x M2=some u∧p x=true))=>(fun q hq h=>by
    by_cases e:q.1=x
    ·have q1:=(fnd_some S1.out (a:=q.1) (u:=q.2)).2 hq
     have q2:=(fnd_some S1.out).2 HX.out
     rw[e,q2] at q1
     rw[e,←Option.some.inj q1]
     exact hn
    ·have e2:(q.1==x)=false:=by simpa using e
     rw[e2] at h
     exact HNO.out q hq (by simpa using h):∀q ∈ M1,(S q.1&&!(q.1==x))=false→¬(fnd q.1 M2=some q.2∧p q.1=true)))
   have HCL:=hid (HP.out w3 x hdx HB3.out)
   clear hrg3 hg3 HG hz3 hdx
   cases hf:fnd x M2 with
   |none=>
    rw[hf] at lk
    simp only[Option.getD_none,Option.isSome_none] at lk
    have HF:=hid hf
    clear hf
    go_wp2_with fail
    go_roundg k3
    case measure=>exact hlt3
    case rel=>exact⟨_,HG3.out,HSK.out (fun h=>by rw[HF.out] at h;cases h.1),HB3.out,hz3'⟩
   |some v=>
    rw[hf] at lk
    simp only[Option.getD_some,Option.isSome_some] at lk
    have HF:=hid hf
    clear hf
    by_cases hvu:v=u
    ·subst hvu
     obtain⟨r,hr⟩:∃r,p x=r:=⟨_,rfl⟩
     rw[hr] at HCL
     have HPR:=hid hr
     clear hr
     have qv:(v==v)=true:=by simp
     go_wp2_with fail
     refine(HCL.out).mono ?_
     rintro e w4 ⟨rfl,b4⟩
     have HB4:=hid (HB3.out.trans (b4.mono (by omega)))
     have HG4:=hid (HG3.out.below b4 (by have:=H1.out.lt;omega) hz3')
     have hz4:w5.heap.size < w4.heap.size:=by have:=b4.size;omega
     clear b4 HCL
     cases r with
     |true=>
      go_wp2_with fail
      refine bodyPost_ret (v:=.bool true) (by simp[results,Tryz.results115,go_sem]) rfl ?_
      refine⟨?_,HB4.out⟩
      rw[←HRR.out,same_any.1 ⟨_,HX.out,HF.out,HPR.out⟩]
     |false=>
      go_wp2_with fail
      go_roundg k3
      case measure=>exact hlt3
      case rel=>exact⟨_,HG4.out,HSK.out (fun h=>by rw[HPR.out] at h;cases h.2),HB4.out,hz4⟩
    ·have qv:(v==u)=false:=by simpa using hvu
     have HVU:=hid hvu
     clear hvu
     go_wp2_with fail
     go_roundg k3
     case measure=>exact hlt3
     case rel=>exact⟨_,HG3.out,HSK.out (fun h=>by rw[HF.out] at h;exact HVU.out (Option.some.inj h.1)),HB3.out,hz3'⟩
theorem r_any (W:World) (x:Int):Calls Tryz.prog 116 #[.int .i64 x] W fun e w'=>e=.returned (.bool true)∧Below W.heap.size W w':=by
 go_enter Tryz.func116,Tryz.ntmps116
 go_wp2
 go_ret
 exact⟨rfl,Below.refl _ _⟩
structure RulesAt (w:World) (pW n:Nat):Prop where
 wd:w.heap[n]?=some (.cells #[.pointer (some ⟨pW,0,none⟩)] 89 (0,0))
 same:w.heap[n+1]?=some (.cells #[.func (.func 115) #[] #[]] 240 (0,0))
 any_:w.heap[n+1+1]?=some (.cells #[.func (.func 116) #[] #[]] 165 (0,0))
 list:w.heap[n+1+1+1]?=some (.cells #[.int .i64 1,.func (.func 117) #[] #[.pointer (some ⟨n,0,none⟩)],.int .i64 2,.func (.func 119) #[] #[.pointer (some ⟨n+1,0,none⟩),.pointer (some ⟨n+1+1,0,none⟩)],.int .i64 3,.func (.func 120) #[] #[.pointer (some ⟨n+1,0,none⟩)],.int .i64 4,.func (.func 122) #[] #[.pointer (some ⟨n+1,0,none⟩)]] 168 (0,0))
theorem RulesAt.below {w w':World} {pW n K:Nat} (h:RulesAt w pW n) (hb:Below K w w') (hK:n+1+1+1 < K):RulesAt w' pW n:=⟨row_below h.wd hb (by omega),row_below h.same hb (by omega),row_below h.any_ hb (by omega),row_below h.list hb hK⟩
theorem r_rules (w:World) (pW:Nat):Calls Tryz.prog 71 #[.pointer (some ⟨pW,0,none⟩)] w fun e w'=>e=.returned (.slice (some ⟨w.heap.size+1+1+1,0,none⟩) 4 4)∧RulesAt w' pW w.heap.size∧Below w.heap.size w w':=by
 go_enter Tryz.func71,Tryz.ntmps71
 go_wp2
 go_ret
 refine⟨rfl,⟨?_,?_,?_,?_⟩,(((Below.refl _ w).alloc (Nat.le_refl _) _).alloc (by simp) _).alloc (by first|(simp;done)|(simp;omega)) _ |>.alloc (by first|(simp;done)|(simp;omega)) _⟩
 ·rw [heap_alloc_old _ _ (by first|(simp;done)|(simp;omega)),heap_alloc_old _ _ (by first|(simp;done)|(simp;omega)),heap_alloc_old _ _ (by simp)]
  exact heap_alloc_new w _
 ·rw [heap_alloc_old _ _ (by first|(simp;done)|(simp;omega)),heap_alloc_old _ _ (by simp)]
  have:=heap_alloc_new (w.alloc (.cells #[.pointer (some ⟨pW,0,none⟩)] 89)) (.cells #[.func (.func 115) #[] #[]] 240)
  simpa using this
 ·rw [heap_alloc_old _ _ (by simp)]
  have:=heap_alloc_new ((w.alloc (.cells #[.pointer (some ⟨pW,0,none⟩)] 89)).alloc (.cells #[.func (.func 115) #[] #[]] 240)) (.cells #[.func (.func 116) #[] #[]] 165)
  simpa using this
 ·have:=heap_alloc_new (((w.alloc (.cells #[.pointer (some ⟨pW,0,none⟩)] 89)).alloc (.cells #[.func (.func 115) #[] #[]] 240)).alloc (.cells #[.func (.func 116) #[] #[]] 165)) (.cells #[.int .i64 1,.func (.func 117) #[] #[.pointer (some ⟨w.heap.size,0,none⟩)],.int .i64 2,.func (.func 119) #[] #[.pointer (some ⟨w.heap.size+1,0,none⟩),.pointer (some ⟨w.heap.size+1+1,0,none⟩)],.int .i64 3,.func (.func 120) #[] #[.pointer (some ⟨w.heap.size+1,0,none⟩)],.int .i64 4,.func (.func 122) #[] #[.pointer (some ⟨w.heap.size+1,0,none⟩)]] 168)
  simpa using this
section
variable {w:World} {lo hi pW bB n:Nat} {lev:Int} {ov vv lv:Value} {ms:List Mvr} {A:Au} {T:List Bool} {i j:Nat} {m m':Mvr} {a a':St}
theorem r_real (h:FwAt w lo hi pW bB lev ov vv ms lv A T) (hov:∃x y z,ov=.slice x y z) (hvv:∃x y z,vv=.slice x y z) (hr:RulesAt w pW n) (h1:ms[i]?=some m) (h2:ms[j]?=some m') (g1:A[i]?=some a) (g2:A[j]?=some a'):
  Calls Tryz.prog 117 #[.pointer (some ⟨m.p,0,none⟩),.pointer (some ⟨m'.p,0,none⟩),.pointer (some ⟨n,0,none⟩)] w fun e w'=>e=.returned (.bool (ruleReal lev a a'))∧Below w.heap.size w w':=by
 have q1:=h.mv i m a h1 g1
 have q2:=h.mv j m' a' h2 g2
 obtain⟨d1,c1,e1⟩:=OwnF.sli q1.dds
 obtain⟨d2,c2,e2⟩:=OwnF.sli q2.dds
 have r1:=q1.row
 have r2:=q2.row
 unfold mvRow at r1 r2
 rw[e1] at r1
 rw[e2] at r2
 have hw:=row_cell hr.wd 0
 have hwl:=row_lt hr.wd
 have hl:=row_cell h.row 2
 have hll:=row_lt h.row
 simp at hw hl
 have s1:=row_cell r1
 have s2:=row_cell r2
 have x0:=s1 0
 have x1:=s1 1
 have x2:=s1 2
 have x3:=s1 3
 have x4:=s1 4
 have x5:=s1 5
 have x6:=s1 6
 have z0:=s2 0
 have z1:=s2 1
 have z2:=s2 2
 have z3:=s2 3
 have z4:=s2 4
 have z5:=s2 5
 have z6:=s2 6
 simp at x0 x1 x2 x3 x4 x5 x6 z0 z1 z2 z3 z4 z5 z6
 have xl:=row_lt r1
 have zl:=row_lt r2
 clear s1 s2 r1 r2 e1 e2 q1 q2 h hr g1 g2 h1 h2
 go_enter Tryz.func117,Tryz.ntmps117
 go_wp2_with fail
 by_cases hlev:lev=1
 ·have ql:(lev !=1)=false:=by simp[hlev]
  have HL:=hid hlev
  clear hlev
  refine wp_rN (w.heap.size) [1,0,0,1,0,0,0,0,0,1,0,0,0,1,2,0,0] (.fin [0,1,2,3,4,5,6,7,8,9,10,11,12,13,14,15,16]) (by kernel_rfl) ?_
  simp only[wpT,selX,guardAt,sD,sE,sF,sG,Option.bind_some]
  repeat first|(refine wpL_p fun K hK=>?_;go_simp;refine hK _ _ ?_;clear hK K)|(apply wpL_s;(intro w2 hw2;have hk1:=hw2.cell;have hk3:=hw2.1;clear hw2;go_simp;with_reducible rfl);simp only[Act.put,sA,sB,sC])|refine wpL_yes rfl rfl ?_|(refine wpL_no rfl rfl fun K hK=>?_;simp only[Act.put,sA,sB,sC];refine hK _ _ ?_;clear hK K)|(refine wpL_un rfl fun K hK=>?_;simp only[Act.put,sA,sB,sC];refine hK _ _ ?_;clear hK K)|refine wpL_nil ?_
  go_wp2
  go_ret
  exact⟨by unfold ruleReal;rw[HL.out];rfl,(Below.refl _ w).drew⟩
 ·have ql:(lev !=1)=true:=by simpa using hlev
  have HL:=hid hlev
  clear hlev
  refine wp_rN (w.heap.size) [1,0,0,1,0,0,0,0,0,1,0,0,0,1,2,0,0] (.fin [0,1,2,3,4,5,6,7,8,9,10,11,12,13,14,15,16]) (by kernel_rfl) ?_
  simp only[wpT,selX,guardAt,sD,sE,sF,sG,Option.bind_some]
  repeat first|(refine wpL_p fun K hK=>?_;go_simp;refine hK _ _ ?_;clear hK K)|(apply wpL_s;(intro w2 hw2;have hk1:=hw2.cell;have hk3:=hw2.1;clear hw2;go_simp;with_reducible rfl);simp only[Act.put,sA,sB,sC])|refine wpL_yes rfl rfl ?_|(refine wpL_no rfl rfl fun K hK=>?_;simp only[Act.put,sA,sB,sC];refine hK _ _ ?_;clear hK K)
  refine wpL_e (fun K hK=>?_)
  go_simp
  refine(sh_Really a.id a.thread a.status a.beg a.fin a.tri d1 a.deeds.length c1 a'.id a'.thread a'.status a'.beg a'.fin a'.tri d2 a'.deeds.length c2 w.drew).mono ?_
  rintro e X2 ⟨rfl,hb⟩
  refine hK _ _ ?_
  clear hK K
  have BX:=hid ((Below.refl w.heap.size w).drew.trans hb)
  have HRL:=hid (show ruleReal lev a a'=(decide (0≤a.fin)&&decide (a.fin < a'.beg)) by unfold ruleReal rly;simp[HL.out])
  obtain⟨rb,hrb⟩:∃rb,(decide (0≤a.fin)&&decide (a.fin < a'.beg))=rb:=⟨_,rfl⟩
  rw[hrb] at HRL ⊢
  clear hb hrb
  repeat first|(refine wpL_p fun K hK=>?_;go_simp;refine hK _ _ ?_;clear hK K)|refine wpL_nil ?_
  go_wp2
  go_ret
  exact⟨by rw[HRL.out];rfl,BX.out⟩
def MvDom (A:Au):Prop:=∀s ∈ A,KDom dI (rdM s)∧KDom dI (wrM s)
theorem r_from (h:FwAt w lo hi pW bB lev ov vv ms lv A T) (hd:MvDom A) (hr:RulesAt w pW n) (h1:ms[i]?=some m) (h2:ms[j]?=some m') (g1:A[i]?=some a) (g2:A[j]?=some a'):
  Calls Tryz.prog 119 #[.pointer (some ⟨m.p,0,none⟩),.pointer (some ⟨m'.p,0,none⟩),.pointer (some ⟨n+1,0,none⟩),.pointer (some ⟨n+1+1,0,none⟩)] w fun e w'=>e=.returned (.bool (ruleFrom (T.getD i false) a a'))∧Below w.heap.size w w':=by
 have q1:=h.mv i m a h1 g1
 have q2:=h.mv j m' a' h2 g2
 have r1:=q1.row
 have r2:=q2.row
 have hsm:=row_cell hr.same 0
 have hsl:=row_lt hr.same
 have han:=row_cell hr.any_ 0
 have hal:=row_lt hr.any_
 simp at hsm han
 have s1:=row_cell r1
 have s2:=row_cell r2
 have x7:=s1 7
 have x8:=s1 8
 have x10:=s1 10
 have z7:=s2 7
 have z8:=s2 8
 have z10:=s2 10
 simp at x7 x8 x10 z7 z8 z10
 rw[←List.getD_eq_getElem?_getD] at x10 z10
 obtain⟨ta,hta⟩:∃ta,T.getD i false=ta:=⟨_,rfl⟩
 obtain⟨tb,htb⟩:∃tb,T.getD j false=tb:=⟨_,rfl⟩
 rw[hta] at x10
 rw[htb] at z10
 have xl:=row_lt r1
 have zl:=row_lt r2
 have R1:=hid q1.rd
 have V1:=hid q1.wr
 have R2:=hid q2.rd
 have V2:=hid q2.wr
 have D1:=hid (hd a (List.mem_of_getElem? g1))
 have D2:=hid (hd a' (List.mem_of_getElem? g2))
 have r2':=hid r2
 have SC:=hid (r_same (w:=w.drew) V1.out.drew R2.out.drew D1.out.2 (srt_wrM a) D2.out.1 (lb:=#[]) (p:=fun _=>true) (enters_of Tryz.func116 (by kernel_rfl) rfl) (fun W x _ _=>r_any W x))
 rw[hta]
 clear s1 s2 r1 r2 q1 q2 h hr g1 g2 h1 h2 hta htb hd
 go_enter Tryz.func119,Tryz.ntmps119
 go_wp2_with fail
 cases ta with
 |false=>
  refine wp_rN (w.heap.size) [0,0,0,1,0,1,0,0,0,1,0,0,0,1,1,2,0,0] (.fin [0,1,2,3,4,5,6,7,8,9,10,11,12,13,14,15,16,17]) (by kernel_rfl) ?_
  simp only[wpT,selX,guardAt,sD,sE,sF,sG,Option.bind_some]
  repeat first|(refine wpL_p fun K hK=>?_;go_simp;refine hK _ _ ?_;clear hK K)|(apply wpL_s;(intro w2 hw2;have hk1:=hw2.cell;have hk3:=hw2.1;clear hw2;go_simp;with_reducible rfl);simp only[Act.put,sA,sB,sC])|refine wpL_yes rfl rfl ?_|(refine wpL_no rfl rfl fun K hK=>?_;simp only[Act.put,sA,sB,sC];refine hK _ _ ?_;clear hK K)|(refine wpL_un rfl fun K hK=>?_;simp only[Act.put,sA,sB,sC];refine hK _ _ ?_;clear hK K)|refine wpL_nil ?_
  go_wp2
  go_ret
  exact⟨rfl,(Below.refl _ w).drew⟩
 |true=>
  refine wp_rN (w.heap.size) [0,0,0,1,0,1,0,0,0,1,0,0,0,1,1,2,0,0] (.fin [0,1,2,3,4,5,6,7,8,9,10,11,12,13,14,15,16,17]) (by kernel_rfl) ?_
  simp only[wpT,selX,guardAt,sD,sE,sF,sG,Option.bind_some]
  repeat first|(refine wpL_p fun K hK=>?_;go_simp;refine hK _ _ ?_;clear hK K)|(apply wpL_s;(intro w2 hw2;have hk1:=hw2.cell;have hk3:=hw2.1;clear hw2;go_simp;with_reducible rfl);simp only[Act.put,sA,sB,sC])|refine wpL_yes rfl rfl ?_|(refine wpL_no rfl rfl fun K hK=>?_;simp only[Act.put,sA,sB,sC];refine hK _ _ ?_;clear hK K)
  refine wpL_e (fun K hK=>?_)
  go_simp
  refine(SC.out).mono ?_
  rintro e X2 ⟨rfl,hb⟩
  refine hK _ _ ?_
  clear hK K
  have BX:=hid ((Below.refl w.heap.size w).drew.trans hb)
  clear hb
  repeat first|(refine wpL_p fun K hK=>?_;go_simp;refine hK _ _ ?_;clear hK K)|refine wpL_nil ?_
  go_wp2
  go_ret
  exact⟨rfl,BX.out⟩
theorem r_write_cl {w:World} {b:Nat} {m':Mvr} {a':St} (hb:w.heap[b]?=some (.cells #[.pointer (some ⟨m'.p,0,none⟩)] 133 (0,0))) {cs:Array Value} (hm:w.heap[m'.p]?=some (.cells cs 140 (0,0))) (h8:w.cell? ⟨m'.p,8,none⟩=some (.map (some m'.wm))) (hw:IsMI w m'.wm (wrM a').length (wrM a')) (hd:KDom dI (wrM a')):
  PredI 121 #[.pointer (some ⟨b,0,none⟩)] (fun o=>(fnd o (wrM a')).isSome) w:=by
 intro W x hx hB
 have c0:=row_cell (row_below hb hB (row_lt hb)) 0
 simp at c0
 have c8:=cell_below hB (row_lt hm) h8
 have l0:=row_lt (row_below hb hB (row_lt hb))
 have l8:m'.p < W.heap.size:=Nat.lt_of_lt_of_le (row_lt hm) hB.size
 have lk:=lookOkI (hw.below hB hw.lt) hd hx (r:=fnd x (wrM a')) rfl
 have ea:∀a b:Value,(#[a]++#[b]:Array Value)=#[a,b]:=fun a b=>by simp
 rw[ea]
 obtain⟨r,hr⟩:∃r,fnd x (wrM a')=r:=⟨_,rfl⟩
 rw[hr] at lk
 show Calls _ _ _ W fun e w'=>e=.returned (.bool (fnd x (wrM a')).isSome)∧Below W.heap.size W w'
 rw[hr]
 clear hr hb hm h8 hw hB ea
 go_enter Tryz.func121,Tryz.ntmps121
 go_wp2
 go_ret
 exact⟨rfl,Below.refl _ _⟩
theorem r_anti_cl {w:World} {b:Nat} {m':Mvr} {a':St} (hb:w.heap[b]?=some (.cells #[.pointer (some ⟨m'.p,0,none⟩)] 133 (0,0))) {cs:Array Value} (hm:w.heap[m'.p]?=some (.cells cs 140 (0,0))) (h8:w.cell? ⟨m'.p,8,none⟩=some (.map (some m'.wm))) (hw:IsMI w m'.wm (wrM a').length (wrM a')) (hd:KDom dI (wrM a')):
  PredI 123 #[.pointer (some ⟨b,0,none⟩)] (fun o=>(fnd o (wrM a')).isSome) w:=by
 intro W x hx hB
 have c0:=row_cell (row_below hb hB (row_lt hb)) 0
 simp at c0
 have c8:=cell_below hB (row_lt hm) h8
 have l0:=row_lt (row_below hb hB (row_lt hb))
 have l8:m'.p < W.heap.size:=Nat.lt_of_lt_of_le (row_lt hm) hB.size
 have lk:=lookOkI (hw.below hB hw.lt) hd hx (r:=fnd x (wrM a')) rfl
 have ea:∀a b:Value,(#[a]++#[b]:Array Value)=#[a,b]:=fun a b=>by simp
 rw[ea]
 obtain⟨r,hr⟩:∃r,fnd x (wrM a')=r:=⟨_,rfl⟩
 rw[hr] at lk
 show Calls _ _ _ W fun e w'=>e=.returned (.bool (fnd x (wrM a')).isSome)∧Below W.heap.size W w'
 rw[hr]
 clear hr hb hm h8 hw hB ea
 go_enter Tryz.func123,Tryz.ntmps123
 go_wp2
 go_ret
 exact⟨rfl,Below.refl _ _⟩
theorem r_write (h:FwAt w lo hi pW bB lev ov vv ms lv A T) (hd:MvDom A) (hr:RulesAt w pW n) (h1:ms[i]?=some m) (h2:ms[j]?=some m') (g1:A[i]?=some a) (g2:A[j]?=some a'):
  Calls Tryz.prog 120 #[.pointer (some ⟨m.p,0,none⟩),.pointer (some ⟨m'.p,0,none⟩),.pointer (some ⟨n+1,0,none⟩)] w fun e w'=>e=.returned (.bool (ruleWrite (T.getD i false) (T.getD j false) a a'))∧Below w.heap.size w w':=by
 have q1:=h.mv i m a h1 g1
 have q2:=h.mv j m' a' h2 g2
 have r1:=q1.row
 have r2:=q2.row
 have hsm:=row_cell hr.same 0
 have hsl:=row_lt hr.same
 have han:=row_cell hr.any_ 0
 have hal:=row_lt hr.any_
 simp at hsm han
 have s1:=row_cell r1
 have s2:=row_cell r2
 have x7:=s1 7
 have x8:=s1 8
 have x10:=s1 10
 have z7:=s2 7
 have z8:=s2 8
 have z10:=s2 10
 simp at x7 x8 x10 z7 z8 z10
 rw[←List.getD_eq_getElem?_getD] at x10 z10
 obtain⟨ta,hta⟩:∃ta,T.getD i false=ta:=⟨_,rfl⟩
 obtain⟨tb,htb⟩:∃tb,T.getD j false=tb:=⟨_,rfl⟩
 rw[hta] at x10
 rw[htb] at z10
 have xl:=row_lt r1
 have zl:=row_lt r2
 have R1:=hid q1.rd
 have V1:=hid q1.wr
 have R2:=hid q2.rd
 have V2:=hid q2.wr
 have D1:=hid (hd a (List.mem_of_getElem? g1))
 have D2:=hid (hd a' (List.mem_of_getElem? g2))
 have r2':=hid r2
 have BB:=hid (show Below w.heap.size w (w.alloc (.cells #[.pointer (some ⟨m'.p,0,none⟩)] 133)) from(Below.refl _ w).alloc (Nat.le_refl _) _)
 have rb:=row_new w (.cells #[.pointer (some ⟨m'.p,0,none⟩)] 133)
 have yb:(w.alloc (.cells #[.pointer (some ⟨m'.p,0,none⟩)] 133)).cell? ⟨w.heap.size,0,none⟩=some (.pointer (some ⟨m'.p,0,none⟩)):=row_cell rb 0
 have ybl:=row_lt rb
 have PC:=hid (r_write_cl (w:=(w.alloc (.cells #[.pointer (some ⟨m'.p,0,none⟩)] 133)).drew) rb (row_below r2 BB.out.drew (row_lt r2)) (cell_below BB.out.drew (row_lt r2) z8) (V2.out.below BB.out.drew V2.out.lt) D2.out.2)
 have SC:=hid (r_same (w:=(w.alloc (.cells #[.pointer (some ⟨m'.p,0,none⟩)] 133)).drew) (V1.out.below BB.out V1.out.lt).drew (R2.out.below BB.out R2.out.lt).drew D1.out.2 (srt_wrM a) D2.out.1 (enters_of Tryz.func121 (by kernel_rfl) rfl) PC.out)
 have x7:=cell_below BB.out xl x7
 have x8:=cell_below BB.out xl x8
 have x10:=cell_below BB.out xl x10
 have z7:=cell_below BB.out zl z7
 have z8:=cell_below BB.out zl z8
 have z10:=cell_below BB.out zl z10
 have hsm:=cell_below BB.out hsl hsm
 have xl:m.p < (w.alloc (.cells #[.pointer (some ⟨m'.p,0,none⟩)] 133)).heap.size:=Nat.lt_of_lt_of_le xl BB.out.size
 have zl:m'.p < (w.alloc (.cells #[.pointer (some ⟨m'.p,0,none⟩)] 133)).heap.size:=Nat.lt_of_lt_of_le zl BB.out.size
 have hsl:n+1 < (w.alloc (.cells #[.pointer (some ⟨m'.p,0,none⟩)] 133)).heap.size:=Nat.lt_of_lt_of_le hsl BB.out.size
 rw[hta,htb]
 clear s1 s2 r1 r2 r2' q1 q2 h hr g1 g2 h1 h2 hta htb hd rb hal han
 go_enter Tryz.func120,Tryz.ntmps120
 go_wp2_with fail
 generalize w.alloc (.cells #[.pointer (some ⟨m'.p,0,none⟩)] 133)=W at *
 cases ta with
 |false=>
  refine wp_rN (W.heap.size) [0,0,0,1,0,1,0,0,1,0,0,1,0,0,0,1,1,0,0,1,0,2,0,0] (.fin [0,1,2,3,4,5,6,7,8,9,10,11,12,13,14,15,16,17,18,19,20,21,22,23]) (by kernel_rfl) ?_
  simp only[wpT,selX,guardAt,sD,sE,sF,sG,Option.bind_some]
  repeat first|(refine wpL_p fun K hK=>?_;go_simp;refine hK _ _ ?_;clear hK K)|(apply wpL_s;(intro w2 hw2;have hk1:=hw2.cell;have hk3:=hw2.1;clear hw2;go_simp;with_reducible rfl);simp only[Act.put,sA,sB,sC])|refine wpL_yes rfl rfl ?_|(refine wpL_no rfl rfl fun K hK=>?_;simp only[Act.put,sA,sB,sC];refine hK _ _ ?_;clear hK K)|(refine wpL_un rfl fun K hK=>?_;simp only[Act.put,sA,sB,sC];refine hK _ _ ?_;clear hK K)|refine wpL_nil ?_
  go_wp2
  go_ret
  exact⟨rfl,BB.out.drew⟩
 |true=>
  cases tb with
  |false=>
   refine wp_rN (W.heap.size) [0,0,0,1,0,1,0,0,1,0,0,1,0,0,0,1,1,0,0,1,0,2,0,0] (.fin [0,1,2,3,4,5,6,7,8,9,10,11,12,13,14,15,16,17,18,19,20,21,22,23]) (by kernel_rfl) ?_
   simp only[wpT,selX,guardAt,sD,sE,sF,sG,Option.bind_some]
   repeat first|(refine wpL_p fun K hK=>?_;go_simp;refine hK _ _ ?_;clear hK K)|(apply wpL_s;(intro w2 hw2;have hk1:=hw2.cell;have hk3:=hw2.1;clear hw2;go_simp;with_reducible rfl);simp only[Act.put,sA,sB,sC])|refine wpL_yes rfl rfl ?_|(refine wpL_no rfl rfl fun K hK=>?_;simp only[Act.put,sA,sB,sC];refine hK _ _ ?_;clear hK K)|(refine wpL_un rfl fun K hK=>?_;simp only[Act.put,sA,sB,sC];refine hK _ _ ?_;clear hK K)|refine wpL_nil ?_
   go_wp2
   go_ret
   exact⟨rfl,BB.out.drew⟩
  |true=>
   refine wp_rN (W.heap.size) [0,0,0,1,0,1,0,0,1,0,0,1,0,0,0,1,1,0,0,1,0,2,0,0] (.fin [0,1,2,3,4,5,6,7,8,9,10,11,12,13,14,15,16,17,18,19,20,21,22,23]) (by kernel_rfl) ?_
   simp only[wpT,selX,guardAt,sD,sE,sF,sG,Option.bind_some]
   repeat first|(refine wpL_p fun K hK=>?_;go_simp;refine hK _ _ ?_;clear hK K)|(apply wpL_s;(intro w2 hw2;have hk1:=hw2.cell;have hk3:=hw2.1;clear hw2;go_simp;with_reducible rfl);simp only[Act.put,sA,sB,sC])|refine wpL_yes rfl rfl ?_|(refine wpL_no rfl rfl fun K hK=>?_;simp only[Act.put,sA,sB,sC];refine hK _ _ ?_;clear hK K)
   refine wpL_e (fun K hK=>?_)
   go_simp
   refine(SC.out).mono ?_
   rintro e X2 ⟨rfl,hb⟩
   refine hK _ _ ?_
   clear hK K
   have BX:=hid (BB.out.trans ((show Below W.heap.size W X2 from(Below.refl _ W).drew.trans hb).mono BB.out.size))
   clear hb
   repeat first|(refine wpL_p fun K hK=>?_;go_simp;refine hK _ _ ?_;clear hK K)|refine wpL_nil ?_
   go_wp2
   go_ret
   exact⟨rfl,BX.out⟩
theorem r_anti (h:FwAt w lo hi pW bB lev ov vv ms lv A T) (hd:MvDom A) (hr:RulesAt w pW n) (h1:ms[i]?=some m) (h2:ms[j]?=some m') (g1:A[i]?=some a) (g2:A[j]?=some a'):
  Calls Tryz.prog 122 #[.pointer (some ⟨m.p,0,none⟩),.pointer (some ⟨m'.p,0,none⟩),.pointer (some ⟨n+1,0,none⟩)] w fun e w'=>e=.returned (.bool (ruleAnti (T.getD j false) a a'))∧Below w.heap.size w w':=by
 have q1:=h.mv i m a h1 g1
 have q2:=h.mv j m' a' h2 g2
 have r1:=q1.row
 have r2:=q2.row
 have hsm:=row_cell hr.same 0
 have hsl:=row_lt hr.same
 have han:=row_cell hr.any_ 0
 have hal:=row_lt hr.any_
 simp at hsm han
 have s1:=row_cell r1
 have s2:=row_cell r2
 have x7:=s1 7
 have x8:=s1 8
 have x10:=s1 10
 have z7:=s2 7
 have z8:=s2 8
 have z10:=s2 10
 simp at x7 x8 x10 z7 z8 z10
 rw[←List.getD_eq_getElem?_getD] at x10 z10
 obtain⟨ta,hta⟩:∃ta,T.getD i false=ta:=⟨_,rfl⟩
 obtain⟨tb,htb⟩:∃tb,T.getD j false=tb:=⟨_,rfl⟩
 rw[hta] at x10
 rw[htb] at z10
 have xl:=row_lt r1
 have zl:=row_lt r2
 have R1:=hid q1.rd
 have V1:=hid q1.wr
 have R2:=hid q2.rd
 have V2:=hid q2.wr
 have D1:=hid (hd a (List.mem_of_getElem? g1))
 have D2:=hid (hd a' (List.mem_of_getElem? g2))
 have r2':=hid r2
 have BB:=hid (show Below w.heap.size w (w.alloc (.cells #[.pointer (some ⟨m'.p,0,none⟩)] 133)) from(Below.refl _ w).alloc (Nat.le_refl _) _)
 have rb:=row_new w (.cells #[.pointer (some ⟨m'.p,0,none⟩)] 133)
 have yb:(w.alloc (.cells #[.pointer (some ⟨m'.p,0,none⟩)] 133)).cell? ⟨w.heap.size,0,none⟩=some (.pointer (some ⟨m'.p,0,none⟩)):=row_cell rb 0
 have ybl:=row_lt rb
 have PC:=hid (r_anti_cl (w:=(w.alloc (.cells #[.pointer (some ⟨m'.p,0,none⟩)] 133)).drew) rb (row_below r2 BB.out.drew (row_lt r2)) (cell_below BB.out.drew (row_lt r2) z8) (V2.out.below BB.out.drew V2.out.lt) D2.out.2)
 have SC:=hid (r_same (w:=(w.alloc (.cells #[.pointer (some ⟨m'.p,0,none⟩)] 133)).drew) (R1.out.below BB.out R1.out.lt).drew (R2.out.below BB.out R2.out.lt).drew D1.out.1 (srt_rdM a) D2.out.1 (enters_of Tryz.func123 (by kernel_rfl) rfl) PC.out)
 have x7:=cell_below BB.out xl x7
 have x8:=cell_below BB.out xl x8
 have x10:=cell_below BB.out xl x10
 have z7:=cell_below BB.out zl z7
 have z8:=cell_below BB.out zl z8
 have z10:=cell_below BB.out zl z10
 have hsm:=cell_below BB.out hsl hsm
 have xl:m.p < (w.alloc (.cells #[.pointer (some ⟨m'.p,0,none⟩)] 133)).heap.size:=Nat.lt_of_lt_of_le xl BB.out.size
 have zl:m'.p < (w.alloc (.cells #[.pointer (some ⟨m'.p,0,none⟩)] 133)).heap.size:=Nat.lt_of_lt_of_le zl BB.out.size
 have hsl:n+1 < (w.alloc (.cells #[.pointer (some ⟨m'.p,0,none⟩)] 133)).heap.size:=Nat.lt_of_lt_of_le hsl BB.out.size
 rw[htb]
 clear s1 s2 r1 r2 r2' q1 q2 h hr g1 g2 h1 h2 hta htb hd rb hal han
 go_enter Tryz.func122,Tryz.ntmps122
 go_wp2_with fail
 generalize w.alloc (.cells #[.pointer (some ⟨m'.p,0,none⟩)] 133)=W at *
 cases tb with
 |false=>
  refine wp_rN (W.heap.size) [1,0,0,1,0,1,0,0,0,1,1,0,0,1,0,2,0,0] (.fin [0,1,2,3,4,5,6,7,8,9,10,11,12,13,14,15,16,17]) (by kernel_rfl) ?_
  simp only[wpT,selX,guardAt,sD,sE,sF,sG,Option.bind_some]
  repeat first|(refine wpL_p fun K hK=>?_;go_simp;refine hK _ _ ?_;clear hK K)|(apply wpL_s;(intro w2 hw2;have hk1:=hw2.cell;have hk3:=hw2.1;clear hw2;go_simp;with_reducible rfl);simp only[Act.put,sA,sB,sC])|refine wpL_yes rfl rfl ?_|(refine wpL_no rfl rfl fun K hK=>?_;simp only[Act.put,sA,sB,sC];refine hK _ _ ?_;clear hK K)|(refine wpL_un rfl fun K hK=>?_;simp only[Act.put,sA,sB,sC];refine hK _ _ ?_;clear hK K)|refine wpL_nil ?_
  go_wp2
  go_ret
  exact⟨rfl,BB.out.drew⟩
 |true=>
  refine wp_rN (W.heap.size) [1,0,0,1,0,1,0,0,0,1,1,0,0,1,0,2,0,0] (.fin [0,1,2,3,4,5,6,7,8,9,10,11,12,13,14,15,16,17]) (by kernel_rfl) ?_
  simp only[wpT,selX,guardAt,sD,sE,sF,sG,Option.bind_some]
  repeat first|(refine wpL_p fun K hK=>?_;go_simp;refine hK _ _ ?_;clear hK K)|(apply wpL_s;(intro w2 hw2;have hk1:=hw2.cell;have hk3:=hw2.1;clear hw2;go_simp;with_reducible rfl);simp only[Act.put,sA,sB,sC])|refine wpL_yes rfl rfl ?_|(refine wpL_no rfl rfl fun K hK=>?_;simp only[Act.put,sA,sB,sC];refine hK _ _ ?_;clear hK K)
  refine wpL_e (fun K hK=>?_)
  go_simp
  refine(SC.out).mono ?_
  rintro e X2 ⟨rfl,hb⟩
  refine hK _ _ ?_
  clear hK K
  have BX:=hid (BB.out.trans ((show Below W.heap.size W X2 from(Below.refl _ W).drew.trans hb).mono BB.out.size))
  clear hb
  repeat first|(refine wpL_p fun K hK=>?_;go_simp;refine hK _ _ ?_;clear hK K)|refine wpL_nil ?_
  go_wp2
  go_ret
  exact⟨rfl,BX.out⟩
end
end
structure GrB (w:World) (lo hi p b:Nat) (ow:Nat→Int) (M:List (Int×Nat)) (A:Int→List (Int×Nat)) (N:List Int) (E:List Trp):Prop where
 ptr:w.heap[p]?=some (.cells #[.map (some b)] 106 (0,0))
 hp:lo≤p∧p < hi
 hb:lo≤b∧b < hi
 out:MapO w b M
 srtM:KSrt M
 keys:M.map (·.1)=N
 inn:∀a u,(a,u) ∈ M→(lo≤u∧u < hi∧u≠b∧ow u=a)∧MapO w u (A a)∧KSrt (A a)∧(A a).map (·.1)=row (prs E) a
 leaf:∀a u c v,(a,u) ∈ M→(c,v) ∈ A a→(lo≤v∧v < hi∧v≠b∧v≠u∧ow v=a)∧MapB w v (units (kindsOf E a c))
 inj:∀a u c c' v,(a,u) ∈ M→(c,v) ∈ A a→(c',v) ∈ A a→c=c'
 ok:GrOk N E
 domN:∀a ∈ N,dI a
 domE:∀e ∈ E,dI e.2.2
def GrAt (w:World) (lo hi p:Nat) (N:List Int) (E:List Trp):Prop:=∃b ow M A,GrB w lo hi p b ow M A N E
section
variable {w w':World} {lo hi p b:Nat} {ow:Nat→Int} {M:List (Int×Nat)} {A:Int→List (Int×Nat)} {N:List Int} {E:List Trp}
theorem GrB.below {K:Nat} (h:GrB w lo hi p b ow M A N E) (hb:Below K w w') (hK:hi≤K):GrB w' lo hi p b ow M A N E:=
 {h with
  ptr:=row_below h.ptr hb (by have:=h.hp;omega)
  out:=h.out.below hb (by have:=h.hb;omega)
  inn:=fun a u hu=>let ⟨h1,h2,h3⟩:=h.inn a u hu;⟨h1,h2.below hb (by omega),h3⟩
  leaf:=fun a u c v hu hv=>let ⟨h1,h2⟩:=h.leaf a u c v hu hv;⟨h1,h2.below hb (by omega)⟩}
theorem GrAt.below {K:Nat} (h:GrAt w lo hi p N E) (hb:Below K w w') (hK:hi≤K):GrAt w' lo hi p N E:=let ⟨b,ow,M,A,h⟩:=h;⟨b,ow,M,A,h.below hb hK⟩
theorem GrB.raise {hi':Nat} (h:GrB w lo hi p b ow M A N E) (hh:hi≤hi'):GrB w lo hi' p b ow M A N E:=
 {h with
  hp:=⟨h.hp.1,Nat.lt_of_lt_of_le h.hp.2 hh⟩
  hb:=⟨h.hb.1,Nat.lt_of_lt_of_le h.hb.2 hh⟩
  inn:=fun a u hu=>let ⟨h1,h2⟩:=h.inn a u hu;⟨⟨h1.1,Nat.lt_of_lt_of_le h1.2.1 hh,h1.2.2⟩,h2⟩
  leaf:=fun a u c v hu hv=>let ⟨h1,h2⟩:=h.leaf a u c v hu hv;⟨⟨h1.1,Nat.lt_of_lt_of_le h1.2.1 hh,h1.2.2⟩,h2⟩}
theorem GrAt.raise {hi':Nat} (h:GrAt w lo hi p N E) (hh:hi≤hi'):GrAt w lo hi' p N E:=let ⟨b,ow,M,A,h⟩:=h;⟨b,ow,M,A,h.raise hh⟩
theorem GrB.lower {lo':Nat} (h:GrB w lo hi p b ow M A N E) (hh:lo'≤lo):GrB w lo' hi p b ow M A N E:=
 {h with
  hp:=⟨Nat.le_trans hh h.hp.1,h.hp.2⟩
  hb:=⟨Nat.le_trans hh h.hb.1,h.hb.2⟩
  inn:=fun a u hu=>let ⟨h1,h2⟩:=h.inn a u hu;⟨⟨Nat.le_trans hh h1.1,h1.2⟩,h2⟩
  leaf:=fun a u c v hu hv=>let ⟨h1,h2⟩:=h.leaf a u c v hu hv;⟨⟨Nat.le_trans hh h1.1,h1.2⟩,h2⟩}
theorem GrAt.lower {lo':Nat} (h:GrAt w lo hi p N E) (hh:lo'≤lo):GrAt w lo' hi p N E:=let ⟨b,ow,M,A,h⟩:=h;⟨b,ow,M,A,h.lower hh⟩
theorem GrAt.ok (h:GrAt w lo hi p N E):GrOk N E:=let ⟨_,_,_,_,h⟩:=h;h.ok
theorem GrAt.domN (h:GrAt w lo hi p N E):∀a ∈ N,dI a:=let ⟨_,_,_,_,h⟩:=h;h.domN
theorem GrAt.lt (h:GrAt w lo hi p N E):lo≤p∧p < hi:=let ⟨_,_,_,_,h⟩:=h;h.hp
theorem GrB.domM (h:GrB w lo hi p b ow M A N E):KDom dI M:=fun q hq=>h.domN _ (by rw[←h.keys];exact List.mem_map.2 ⟨q,hq,rfl⟩)
theorem GrB.inN (h:GrB w lo hi p b ow M A N E) {a:Int} {u:Nat} (hu:(a,u) ∈ M):a ∈ N:=by rw[←h.keys];exact List.mem_map.2 ⟨_,hu,rfl⟩
theorem GrB.domR (h:GrB w lo hi p b ow M A N E) (a:Int):∀c ∈ row (prs E) a,dI c:=fun _ hc=>h.domN _ (h.ok.pair (mem_row.1 hc)).2
theorem GrB.domA (h:GrB w lo hi p b ow M A N E) {a:Int} {u:Nat} (hu:(a,u) ∈ M):KDom dI (A a):=fun q hq=>by
 refine h.domR a q.1 ?_
 rw[←(h.inn a u hu).2.2.2]
 exact List.mem_map.2 ⟨q,hq,rfl⟩
theorem GrB.domK (h:GrB w lo hi p b ow M A N E) (a c:Int):∀k ∈ kindsOf E a c,dI k:=fun _ hk=>h.domE _ (mem_kindsOf.1 hk)
theorem GrB.here (h:GrB w lo hi p b ow M A N E) {a:Int} {u:Nat} (hf:fnd a M=some u):(a,u) ∈ M:=(fnd_some h.srtM).1 hf
theorem GrB.hereA (h:GrB w lo hi p b ow M A N E) {a c:Int} {u v:Nat} (hu:(a,u) ∈ M) (hf:fnd c (A a)=some v):(c,v) ∈ A a:=(fnd_some (h.inn a u hu).2.2.1).1 hf
theorem GrB.gone (h:GrB w lo hi p b ow M A N E) {a:Int} (hf:fnd a M=none):a ∉ N:=fun ha=>by
 rw[←h.keys] at ha
 obtain⟨q,hq,rfl⟩:=List.mem_map.1 ha
 exact(fnd_none.1 hf) q.2 hq
theorem GrB.gone_row (h:GrB w lo hi p b ow M A N E) {a:Int} (hf:fnd a M=none):row (prs E) a=[]:=by
 rw[List.eq_nil_iff_forall_not_mem]
 exact fun c hc=>h.gone hf (h.ok.pair (mem_row.1 hc)).1
theorem GrB.goneA (h:GrB w lo hi p b ow M A N E) {a c:Int} {u:Nat} (hu:(a,u) ∈ M) (hf:fnd c (A a)=none):c ∉ row (prs E) a:=fun hc=>by
 rw[←(h.inn a u hu).2.2.2] at hc
 obtain⟨q,hq,rfl⟩:=List.mem_map.1 hc
 exact(fnd_none.1 hf) q.2 hq
theorem GrB.there (h:GrB w lo hi p b ow M A N E) {a:Int} (ha:a ∈ N):∃u,fnd a M=some u:=by
 cases hf:fnd a M with
 |some u=>exact⟨u,rfl⟩
 |none=>exact absurd ha (h.gone hf)
theorem GrB.lenM (h:GrB w lo hi p b ow M A N E):M.length=N.length:=by have:=congrArg List.length h.keys;simpa using this
theorem GrB.lenA (h:GrB w lo hi p b ow M A N E) {a:Int} {u:Nat} (hu:(a,u) ∈ M):(A a).length≤E.length:=by
 have h1:=congrArg List.length (h.inn a u hu).2.2.2
 rw[List.length_map] at h1
 have h2:=length_row (prs E) a
 have h3:=length_prs E
 omega
theorem mapo_ne {q:Nat} {cs:Array Value} {t:TypeId} {fz:Nat×Nat} {P:Program} {K:TypeId} {R:RdU} {kl:Int→Lit} {ε:Type} {ed:ε→DU} {n:Nat} {L:List (Int×ε)} (hp:w.heap[p]?=some (.cells cs t fz)) (h:IsMapK P K R kl ed w q n L):p≠q:=by
 rintro rfl
 obtain⟨es,c,hb,_⟩:=h
 rw[hp] at hb
 cases hb
theorem GrB.same (h:GrB w lo hi p b ow M A N E) {a:Int} {u u':Nat} (hu:(a,u) ∈ M) (hu':(a,u') ∈ M):u'=u:=Option.some.inj (((fnd_some h.srtM).2 hu').symm.trans ((fnd_some h.srtM).2 hu))
theorem GrB.node_new (h:GrB w lo hi p b ow M A N E) (hhi:hi≤w.heap.size) {a:Int} (hf:fnd a M=none) (hw:(w.alloc (.map #[] 0)).mapTurned w' b) (ho:MapO w' b (upd a w.heap.size M)) (ha:dI a):
  GrB w' lo w'.heap.size p b (fun v=>if v=w.heap.size then a else ow v) (upd a w.heap.size M) (fun x=>if x=a then[] else A x) (insI a N) E:=by
 have hz:=turned_size hw
 rw[World.size_alloc] at hz
 have hpb:=h.hp
 have hbb:=h.hb
 have hna:=h.gone hf
 have hrow:=h.gone_row hf
 have old:∀{i:Nat},i < w.heap.size→i≠b→w'.heap[i]?=(w.alloc (.map #[] 0)).heap[i]?:=fun _ hi=>turned_other hw hi
 have hm:MapO w' w.heap.size []:=((IsMapK.made w):MapO _ _ []).obj (turned_other hw (by omega))
 refine⟨?_,by omega,by omega,ho,srt_upd h.srtM,?_,fun x u hu=>?_,fun x u c v hu hc=>?_,fun x u c c' v hu hc hc'=>?_,h.ok.node a,fun x hx=>?_,h.domE⟩
 ·rw [turned_other hw (mapo_ne h.ptr h.out)]
  exact row_old h.ptr
 ·rw [upd_keys,h.keys]
 ·rcases (mem_upd h.srtM).1 hu with e|⟨hu,hne⟩
  ·simp only[Prod.mk.injEq] at e
   obtain⟨rfl,rfl⟩:=e
   refine⟨by simp;omega,?_⟩
   simp only[if_true]
   exact⟨hm,List.Pairwise.nil,by rw[hrow];rfl⟩
  ·obtain ⟨h1,h2,h3⟩:=h.inn x u hu
   refine⟨⟨by omega,by omega,h1.2.2.1,by rw[if_neg (by omega)];exact h1.2.2.2⟩,?_⟩
   simp only[if_neg (show ¬x=a from hne)]
   exact⟨(h2.alloc _).obj (turned_other hw h1.2.2.1),h3⟩
 ·rcases (mem_upd h.srtM).1 hu with e|⟨hu,hne⟩
  ·simp only[Prod.mk.injEq] at e
   obtain⟨rfl,rfl⟩:=e
   simp at hc
  ·simp only[if_neg (show ¬x=a from hne)] at hc
   obtain⟨h1,h2⟩:=h.leaf x u c v hu hc
   exact⟨⟨by omega,by omega,h1.2.2.1,h1.2.2.2.1,by rw[if_neg (by omega)];exact h1.2.2.2.2⟩,(h2.alloc _).obj (turned_other hw h1.2.2.1)⟩
 ·rcases (mem_upd h.srtM).1 hu with e|⟨hu,hne⟩
  ·simp only[Prod.mk.injEq] at e
   obtain⟨rfl,rfl⟩:=e
   simp at hc
  ·simp only[if_neg (show ¬x=a from hne)] at hc hc'
   exact h.inj x u c c' v hu hc hc'
 ·rcases mem_insI.1 hx with rfl|hx
  ·exact ha
  ·exact h.domN x hx
theorem GrB.edge_old (h:GrB w lo hi p b ow M A N E) {a c k:Int} {u v:Nat} (hu:(a,u) ∈ M) (hv:(c,v) ∈ A a) (hw:w.mapTurned w' v) (hm:MapB w' v (units (insI k (kindsOf E a c)))) (hk:dI k):
  GrB w' lo hi p b ow M A N (insT (a,c,k) E):=by
 have h1:=(h.leaf a u c v hu hv).1
 have hc:c ∈ row (prs E) a:=by rw[←(h.inn a u hu).2.2.2];exact List.mem_map.2 ⟨_,hv,rfl⟩
 have hac:=h.ok.pair (mem_row.1 hc)
 refine⟨?_,h.hp,h.hb,h.out.obj (turned_other hw h1.2.2.1.symm),h.srtM,h.keys,fun x u' hu'=>?_,fun x u' c' v' hu' hc'=>?_,h.inj,?_,h.domN,fun e he=>?_⟩
 ·rw [turned_other hw (mapo_ne h.ptr (h.leaf a u c v hu hv).2)]
  exact h.ptr
 ·obtain ⟨h2,h3,h4,h5⟩:=h.inn x u' hu'
  refine⟨h2,h3.obj (turned_other hw ?_),h4,?_⟩
  ·rintro rfl
   have e1:x=a:=h2.2.2.2.symm.trans h1.2.2.2.2
   subst e1
   exact h1.2.2.2.1 (h.same hu hu')
  ·by_cases e:x=a
   ·subst e
    rw[row_prs_same,insI_of_mem (srt_row (srt_prs E) x) hc]
    exact h5
   ·rw [row_prs_other E a c k e]
    exact h5
 ·obtain ⟨h2,h3⟩:=h.leaf x u' c' v' hu' hc'
  refine⟨h2,?_⟩
  by_cases e:v'=v
  ·subst e
   have e1:x=a:=h2.2.2.2.2.symm.trans h1.2.2.2.2
   subst e1
   have e2:c'=c:=h.inj x u' c' c v' hu' hc' hv
   subst e2
   rw[kinds_ins_same h.ok.srtE]
   exact hm
  ·rw [kinds_ins_other h.ok.srtE]
   ·exact h3.obj (turned_other hw e)
   ·by_cases e1:x=a
    ·subst e1
     refine .inr fun e2=>e ?_
     subst e2
     exact Option.some.inj (((fnd_some (h.inn x u' hu').2.2.1).2 hc').symm.trans ((fnd_some (h.inn x u' hu').2.2.1).2 hv))
    ·exact .inl e1
 ·refine ⟨h.ok.srtN,srt_insT h.ok.srtE,fun e he=>?_⟩
  rcases mem_insT.1 he with rfl|he
  ·exact hac
  ·exact h.ok.sub e he
 ·rcases mem_insT.1 he with rfl|he
  ·exact hk
  ·exact h.domE e he
theorem GrB.edge_new (h:GrB w lo hi p b ow M A N E) (hhi:hi≤w.heap.size) {a c k:Int} {u:Nat} (hu:(a,u) ∈ M) (hcN:c ∈ N) (hf:fnd c (A a)=Option.none) {w1 w2:World} (hw1:(w.alloc (.map #[] 0)).mapTurned w1 u) (hw2:w1.mapTurned w2 w.heap.size)
  (ho:MapO w1 u (upd c w.heap.size (A a))) (hm:MapB w2 w.heap.size (units [k])) (hk:dI k):
  GrB w2 lo w2.heap.size p b (fun v=>if v=w.heap.size then a else ow v) M (fun x=>if x=a then upd c w.heap.size (A a) else A x) N (insT (a,c,k) E):=by
 have hz1:=turned_size hw1
 have hz2:=turned_size hw2
 rw[World.size_alloc] at hz1
 have hpb:=h.hp
 have hbb:=h.hb
 have haN:=h.inN hu
 have hnc:=h.goneA hu hf
 obtain⟨i1,i2,i3,i4⟩:=h.inn a u hu
 refine⟨?_,by omega,by omega,?_,h.srtM,h.keys,fun x u' hu'=>?_,fun x u' c' v' hu' hc'=>?_,fun x u' c1 c2 v' hu' hc1 hc2=>?_,?_,h.domN,fun e he=>?_⟩
 ·rw [turned_other hw2 (by omega),turned_other hw1 (mapo_ne h.ptr i2)]
  exact row_old h.ptr
 ·exact ((h.out.alloc _).obj (turned_other hw1 i1.2.2.1.symm)).obj (turned_other hw2 (by omega))
 ·obtain ⟨h2,h3,h4,h5⟩:=h.inn x u' hu'
  refine⟨⟨by omega,by omega,h2.2.2.1,by rw[if_neg (by omega)];exact h2.2.2.2⟩,?_⟩
  by_cases e:x=a
  ·subst e
   have e2:=h.same hu hu'
   subst e2
   simp only[if_true]
   refine⟨ho.obj (turned_other hw2 (by omega)),srt_upd i3,?_⟩
   rw[upd_keys,i4,row_prs_same]
  ·simp only[if_neg e]
   refine⟨((h3.alloc _).obj (turned_other hw1 ?_)).obj (turned_other hw2 (by omega)),h4,by rw[row_prs_other E a c k e];exact h5⟩
   rintro rfl
   exact e (h2.2.2.2.symm.trans i1.2.2.2)
 ·by_cases e:x=a
  ·subst e
   have e2:=h.same hu hu'
   subst e2
   simp only[if_true] at hc'
   rcases(mem_upd i3).1 hc' with e3|⟨hc',hne⟩
   ·simp only[Prod.mk.injEq] at e3
    obtain⟨rfl,rfl⟩:=e3
    refine⟨⟨by omega,by omega,by omega,by omega,by simp⟩,?_⟩
    rw[kinds_ins_same h.ok.srtE,kinds_nil hnc]
    exact hm
   ·obtain ⟨h2,h3⟩:=h.leaf x u' c' v' hu' hc'
    refine⟨⟨by omega,by omega,h2.2.2.1,h2.2.2.2.1,by rw[if_neg (by omega)];exact h2.2.2.2.2⟩,?_⟩
    rw[kinds_ins_other h.ok.srtE _ _ _ (.inr hne)]
    exact((h3.alloc _).obj (turned_other hw1 h2.2.2.2.1)).obj (turned_other hw2 (by omega))
  ·simp only[if_neg e] at hc'
   obtain⟨h2,h3⟩:=h.leaf x u' c' v' hu' hc'
   refine⟨⟨by omega,by omega,h2.2.2.1,h2.2.2.2.1,by rw[if_neg (by omega)];exact h2.2.2.2.2⟩,?_⟩
   rw[kinds_ins_other h.ok.srtE _ _ _ (.inl e)]
   refine((h3.alloc _).obj (turned_other hw1 ?_)).obj (turned_other hw2 (by omega))
   rintro rfl
   exact e (h2.2.2.2.2.symm.trans i1.2.2.2)
 ·by_cases e:x=a
  ·subst e
   have e2:=h.same hu hu'
   subst e2
   simp only[if_true] at hc1 hc2
   rcases(mem_upd i3).1 hc1 with e3|⟨hc1,hne1⟩
   ·rcases (mem_upd i3).1 hc2 with e4|⟨hc2,hne2⟩
    ·simp only[Prod.mk.injEq] at e3 e4;rw[e3.1,e4.1]
    ·have:=(h.leaf x u' c2 v' hu' hc2).1;simp only[Prod.mk.injEq] at e3;omega
   ·rcases (mem_upd i3).1 hc2 with e4|⟨hc2,hne2⟩
    ·have:=(h.leaf x u' c1 v' hu' hc1).1;simp only[Prod.mk.injEq] at e4;omega
    ·exact h.inj x u' c1 c2 v' hu' hc1 hc2
  ·simp only[if_neg e] at hc1 hc2
   exact h.inj x u' c1 c2 v' hu' hc1 hc2
 ·refine ⟨h.ok.srtN,srt_insT h.ok.srtE,fun e he=>?_⟩
  rcases mem_insT.1 he with rfl|he
  ·exact ⟨haN,hcN⟩
  ·exact h.ok.sub e he
 ·rcases mem_insT.1 he with rfl|he
  ·exact hk
  ·exact h.domE e he
end
theorem zeroG (w:World):(zeroValue 103).run Tryz.prog w=.ok (.map none) w:=by kernel_rfl
section
variable {w:World} {lo hi p b:Nat} {ow:Nat→Int} {M:List (Int×Nat)} {A:Int→List (Int×Nat)} {N:List Int} {E:List Trp}
theorem look_none2 {a:Int} (ha:dI a):(Instr.lookup 103 (.map none) (.int .i64 a) false).run Tryz.prog w=.ok (.map none) w:=
 Maps.look_nil false keyI.keyed Tryz.underlying103 (zeroM w) (keyI.of a ha)
theorem look3 {u n:Nat} {L:List (Int×Nat)} (h:IsMapK Tryz.prog 3 Rmap (.int .i64) (fun r:Nat=>.lit (.int .i64 r)) w u n L) (hd:KDom dI L) {a:Int} (ha:dI a):(Instr.lookup 104 (.map (some u)) (.int .i64 a) false).run Tryz.prog w=.ok (.map (fnd a L)) w:=by
 have:=h.look keyI elem_map hd Tryz.underlying104 (zeroG w) ha
 rw[this]
 cases fnd a L <;> rfl
theorem look2 {u n:Nat} {L:List (Int×Nat)} (h:IsMapK Tryz.prog 3 Rmap (.int .i64) (fun r:Nat=>.lit (.int .i64 r)) w u n L) (hd:KDom dI L) {a:Int} (ha:dI a):(Instr.lookup 103 (.map (some u)) (.int .i64 a) false).run Tryz.prog w=.ok (.map (fnd a L)) w:=by
 have:=h.look keyI elem_map hd Tryz.underlying103 (zeroM w) ha
 rw[this]
 cases fnd a L <;> rfl
theorem GrB.look (h:GrB w lo hi p b ow M A N E) {a:Int} (ha:dI a) {r:Option Nat} (hf:fnd a M=r):(Instr.lookup 104 (.map (some b)) (.int .i64 a) false).run Tryz.prog w=.ok (.map r) w:=by
 rw[←hf];exact look3 h.out h.domM ha
theorem GrB.lookA (h:GrB w lo hi p b ow M A N E) {a c:Int} {u:Nat} (hu:(a,u) ∈ M) (hc:dI c) {r:Option Nat} (hf:fnd c (A a)=r):(Instr.lookup 103 (.map (some u)) (.int .i64 c) false).run Tryz.prog w=.ok (.map r) w:=by
 rw[←hf];exact look2 (h.inn a u hu).2.1 (h.domA hu) hc
theorem GrB.lookK (h:GrB w lo hi p b ow M A N E) {a c k:Int} {u v:Nat} (hu:(a,u) ∈ M) (hv:(c,v) ∈ A a) (hk:dI k):(Instr.lookup 102 (.map (some v)) (.int .i64 k) false).run Tryz.prog w=.ok (.bool (decide ((a,c,k) ∈ E))) w:=by
 have:=look_bool (h.leaf a u c v hu hv).2 (h.domK a c) hk
 rw[this]
 simp only[mem_kindsOf]
end
