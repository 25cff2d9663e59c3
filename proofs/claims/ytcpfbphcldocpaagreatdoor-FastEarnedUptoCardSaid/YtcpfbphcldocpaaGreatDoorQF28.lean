/- Parts of the proof, merged by program out of 1 texts (FtJ): the first: The answer of the fast way. Conditions: those of each theorem, as typed. -/
import Derived.Test.YtcpfbphcldocpaaGreatDoorQF20
import Derived.Test.YtcpfbphcldocpaaGreatDoorQF25
import Derived.Test.YtcpfbphcldocpaaGreatDoorQF27
import Derived.Test.YtcpfbphcldocpaaGreatDoorQF21
set_option linter.unusedVariables false
set_option linter.unusedSimpArgs false
set_option linter.unusedSectionVars false
set_option maxRecDepth 100000
set_option maxHeartbeats 4000000
namespace Go.Proofs.YtcpfbphcldocpaaGreatDoor
open Go.Maps Go.RowKit
section
attribute [local irreducible] wpL
theorem find_range {α:Type} {f:Nat→Option α} {n k:Nat} {b:α} (hk:k < n) (h1:f k=some b) (h2:(List.range k).findSome? f=none):(List.range n).findSome? f=some b:=by
 obtain⟨d,rfl⟩:∃d,n=k+(d+1):=⟨n - k - 1,by omega⟩
 rw[List.range_add,List.findSome?_append,h2,List.range_succ_eq_map]
 simp[h1]
theorem find_snoc {α:Type} {f:Nat→Option α} {k:Nat} (h1:f k=none) (h2:(List.range k).findSome? f=none):(List.range (k+1)).findSome? f=none:=by
 rw[List.range_succ,List.findSome?_append,h2]
 simp[h1]
theorem any_snoc {f:Nat→Bool} {k:Nat}:(List.range (k+1)).any f=((List.range k).any f||f k):=by
 rw[List.range_succ,List.any_append]
 simp
theorem topoGo_len {P:List Pr} {N:List Int}:∀{m:Nat} {out l:List Int},topoGo P N m out=some l→l.length=out.length+m
 |0,out,l,h=>by simp only[topoGo,Option.some.injEq] at h;subst h;rfl
 |m+1,out,l,h=>by
  unfold topoGo at h
  cases e:nextF P N out with
  |none=>rw[e] at h;cases h
  |some x=>rw[e] at h;have:=topoGo_len h;simp at this;omega
theorem topoF_len {P:List Pr} {N l:List Int} (h:topoF P N=some l):l.length=N.length:=by have:=topoGo_len h;simpa using this
def comMap (A:Au) (T:List Bool):Nat→Int→Option Value
 |0=>fun _=>none
 |k+1=>match A[k]? with
  |some s=>rup (comMap A T k) s.id (some (.bool (T.getD k false)))
  |none=>comMap A T k
theorem comMap_get {A:Au} {T:List Bool} (hnd:(A.map (·.id)).Nodup) (x:Int):∀{k:Nat},k≤A.length→(comMap A T k x).getD (.bool false)=.bool ((List.range k).any fun i=>match A[i]? with
  |some s=>decide (s.id=x)&&T.getD i false
  |none=>false)
 |0,_=>rfl
 |k+1,hk=>by
  have hg:A[k]?=some A[k]:=List.getElem?_eq_getElem (by omega)
  have ih:=comMap_get (T:=T) hnd x (k:=k) (by omega)
  rw[any_snoc]
  unfold comMap
  rw[hg]
  simp only
  by_cases e:x=A[k].id
  ·subst e
   rw[rup_same]
   have h0:((List.range k).any fun i=>match A[i]? with
     |some s=>decide (s.id=A[k].id)&&T.getD i false
     |none=>false)=false:=by
    rw[List.any_eq_false]
    intro i hi
    have hi:=List.mem_range.1 hi
    rw[List.getElem?_eq_getElem (show i < A.length by omega)]
    simp only
    have hne:A[i].id≠A[k].id:=fun e=>by
     have h1:(A.map (·.id))[i]'(by simp;omega)=(A.map (·.id))[k]'(by simp;omega):=by simpa using e
     have h2:(A.map (·.id))[i]?=(A.map (·.id))[k]?:=by
      rw[List.getElem?_eq_getElem (by simp;omega),List.getElem?_eq_getElem (by simp;omega),h1]
     have:=(List.getElem?_inj (by simp;omega) hnd (j:=k)).1 h2
     omega
    simp[hne]
   rw[h0]
   simp
  ·rw [rup_ne e,ih]
   have:decide (A[k].id=x)=false:=by simpa using fun h=>e h.symm
   rw[this]
   simp
def restK (lev:Int) (A:Au) (T:List Bool) (k:Nat):List (Int×Bool):=(List.range k).filterMap (fun i=>match A[i]? with
 |some s=>if cntd lev s&&!lookF lev T i then some (s.id,false) else none
 |none=>none)
theorem restK_snoc {lev:Int} {A:Au} {T:List Bool} {k:Nat} {s:St} (h:A[k]?=some s):restK lev A T (k+1)=restK lev A T k++(if cntd lev s&&!lookF lev T k then[(s.id,false)] else[]):=by
 unfold restK
 rw[List.range_succ,List.filterMap_append]
 congr 1
 rw[List.filterMap_cons,h]
 simp only
 cases (cntd lev s&&!lookF lev T k) <;> rfl
theorem restK_len {lev:Int} {A:Au} {T:List Bool} {k:Nat}:(restK lev A T k).length≤k:=by
 unfold restK
 refine Nat.le_trans (List.length_filterMap_le _ _) (by simp)
def ansV (a:FAn) (vs vc:Value):Value:=.agg #[.int .i64 a.kind,vs,.slice none 0 0,.int .i64 a.pre,.int .i64 a.tx,.int .i64 a.deed,vc]
def AnsAt (w:World) (B:Nat) (vs vc:Value) (a:FAn):Prop:=OwnF stpC 87 2 w B vs a.steps∧OwnI w B vc a.cyc
section
variable {w:World} {lo hi pW bB:Nat} {lev:Int} {ov vv lv:Value} {ms:List Mvr} {A:Au} {T:List Bool} {os:List Ob}
theorem f_judge (h:FwAt w lo hi pW bB lev ov vv ms lv A (takenF lev A)) (ho:Sl w w.heap.size 2 ov os.length (os.flatMap Ob.cells)) (hvv:∃x y z,vv=.slice x y z) (hD:DvOk os A) (hd:MvDom A) (hal:A.length≤200) (hnd:(A.map (·.id)).Nodup) (hlv:lev=1∨lev=2∨lev=3) (hhi:hi≤w.heap.size):
  Calls Tryz.prog 32 #[.pointer (some ⟨pW,0,none⟩)] w fun e w'=>∃a vs vc,e=.returned (ansV a vs vc)∧JudgeIs lev (os.map (·.init)) A a∧AnsAt w' w.heap.size vs vc a∧Below w.heap.size w w':=by
 obtain⟨ao,co,hov,mo⟩:=ho.ex
 have HOV:=hid (show ∃x y z,ov=.slice x y z from⟨_,_,_,hov⟩)
 have HVV:=hid hvv
 obtain⟨al,cl,hlv0⟩:=OwnF.sli h.lst
 subst hlv0
 obtain⟨T,hT⟩:∃T,takenF lev A=T:=⟨_,rfl⟩
 rw[hT] at h
 have HT:=hid hT
 have HH:=hid h
 have HO:=hid ho
 have HD:=hid hD
 have HMD:=hid hd
 have HND:=hid hnd
 have HLV:=hid hlv
 have hml:ms.length=A.length:=h.len
 have hml2:ms.length≤200:=by omega
 have HML:=hid hml
 have hmm:=@run_makeMap Tryz.prog
 have b0:Below w.heap.size w (w.alloc (.cells #[.int .i64 0,.slice none 0 0,.slice none 0 0,.int .i64 0,.int .i64 0,.int .i64 0,.slice none 0 0] 32)):=(Below.refl _ w).alloc (Nat.le_refl _) _
 have B0:=hid b0
 have R0:=hid (row_new w (.cells #[.int .i64 0,.slice none 0 0,.slice none 0 0,.int .i64 0,.int .i64 0,.int .i64 0,.slice none 0 0] 32))
 have F0:=hid (h.below b0 hhi (Nat.le_refl _))
 have hz0:w.heap.size < (w.alloc (.cells #[.int .i64 0,.slice none 0 0,.slice none 0 0,.int .i64 0,.int .i64 0,.int .i64 0,.slice none 0 0] 32)).heap.size:=by simp
 have yq:=row_cell h.row 3
 simp at yq
 have yql:=row_lt h.row
 clear h ho hvv hD hd hnd hlv hov mo hml hT b0
 go_enter Tryz.func32,Tryz.ntmps32
 go_wp2_with fail
 generalize w.alloc (.cells #[.int .i64 0,.slice none 0 0,.slice none 0 0,.int .i64 0,.int .i64 0,.int .i64 0,.slice none 0 0] 32)=W at *
 go_loopw [23] (fun q wr=>∃(k:Nat),k≤ms.length∧q=.int .i64 k∧(List.range k).findSome? (bad1 lev (os.map (·.init)) A T)=none∧FwAt wr lo hi pW bB lev ov vv ms (.slice al ms.length cl) A T∧wr.heap[w.heap.size]?=some (.cells #[.int .i64 0,.slice none 0 0,.slice none 0 0,.int .i64 0,.int .i64 0,.int .i64 0,.slice none 0 0] 32 (0,0))∧Below w.heap.size w wr) (fun q _=>ms.length - (intOf q).toNat)
 case atStart=>exact⟨0,by omega,by go_num,rfl,F0.out,R0.out,B0.out⟩
 case round=>
  obtain⟨k,hk,rfl,hno,hF,hR,hB⟩:=hrel
  have HNO:=hid hno
  have HF:=hid hF
  have HR:=hid hR
  have HB:=hid hB
  have hwz:=hB.size
  clear hno hF hR hB F0 R0 B0 hz0 yq yql W
  by_cases hlt:k < ms.length
  ·obtain ⟨bl,ol,m,hqe,hbl,hmk,hcl⟩:=(OwnF.sl HF.out.lst).atF Mvr.len rfl hlt
   subst hqe
   have c0:wr.cell? ⟨bl,ol+k,none⟩=some (.pointer (some ⟨m.p,0,none⟩)):=by have:=hcl 0 (by decide);simpa[Mvr.cells,ptrV] using this
   obtain⟨m0,s,g1,hsk,hMv⟩:=HF.out.get (k:=k) (by have:=HML.out;omega)
   rw[hmk] at g1
   obtain rfl:=Option.some.inj g1
   have HMK:=hid hmk
   have HSK:=hid hsk
   have ym:=row_cell hMv.row
   have ym9:=ym 9
   simp at ym9
   have yml:=row_lt hMv.row
   obtain⟨lk,hlk⟩:∃lk,lookF lev T k=lk:=⟨_,rfl⟩
   rw[hlk] at ym9
   have HLK:=hid hlk
   clear hmk hsk hMv ym hcl hlk
   cases lk with
   |false=>
    go_wp2_with fail
    go_roundw
    case rel=>exact⟨k+1,by omega,by go_num,find_snoc (by unfold bad1;rw[HSK.out];simp only[HLK.out,Bool.false_eq_true,if_false]) HNO.out,HF.out,HR.out,HB.out⟩
    case measure=>simp[intOf];omega
   |true=>
    have EC:=hid (f_expl HF.out ((HO.out.below HB.out).more hwz) HVV.out HD.out HMK.out HSK.out (by omega))
    go_wp2_with fail
    refine(EC.out).mono ?_
    rintro e W4 ⟨he,b4⟩
    have HBD:=hid (show bad1 lev (os.map (·.init)) A T k=(explF (os.map (·.init)) A T k (rdM s) 0 [] s.deeds).map fun x=>(s.id,x) by unfold bad1;rw[HSK.out];simp only[HLK.out,if_true])
    obtain⟨R,hRe⟩:∃R,explF (os.map (·.init)) A T k (rdM s) 0 [] s.deeds=R:=⟨_,rfl⟩
    rw[hRe] at he HBD
    have F4:=hid (HF.out.below b4 (by omega) (Nat.le_refl _))
    have R4:=hid (row_below HR.out b4 (row_lt HR.out))
    have B4:=hid (HB.out.trans (b4.mono hwz))
    clear b4 EC HF HR HB hRe
    cases R with
    |none=>
     unfold explRet at he
     subst he
     go_wp2_with fail
     go_roundw
     case rel=>exact⟨k+1,by omega,by go_num,find_snoc (by rw[HBD.out];rfl) HNO.out,F4.out,R4.out,B4.out⟩
     case measure=>simp[intOf];omega
    |some x=>
     unfold explRet at he
     simp only at he
     subst he
     have HBF:=hid (show badF lev (os.map (·.init)) A T=some (s.id,x) by unfold badF;exact find_range (by have:=HML.out;omega) (by rw[HBD.out];rfl) HNO.out)
     have rm:=(F4.out.mv k m s HMK.out HSK.out).row
     have ym0:=row_cell rm 0
     simp at ym0
     have yml4:=row_lt rm
     have yr:=row_cell R4.out
     have yr0:=yr 0
     have yr1:=yr 1
     have yr2:=yr 2
     have yr3:=yr 3
     have yr4:=yr 4
     have yr5:=yr 5
     have yr6:=yr 6
     simp at yr0 yr1 yr2 yr3 yr4 yr5 yr6
     have yrf:=fun o=>row_free R4.out o
     have yrl:=row_lt R4.out
     clear rm yr ym9 yml c0
     go_wp2_with fail
     have RF:=row_set (row_set (row_set (row_set (row_set (row_set (row_set R4.out 0 (.int .i64 2)) 1 (.slice none 0 0)) 2 (.slice none 0 0)) 3 (.int .i64 0)) 4 (.int .i64 s.id)) 5 (.int .i64 x)) 6 (.slice none 0 0)
     have hB9:=hid (((((((B4.out.setCell (p:=⟨w.heap.size,0,none⟩) (Nat.le_refl _) (.int .i64 2)).setCell (p:=⟨w.heap.size,1,none⟩) (Nat.le_refl _) (.slice none 0 0)).setCell (p:=⟨w.heap.size,2,none⟩) (Nat.le_refl _) (.slice none 0 0)).setCell (p:=⟨w.heap.size,3,none⟩) (Nat.le_refl _) (.int .i64 0)).setCell (p:=⟨w.heap.size,4,none⟩) (Nat.le_refl _) (.int .i64 s.id)).setCell (p:=⟨w.heap.size,5,none⟩) (Nat.le_refl _) (.int .i64 x)).setCell (p:=⟨w.heap.size,6,none⟩) (Nat.le_refl _) (.slice none 0 0))
     have c0:=row_cell RF 0
     have c1:=row_cell RF 1
     have c2:=row_cell RF 2
     have c3:=row_cell RF 3
     have c4:=row_cell RF 4
     have c5:=row_cell RF 5
     have c6:=row_cell RF 6
     simp only[Array.set!,Array.setIfInBounds,List.getElem?_toArray,List.getElem?_cons_zero,List.getElem?_cons_succ] at c0 c1 c2 c3 c4 c5 c6
     simp at c0 c1 c2 c3 c4 c5 c6
     refine bodyPost_ret (v:=ansV ⟨2,[],0,s.id,x,[]⟩ (.slice none 0 0) (.slice none 0 0)) (by simp[results,Tryz.results32,go_sem,ansV,c0,c1,c2,c3,c4,c5,c6]) rfl ?_
     refine⟨⟨2,[],0,s.id,x,[]⟩,_,_,rfl,?_,⟨OwnF.nil _ _,OwnF.nil _ _⟩,hB9.out⟩
     unfold JudgeIs
     rw[HT.out,HBF.out]
  ·obtain rfl:k=ms.length:=by omega
   have hq:decide ((ms.length:Int) < (ms.length:Int))=false:=by simp
   have HBF:=hid (show badF lev (os.map (·.init)) A T=none by unfold badF;rw[←HML.out];exact HNO.out)
   have GC:=hid (f_graph HF.out HOV.out HVV.out HMD.out HD.out.id hal (by omega))
   go_wp2_with fail
   refine(GC.out).mono ?_
   rintro e W4 ⟨pg,rfl,hg4,b4⟩
   have F4:=hid (HF.out.below b4 (by omega) (Nat.le_refl _))
   have R4:=hid (row_below HR.out b4 (row_lt HR.out))
   have B4:=hid (HB.out.trans (b4.mono hwz))
   have hNl:(graphF lev A T).1.length≤900000∧(graphF lev A T).2.length≤900000:=graph_size hal
   have G4:=hid hg4
   have TC:=hid (gr_topo hg4 (Nat.le_refl _) hNl.1 hNl.2)
   have hz4:=b4.size
   clear b4 hg4 GC HF HR HB
   go_wp2_with fail
   refine(TC.out).mono ?_
   rintro e W5 ⟨vo,o,rfl,ho5,hot,b5⟩
   cases o with
   |none=>
    simp only[Option.isSome_none]
    have CC:=hid (gr_cycle (w:=W5) (G4.out.below b5 (Nat.le_refl _)) b5.size hNl.1 hNl.2)
    have R5:=hid (row_below R4.out b5 (row_lt R4.out))
    have B5:=hid (B4.out.trans (b5.mono (by omega)))
    have HOT:=hid hot
    have hz5:=b5.size
    clear ho5 hot b5 TC G4 F4 R4 B4
    go_wp2_with fail
    refine(CC.out).mono ?_
    rintro e W6 ⟨v,c,rfl,hv,hcy,b6⟩
    have R6:=hid (row_below R5.out b6 (row_lt R5.out))
    have yr:=row_cell R6.out
    have yr0:=yr 0
    have yr1:=yr 1
    have yr2:=yr 2
    have yr3:=yr 3
    have yr4:=yr 4
    have yr5:=yr 5
    have yr6:=yr 6
    simp at yr0 yr1 yr2 yr3 yr4 yr5 yr6
    have yrf:=fun o=>row_free R6.out o
    have yrl:=row_lt R6.out
    have HV6:=hid hv
    have HCY:=hid hcy
    have B6:=hid (B5.out.trans (b6.mono (by omega)))
    obtain⟨av,cv,hvq⟩:=OwnF.sli hv
    subst hvq
    clear yr hv hcy b6
    go_wp2_with fail
    have RF:=row_set (row_set (row_set (row_set (row_set (row_set (row_set R6.out 0 (.int .i64 3)) 1 (.slice none 0 0)) 2 (.slice none 0 0)) 3 (.int .i64 0)) 4 (.int .i64 0)) 5 (.int .i64 0)) 6 (.slice av c.length cv)
    have hB9:=hid (((((((B6.out.setCell (p:=⟨w.heap.size,0,none⟩) (Nat.le_refl _) (.int .i64 3)).setCell (p:=⟨w.heap.size,1,none⟩) (Nat.le_refl _) (.slice none 0 0)).setCell (p:=⟨w.heap.size,2,none⟩) (Nat.le_refl _) (.slice none 0 0)).setCell (p:=⟨w.heap.size,3,none⟩) (Nat.le_refl _) (.int .i64 0)).setCell (p:=⟨w.heap.size,4,none⟩) (Nat.le_refl _) (.int .i64 0)).setCell (p:=⟨w.heap.size,5,none⟩) (Nat.le_refl _) (.int .i64 0)).setCell (p:=⟨w.heap.size,6,none⟩) (Nat.le_refl _) (.slice av c.length cv))
    have c0:=row_cell RF 0
    have c1:=row_cell RF 1
    have c2:=row_cell RF 2
    have c3:=row_cell RF 3
    have c4:=row_cell RF 4
    have c5:=row_cell RF 5
    have c6:=row_cell RF 6
    simp at c0 c1 c2 c3 c4 c5 c6
    have HV9:=hid (show OwnF intC 3 1 ((((((((W6.setCell ⟨w.heap.size,0,none⟩ (.int .i64 3)).setCell ⟨w.heap.size,1,none⟩ (.slice none 0 0)).setCell ⟨w.heap.size,2,none⟩ (.slice none 0 0)).setCell ⟨w.heap.size,3,none⟩ (.int .i64 0)).setCell ⟨w.heap.size,4,none⟩ (.int .i64 0)).setCell ⟨w.heap.size,5,none⟩ (.int .i64 0)).setCell ⟨w.heap.size,6,none⟩ (.slice av c.length cv))) w.heap.size (.slice av c.length cv) c from by
     have hne:=OwnF.neT HV6.out R6.out (by decide)
     exact OwnF.base (OwnF.other (OwnF.other (OwnF.other (OwnF.other (OwnF.other (OwnF.other (OwnF.other HV6.out hne _) hne _) hne _) hne _) hne _) hne _) hne _) (by omega))
    refine bodyPost_ret (v:=ansV ⟨3,[],0,0,0,c⟩ (.slice none 0 0) (.slice av c.length cv)) (by simp[results,Tryz.results32,go_sem,ansV,c0,c1,c2,c3,c4,c5,c6]) rfl ?_
    refine⟨⟨3,[],0,0,0,c⟩,_,_,rfl,?_,⟨OwnF.nil _ _,HV9.out⟩,hB9.out⟩
    unfold JudgeIs
    rw[HT.out,HBF.out,←HOT.out]
    exact⟨c,HCY.out,rfl⟩
   |some ord=>
    simp only[Option.isSome_some]
    obtain⟨ao,co,hvq⟩:=OwnF.sli ho5
    subst hvq
    simp only[Option.getD_some] at ho5 ⊢
    have HOT:=hid hot
    have HOO:=hid ho5
    have HOL:=hid (topoF_len hot.symm)
    have F5:=hid (F4.out.below b5 (by omega) (Nat.le_refl _))
    have R5:=hid (row_below R4.out b5 (row_lt R4.out))
    have B5:=hid (B4.out.trans (b5.mono (by omega)))
    have hz5:=b5.size
    have HNL:=hid hNl.1
    have hol9:ord.length≤900000:=by have:=HOL.out;have:=HNL.out;omega
    clear ho5 hot b5 TC G4 F4 R4 B4 hNl
    have b7:=((Below.refl _ W5).alloc (Nat.le_refl _) (.cells #[.int .i64 1,.slice none 0 0,.slice none 0 0,.int .i64 0,.int .i64 0,.int .i64 0,.slice none 0 0] 32)).alloc (by simp) (.map #[] 0)
    have B7:=hid b7
    have F7:=hid (F5.out.below b7 (by omega) (Nat.le_refl _))
    have RT7:=hid (row_old (row_new W5 (.cells #[.int .i64 1,.slice none 0 0,.slice none 0 0,.int .i64 0,.int .i64 0,.int .i64 0,.slice none 0 0] 32)) (o:=.map #[] 0))
    have hz7:((W5.alloc (.cells #[.int .i64 1,.slice none 0 0,.slice none 0 0,.int .i64 0,.int .i64 0,.int .i64 0,.slice none 0 0] 32)).alloc (.map #[] 0)).heap.size=W5.heap.size+1+1:=by simp
    have M7:=hid (show RawM ((W5.alloc (.cells #[.int .i64 1,.slice none 0 0,.slice none 0 0,.int .i64 0,.int .i64 0,.int .i64 0,.slice none 0 0] 32)).alloc (.map #[] 0)) (W5.heap.size+1) (comMap A T 0) from RawM.fun (RawM.made (by have:=heap_alloc_new (W5.alloc (.cells #[.int .i64 1,.slice none 0 0,.slice none 0 0,.int .i64 0,.int .i64 0,.int .i64 0,.slice none 0 0] 32)) (.map #[] 0);simpa using this)) fun _=>rfl)
    have yq:=row_cell F7.out.row 3
    simp at yq
    have yql:=row_lt F7.out.row
    clear b7
    go_wp2_with fail
    have HZ7:=hid hz7
    generalize (W5.alloc (.cells #[.int .i64 1,.slice none 0 0,.slice none 0 0,.int .i64 0,.int .i64 0,.int .i64 0,.slice none 0 0] 32)).alloc (.map #[] 0)=W7 at *
    clear hz7
    go_loopw [67] (fun q wq=>∃(k:Nat),k≤ms.length∧q=.int .i64 k∧RawM wq (W5.heap.size+1) (comMap A T k)∧wq.heap[W5.heap.size]?=some (.cells #[.int .i64 1,.slice none 0 0,.slice none 0 0,.int .i64 0,.int .i64 0,.int .i64 0,.slice none 0 0] 32 (0,0))∧Below W5.heap.size W5 wq) (fun q _=>ms.length - (intOf q).toNat)
    case atStart=>exact⟨0,by omega,by go_num,M7.out,RT7.out,B7.out⟩
    case round=>
     obtain⟨k,hk,rfl,hM,hT,hB⟩:=hrel
     have HM:=hid hM
     have HTR:=hid hT
     have HB:=hid hB
     have HF:=hid (F5.out.below hB (by omega) (Nat.le_refl _))
     clear hM hT hB M7 RT7 B7 F7 HZ7 yq yql W7
     by_cases hlt:k < ms.length
     ·obtain ⟨bl,ol,m,hqe,hbl,hmk,hcl⟩:=(OwnF.sl HF.out.lst).atF Mvr.len rfl hlt
      subst hqe
      have c0:wr.cell? ⟨bl,ol+k,none⟩=some (.pointer (some ⟨m.p,0,none⟩)):=by have:=hcl 0 (by decide);simpa[Mvr.cells,ptrV] using this
      obtain⟨m0,s,g1,hsk,hMv⟩:=HF.out.get (k:=k) (by have:=HML.out;omega)
      rw[hmk] at g1
      obtain rfl:=Option.some.inj g1
      have HSK:=hid hsk
      have hr:=hMv.row
      obtain⟨tk,htk⟩:∃tk,T.getD k false=tk:=⟨_,rfl⟩
      have HTK:=hid htk
      rw[htk] at hr
      have ym:=row_cell hr
      have ym0:=ym 0
      have ym10:=ym 10
      simp at ym0 ym10
      have yml:=row_lt hr
      clear hmk hsk hMv ym hcl hr htk
      go_wp2_with fail
      refine wp_rN (wr.heap.size) [0,0,0,0,0,1,0,0,0,1,2] (.fin [0,1,2,3,4,5,6,7,8,9,10]) (by kernel_rfl) ?_
      simp only[wpT,selX,guardAt,sD,sE,sF,sG]
      repeat first|(refine wpL_p fun K hK=>?_;go_simp;refine hK _ _ ?_;clear hK K)|(apply wpL_s;(intro w2 hw2;have hk1:=hw2.cell;have hk3:=hw2.1;clear hw2;go_simp;with_reducible rfl);simp only[Act.put,sA,sB,sC])
      refine wpL_e (fun K hK=>?_)
      refine(RawM.drew HM.out).wp_store Tryz.underlying3 Tryz.underlying102 (a:=s.id) (v:=.bool tk) (.inl rfl) (by rfl) (by rfl) (by rfl) ?_
      intro w6 h6 t6
      refine hK _ _ ?_
      clear hK K
      have M6:=hid (show RawM w6 (W5.heap.size+1) (comMap A T (k+1)) by unfold comMap;rw[HSK.out];simp only;rw[HTK.out];exact h6)
      have B6:=hid ((HB.out.drew).trans (Below.turned t6 (Nat.le_succ _)))
      have T6:=hid (show w6.heap[W5.heap.size]?=some (.cells #[.int .i64 1,.slice none 0 0,.slice none 0 0,.int .i64 0,.int .i64 0,.int .i64 0,.slice none 0 0] 32 (0,0)) from(turned_other t6 (by omega)).trans HTR.out)
      clear h6 t6
      repeat refine wpL_nil ?_
      go_wp2_with fail
      go_roundw
      case rel=>exact⟨k+1,by omega,by go_num,M6.out,T6.out,B6.out⟩
      case measure=>simp[intOf];omega
     ·obtain rfl:k=ms.length:=by omega
      have hq:decide ((ms.length:Int) < (ms.length:Int))=false:=by simp
      go_wp2_with fail
      have MC:=hid (show RawM wr (W5.heap.size+1) (comMap A T A.length) by rw[←HML.out];exact HM.out)
      have RT0:=hid HTR.out
      have B0':=hid HB.out
      go_loopw [84] (fun q wq=>∃(k:Nat) (vs:Value),k≤ord.length∧q=.int .i64 k∧RawM wq (W5.heap.size+1) (comMap A T A.length)∧wq.heap[W5.heap.size]?=some (.cells #[.int .i64 1,vs,.slice none 0 0,.int .i64 0,.int .i64 0,.int .i64 0,.slice none 0 0] 32 (0,0))∧OwnF stpC 87 2 wq W5.heap.size vs ((ord.take k).map fun x=>(x,comF A T x))∧Below W5.heap.size W5 wq) (fun q _=>ord.length - (intOf q).toNat)
      case atStart=>exact⟨0,_,by omega,by go_num,MC.out,RT0.out,OwnF.nil _ _,B0'.out⟩
      case round=>
       clear HM HTR HB HF MC RT0 B0' hq
       obtain⟨k,vs,hk,rfl,hM,hT,hS,hB⟩:=hrel
       have HM:=hid hM
       have HTR:=hid hT
       have HB:=hid hB
       have HS:=hid hS
       obtain⟨aS,cS,hvq⟩:=OwnF.sli hS
       subst hvq
       obtain⟨L,hL⟩:∃L,(ord.take k).map (fun x=>(x,comF A T x))=L:=⟨_,rfl⟩
       rw[hL] at HS hS HTR hT
       have HLL:=hid hL
       have HLE:=hid (show L.length=k by rw[←hL];simp;omega)
       have hwz:=hB.size
       have yr:=row_cell hT
       have yr1:=yr 1
       simp at yr1
       have yrl:=row_lt hT
       have yrf:=fun o=>row_free hT o
       clear hM hT hB hS hL yr
       by_cases hlt:k < ord.length
       ·obtain ⟨bo,oo,x,hqe,hbo,hxk,hcl⟩:=(OwnF.sl HOO.out).atF intC_len rfl hlt
        subst hqe
        have c0:wr.cell? ⟨bo,oo+k,none⟩=some (.int .i64 x):=by have:=cell_below HB.out hbo (hcl 0 (by decide));simpa[intC] using this
        have hbw:bo < wr.heap.size:=by omega
        obtain⟨cx,hcx⟩:∃cx,comF A T x=cx:=⟨_,rfl⟩
        have HCX:=hid hcx
        have HXK:=hid hxk
        have hlk:Sem.run Tryz.prog (Instr.lookup 102 (.map (some (W5.heap.size+1))) (.int .i64 x) false) wr=.ok (.bool cx) wr:=by
         have:=(HM.out.look Tryz.underlying3 Tryz.underlying102 (zeroBl _) x rfl).1
         rw[comMap_get HND.out x (Nat.le_refl _)] at this
         rw[←hcx]
         exact this
        have hkb:L.length≤900000:=by have:=HNL.out;have:=HOL.out;have:=HLE.out;omega
        clear hcl hcx hxk
        go_wp2_with (at_builtin;refine wpList_appF rfl _ _ _ rfl _ 16 Tryz.underlying28 infoStep rfl HS.out (x,cx) (by first|omega|(simp <;> omega)) (by rfl) (by rfl) (by first|rfl|simp) rfl (step_one _) (by first|omega|(simp only[List.length_append,List.length_cons,List.length_nil,List.length_replicate];omega)) (by first|omega|(simp only[List.length_append,List.length_cons,List.length_nil,List.length_replicate];omega)) ?_;refine Stop.halt ?_)
        refine Stop.go ?_
        intro g8 c8 w8 o8 G8
        have hne:=OwnF.neT HS.out HTR.out (by decide)
        have rt8:=row_grw HTR.out G8 hne
        have hne8:=OwnF.neT o8 rt8 (by decide)
        have T9:=hid (row_set rt8 1 (.slice (some ⟨g8,0,none⟩) (L.length+1) c8))
        have O9:=hid (OwnF.other (j:=1) o8 hne8 (.slice (some ⟨g8,0,none⟩) (L.length+1) c8))
        have M9:=hid (RawM.set (j:=1) (HM.out.obj (G8.grown.block (W5.heap.size+1) HM.out.lt fun e=>OwnF.neM HS.out HM.out.isMap e.symm)) (g:=W5.heap.size) (by omega) (v:=.slice (some ⟨g8,0,none⟩) (L.length+1) c8))
        have B9:=hid ((HB.out.trans (G8.below hwz fun j hj=>(OwnF.lt HS.out j hj).1)).setCell (p:=⟨W5.heap.size,1,none⟩) (Nat.le_refl _) (.slice (some ⟨g8,0,none⟩) (L.length+1) c8))
        have y8l:=row_lt rt8
        have y8:=row_cell rt8 1
        simp at y8
        have y8f:=row_free rt8 1
        clear rt8 o8 G8 hne hne8 yr1 yrl yrf c0 hlk
        go_wp2_with fail
        go_roundw
        case rel=>
         refine⟨k+1,_,by omega,by go_num,M9.out,by simpa using T9.out,?_,B9.out⟩
         rw[List.take_add_one,HXK.out,List.map_append,HLL.out,Option.toList_some,List.map_cons,List.map_nil,HCX.out]
         exact O9.out
        case measure=>
         simp[intOf];omega
       ·obtain rfl:k=ord.length:=by omega
        have hq:decide ((ord.length:Int) < (ord.length:Int))=false:=by simp
        have HLL:=hid (show ord.map (fun x=>(x,comF A T x))=L by have:=HLL.out;rwa [List.take_length] at this)
        have HF:=hid (F5.out.below HB.out (by omega) (Nat.le_refl _))
        have yq:=row_cell HF.out.row 3
        simp at yq
        have yql:=row_lt HF.out.row
        go_wp2_with fail
        have S0:=hid HS.out
        have RT0:=hid HTR.out
        have B0':=hid HB.out
        go_loopw [104] (fun q wq=>∃(k:Nat) (vs:Value),k≤ms.length∧q=.int .i64 k∧wq.heap[W5.heap.size]?=some (.cells #[.int .i64 1,vs,.slice none 0 0,.int .i64 0,.int .i64 0,.int .i64 0,.slice none 0 0] 32 (0,0))∧OwnF stpC 87 2 wq W5.heap.size vs (L++restK lev A T k)∧Below W5.heap.size W5 wq) (fun q _=>ms.length - (intOf q).toNat)
        case atStart=>exact⟨0,_,by omega,by go_num,RT0.out,by simpa[restK] using S0.out,B0'.out⟩
        case round=>
         clear HM HTR HB HF S0 RT0 B0' hq yq yql yr1 yrl yrf HS
         obtain⟨k,vs,hk,rfl,hT,hS,hB⟩:=hrel
         have HTR:=hid hT
         have HB:=hid hB
         have HF:=hid (F5.out.below hB (by omega) (Nat.le_refl _))
         have HS:=hid hS
         obtain⟨aS,cS,hvq⟩:=OwnF.sli hS
         subst hvq
         obtain⟨KL,hL⟩:∃KL,L++restK lev A T k=KL:=⟨_,rfl⟩
         rw[hL] at HS hS HTR hT
         have HKK:=hid hL
         have hkl:KL.length≤901000:=by
          rw[←hL,List.length_append]
          have h1:=restK_len (lev:=lev) (A:=A) (T:=T) (k:=k)
          have h2:=HNL.out
          have h3:=HOL.out
          have h4:=HLE.out
          omega
         have hwz:=hB.size
         have yr:=row_cell hT
         have yr1:=yr 1
         simp at yr1
         have yrl:=row_lt hT
         have yrf:=fun o=>row_free hT o
         by_cases hlt:k < ms.length
         ·obtain ⟨bl,ol,m,hqe,hbl,hmk,hcl⟩:=(OwnF.sl HF.out.lst).atF Mvr.len rfl hlt
          subst hqe
          have c0:wr.cell? ⟨bl,ol+k,none⟩=some (.pointer (some ⟨m.p,0,none⟩)):=by have:=hcl 0 (by decide);simpa[Mvr.cells,ptrV] using this
          obtain⟨m0,s,g1,hsk,hMv⟩:=HF.out.get (k:=k) (by have:=HML.out;omega)
          rw[hmk] at g1
          obtain rfl:=Option.some.inj g1
          have HSK:=hid hsk
          obtain⟨ad,cd,hdv⟩:=OwnF.sli hMv.dds
          have hr:=hMv.row
          unfold mvRow at hr
          rw[hdv] at hr
          obtain⟨lk,hlk⟩:∃lk,lookF lev T k=lk:=⟨_,rfl⟩
          rw[hlk] at hr
          have HLK:=hid hlk
          have ym:=row_cell hr
          have ym0:=ym 0
          have ym1:=ym 1
          have ym2:=ym 2
          have ym3:=ym 3
          have ym4:=ym 4
          have ym5:=ym 5
          have ym6:=ym 6
          have ym9:=ym 9
          simp at ym0 ym1 ym2 ym3 ym4 ym5 ym6 ym9
          have yml:=row_lt hr
          have HRW:=hid hr
          have SC:=hid (sh_Counted lev HLV.out s.id s.thread s.status s.beg s.fin s.tri ad s.deeds.length cd wr.drew)
          have yw:=row_cell HF.out.row 1
          have yw2:=row_cell HF.out.row 2
          simp at yw2
          have ywl:=row_lt HF.out.row
          clear hmk hsk hMv ym hcl hr hlk hdv hT hS hB hL yr yw
          go_wp2_with fail
          refine wp_rN (wr.heap.size) [0,0,0,1,0,0,0,1,2,0,0,0,0,1,0,0] (.fin [0,1,2,3,4,5,6,7,8,9,10,11,12,13,14,15]) (by kernel_rfl) ?_
          simp only[wpT,selX,guardAt,sD,sE,sF,sG,Option.bind_some]
          repeat first|(refine wpL_p fun K hK=>?_;go_simp;refine hK _ _ ?_;clear hK K)|(apply wpL_s;(intro w2 hw2;have hk1:=hw2.cell;have hk3:=hw2.1;clear hw2;go_simp;with_reducible rfl);simp only[Act.put,sA,sB,sC])
          refine wpL_e (fun K hK=>?_)
          go_simp
          refine(SC.out).mono ?_
          rintro e W6 ⟨rfl,b6⟩
          refine hK _ _ ?_
          clear hK K
          have hb6:Below wr.heap.size wr W6:=(Below.refl wr.heap.size wr).drew.trans b6
          have B6:=hid (HB.out.trans (hb6.mono hwz))
          have T6:=hid (row_below HTR.out hb6 (row_lt HTR.out))
          have S6:=hid (OwnF.below HS.out hb6)
          have r6:=row_below HRW.out hb6 (row_lt HRW.out)
          have zm0:=row_cell r6 0
          have zm9:=row_cell r6 9
          simp at zm0 zm9
          have zml:=row_lt r6
          have z1:=row_cell T6.out 1
          simp at z1
          have zl:=row_lt T6.out
          have hw6:W5.heap.size≤W6.heap.size:=B6.out.size
          have HRC:=hid (restK_snoc (lev:=lev) (T:=T) HSK.out)
          rw[cntd_L,HLK.out] at HRC
          obtain⟨cc,hcc⟩:∃cc,cntL lev s.status=cc:=⟨_,rfl⟩
          rw[hcc] at HRC ⊢
          clear b6 hb6 hcc r6 ym0 ym1 ym2 ym3 ym4 ym5 ym6 ym9 yr1 yrl yrf SC c0 yw2 ywl
          cases cc with
          |false=>
           repeat first|(refine wpL_p fun K hK=>?_;go_simp;refine hK _ _ ?_;clear hK K)|(apply wpL_s;(intro w2 hw2;have hk1:=hw2.cell;have hk3:=hw2.1;clear hw2;go_simp;with_reducible rfl);simp only[Act.put,sA,sB,sC])|refine wpL_yes rfl rfl ?_|(refine wpL_no rfl rfl fun K hK=>?_;simp only[Act.put,sA,sB,sC];refine hK _ _ ?_;clear hK K)|(refine wpL_un rfl fun K hK=>?_;simp only[Act.put,sA,sB,sC];refine hK _ _ ?_;clear hK K)|refine wpL_nil ?_
           go_wp2_with fail
           go_roundw
           case rel=>exact⟨k+1,_,by omega,by go_num,T6.out,by rw[HRC.out,if_neg (by simp),←List.append_assoc,HKK.out];simpa using S6.out,B6.out⟩
           case measure=>simp[intOf];omega
          |true=>
           cases lk with
           |true=>
            repeat first|(refine wpL_p fun K hK=>?_;go_simp;refine hK _ _ ?_;clear hK K)|(apply wpL_s;(intro w2 hw2;have hk1:=hw2.cell;have hk3:=hw2.1;clear hw2;go_simp;with_reducible rfl);simp only[Act.put,sA,sB,sC])|refine wpL_yes rfl rfl ?_|(refine wpL_no rfl rfl fun K hK=>?_;simp only[Act.put,sA,sB,sC];refine hK _ _ ?_;clear hK K)|(refine wpL_un rfl fun K hK=>?_;simp only[Act.put,sA,sB,sC];refine hK _ _ ?_;clear hK K)|refine wpL_nil ?_
            go_wp2_with fail
            go_roundw
            case rel=>exact⟨k+1,_,by omega,by go_num,T6.out,by rw[HRC.out,if_neg (by simp),←List.append_assoc,HKK.out];simpa using S6.out,B6.out⟩
            case measure=>simp[intOf];omega
           |false=>
            repeat first|(refine wpL_p fun K hK=>?_;go_simp;refine hK _ _ ?_;clear hK K)|(apply wpL_s;(intro w2 hw2;have hk1:=hw2.cell;have hk3:=hw2.1;clear hw2;go_simp;with_reducible rfl);simp only[Act.put,sA,sB,sC])|refine wpL_yes rfl rfl ?_|(refine wpL_no rfl rfl fun K hK=>?_;simp only[Act.put,sA,sB,sC];refine hK _ _ ?_;clear hK K)|(refine wpL_un rfl fun K hK=>?_;simp only[Act.put,sA,sB,sC];refine hK _ _ ?_;clear hK K)|refine wpL_nil ?_
            go_wp2_with fail
            refine wp_region_x [0,1,0,0,0,0,1,0,3,2,0,2] [0,1,2,3,4,5,6,7,8,9,10,11] (by kernel_rfl) ?_
            simp only[selX,guardAt,sD,sE,sF,sG]
            repeat first|(refine wpL_p fun K hK=>?_;go_simp;refine hK _ _ ?_;clear hK K)|(apply wpL_s;(intro w2 hw2;have hk1:=hw2.cell;have hk3:=hw2.heap;clear hw2;go_simp;with_reducible rfl);simp only[Act.put,sA,sB,sC])|refine wpL_yes rfl rfl ?_|(refine wpL_no rfl rfl fun K hK=>?_;simp only[Act.put,sA,sB,sC];refine hK _ _ ?_;clear hK K)|refine wpL_nil ?_
            refine wpL_k (fun K hK=>?_)
            go_simp
            refine hK _ _ (Keeps.alloc _ _) ?_
            clear hK K
            refine wpL_e (fun K' hK=>?_)
            rw[drew_alloc]
            refine wp_appF _ _ _ rfl _ 16 Tryz.underlying28 infoStep rfl S6.out.drew (s.id,false) (by first|omega|(simp <;> omega)) (by rfl) (by rfl) (by first|rfl|simp) rfl (step_one _) (by first|omega|(simp only[List.length_append,List.length_cons,List.length_nil,List.length_replicate];omega)) (by first|omega|(simp only[List.length_append,List.length_cons,List.length_nil,List.length_replicate];omega)) ?_
            intro g8 c8 w8 o8 G8
            have hne:=OwnF.neT S6.out T6.out (by decide)
            have rt8:=row_grw (row_drew T6.out) G8 hne
            have hne8:=OwnF.neT o8 rt8 (by decide)
            have T9:=hid (row_set rt8 1 (.slice (some ⟨g8,0,none⟩) (KL.length+1) c8))
            have O9:=hid (OwnF.other (j:=1) o8 hne8 (.slice (some ⟨g8,0,none⟩) (KL.length+1) c8))
            have B9:=hid ((B6.out.drew.trans (G8.below (by exact hw6) fun j hj=>(OwnF.lt S6.out j hj).1)).setCell (p:=⟨W5.heap.size,1,none⟩) (Nat.le_refl _) (.slice (some ⟨g8,0,none⟩) (KL.length+1) c8))
            have y8l:=row_lt rt8
            have y8:=row_cell rt8 1
            simp at y8
            have y8f:=row_free rt8 1
            clear rt8 o8 G8 hne hne8 zm0 zm9 z1
            refine hK _ _ ?_
            clear hK K'
            repeat first|(refine wpL_p fun K hK=>?_;go_simp;refine hK _ _ ?_;clear hK K)|(apply wpL_s;(intro w2 hw2;have hk1:=hw2.cell;have hk3:=hw2.heap;clear hw2;go_simp;with_reducible rfl);simp only[Act.put,sA,sB,sC])|refine wpL_yes rfl rfl ?_|(refine wpL_no rfl rfl fun K hK=>?_;simp only[Act.put,sA,sB,sC];refine hK _ _ ?_;clear hK K)|refine wpL_nil ?_
            refine wpL_e (fun K' hK=>?_)
            go_simp
            refine hK _ _ ?_
            clear hK K'
            repeat first|(refine wpL_p fun K hK=>?_;go_simp;refine hK _ _ ?_;clear hK K)|(apply wpL_s;(intro w2 hw2;have hk1:=hw2.cell;have hk3:=hw2.heap;clear hw2;go_simp;with_reducible rfl);simp only[Act.put,sA,sB,sC])|refine wpL_yes rfl rfl ?_|(refine wpL_no rfl rfl fun K hK=>?_;simp only[Act.put,sA,sB,sC];refine hK _ _ ?_;clear hK K)|refine wpL_nil ?_
            go_wp2_with fail
            go_roundw
            case rel=>exact⟨k+1,_,by omega,by go_num,by simpa using T9.out,by rw[HRC.out,if_pos (by simp),←List.append_assoc,HKK.out];exact O9.out,B9.out⟩
            case measure=>simp[intOf];omega
         ·obtain rfl:k=ms.length:=by omega
          have hq:decide ((ms.length:Int) < (ms.length:Int))=false:=by simp
          have hKK:KL=stepsF lev A T ord:=by
           rw[←hL,←HLL.out,HML.out];rfl
          have HKK2:=hid hKK
          have yr0:=yr 0
          have yr2:=yr 2
          have yr3:=yr 3
          have yr4:=yr 4
          have yr5:=yr 5
          have yr6:=yr 6
          simp at yr0 yr2 yr3 yr4 yr5 yr6
          have rw5:=row_below R5.out HB.out (row_lt R5.out)
          have RW:=hid rw5
          have yv:=row_cell rw5
          have yv0:=yv 0
          have yv1:=yv 1
          have yv2:=yv 2
          have yv3:=yv 3
          have yv4:=yv 4
          have yv5:=yv 5
          have yv6:=yv 6
          simp at yv0 yv1 yv2 yv3 yv4 yv5 yv6
          have yvf:=fun o=>row_free rw5 o
          have yvl:=row_lt rw5
          have BW:=hid (B5.out.trans (HB.out.mono B5.out.size))
          clear hT hS hB hL hKK yr yv rw5 yrf
          go_wp2_with fail
          have RF:=row_set (row_set (row_set (row_set (row_set (row_set (row_set RW.out 0 (.int .i64 1)) 1 (.slice aS KL.length cS)) 2 (.slice none 0 0)) 3 (.int .i64 0)) 4 (.int .i64 0)) 5 (.int .i64 0)) 6 (.slice none 0 0)
          have hB9:=hid (((((((BW.out.setCell (p:=⟨w.heap.size,0,none⟩) (Nat.le_refl _) (.int .i64 1)).setCell (p:=⟨w.heap.size,1,none⟩) (Nat.le_refl _) (.slice aS KL.length cS)).setCell (p:=⟨w.heap.size,2,none⟩) (Nat.le_refl _) (.slice none 0 0)).setCell (p:=⟨w.heap.size,3,none⟩) (Nat.le_refl _) (.int .i64 0)).setCell (p:=⟨w.heap.size,4,none⟩) (Nat.le_refl _) (.int .i64 0)).setCell (p:=⟨w.heap.size,5,none⟩) (Nat.le_refl _) (.int .i64 0)).setCell (p:=⟨w.heap.size,6,none⟩) (Nat.le_refl _) (.slice none 0 0))
          have c0:=row_cell RF 0
          have c1:=row_cell RF 1
          have c2:=row_cell RF 2
          have c3:=row_cell RF 3
          have c4:=row_cell RF 4
          have c5:=row_cell RF 5
          have c6:=row_cell RF 6
          simp at c0 c1 c2 c3 c4 c5 c6
          have HV9:=hid (show OwnF stpC 87 2 ((((((((wr.setCell ⟨w.heap.size,0,none⟩ (.int .i64 1)).setCell ⟨w.heap.size,1,none⟩ (.slice aS KL.length cS)).setCell ⟨w.heap.size,2,none⟩ (.slice none 0 0)).setCell ⟨w.heap.size,3,none⟩ (.int .i64 0)).setCell ⟨w.heap.size,4,none⟩ (.int .i64 0)).setCell ⟨w.heap.size,5,none⟩ (.int .i64 0)).setCell ⟨w.heap.size,6,none⟩ (.slice none 0 0))) w.heap.size (.slice aS KL.length cS) KL from by
           have hne:=OwnF.neT HS.out RW.out (by decide)
           exact OwnF.base (OwnF.other (OwnF.other (OwnF.other (OwnF.other (OwnF.other (OwnF.other (OwnF.other HS.out hne _) hne _) hne _) hne _) hne _) hne _) hne _) (by omega))
          refine bodyPost_ret (v:=ansV ⟨1,KL,0,0,0,[]⟩ (.slice aS KL.length cS) (.slice none 0 0)) (by simp[results,Tryz.results32,go_sem,ansV,c0,c1,c2,c3,c4,c5,c6]) rfl ?_
          refine⟨⟨1,KL,0,0,0,[]⟩,_,_,rfl,?_,⟨HV9.out,OwnF.nil _ _⟩,hB9.out⟩
          unfold JudgeIs
          rw[HT.out,HBF.out,←HOT.out,HKK2.out]
end
end
