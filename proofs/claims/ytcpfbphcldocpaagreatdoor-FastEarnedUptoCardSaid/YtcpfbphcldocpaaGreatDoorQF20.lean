/- Parts of the proof, merged by program out of 1 texts (FtG): the first: Is each read of a transaction explained? Printed by wip/tools/genftg.py. Conditions: those of each theorem, as typed. -/
import Derived.Test.YtcpfbphcldocpaaGreatDoorQF19
set_option linter.unusedVariables false
set_option linter.unusedSimpArgs false
set_option linter.unusedSectionVars false
set_option maxRecDepth 100000
set_option maxHeartbeats 4000000
namespace Go.Proofs.YtcpfbphcldocpaaGreatDoor
open Go.Maps Go.RowKit
section
attribute [local irreducible] wpL
def fromT (A:Au) (T:List Bool) (i:Nat) (o v:Int):Bool:=match byF A o v with
 |some j=>decide (j≠i)&&T.getD j false
 |none=>false
def IntMap (w:World) (b:Nat) (own:Mi):Prop:=RawM w b fun k=>(fnd k own).map (.int .i64)
theorem IntMap.look {w:World} {b:Nat} {own:Mi} (h:IntMap w b own) (a:Int):(Instr.lookup 138 (.map (some b)) (.int .i64 a) true).run Tryz.prog w=.ok (.tuple #[.int .i64 ((fnd a own).getD 0),.bool (fnd a own).isSome]) w:=by
 have:=(RawM.look h Tryz.underlying3 Tryz.underlying138 (zeroI6 w) a rfl).2
 cases e:fnd a own <;> rw[e] at this <;> exact this
theorem look_rd {w:World} {b n:Nat} {F:MI} (h:IsMI w b n F) (hd:KDom dI F) {a:Int} (ha:dI a):(Instr.lookup 138 (.map (some b)) (.int .i64 a) false).run Tryz.prog w=.ok (.int .i64 ((fnd a F).getD 0)) w:=by
 have:=h.look keyI elem_int hd Tryz.underlying138 (zeroI6 w) ha
 rw[this]
 cases fnd a F <;> rfl
theorem IntMap.put {w:World} {b:Nat} {own:Mi} {a v:Int} (hs:KSrt own) (h:RawM w b (rup (fun k=>(fnd k own).map (.int .i64)) a (some (.int .i64 v)))):IntMap w b (upd a v own):=RawM.fun h fun k=>by
 by_cases e:k=a
 ·subst e;rw[fnd_upd_same hs,rup_same];rfl
 ·rw [fnd_upd_other hs e,rup_ne e]
def explRet (r:Option Nat):Ending:=match r with
 |none=>.returned (.tuple #[.int .i64 0,.bool true])
 |some k=>.returned (.tuple #[.int .i64 (k:Nat),.bool false])
section
variable {w:World} {lo hi pW bB:Nat} {lev:Int} {ov vv lv:Value} {ms:List Mvr} {A:Au} {T:List Bool} {os:List Ob}
theorem f_expl (h:FwAt w lo hi pW bB lev ov vv ms lv A T) (ho:Sl w w.heap.size 2 ov os.length (os.flatMap Ob.cells)) (hvv:∃a n c,vv=.slice a n c) (hD:DvOk os A) {i:Nat} {m:Mvr} {s:St} (hm:ms[i]?=some m) (hs:A[i]?=some s) (hhi:hi≤w.heap.size):
  Calls Tryz.prog 66 #[.pointer (some ⟨pW,0,none⟩),.pointer (some ⟨m.p,0,none⟩)] w fun e w'=>e=explRet (explF (os.map (·.init)) A T i (rdM s) 0 [] s.deeds)∧Below w.heap.size w w':=by
 obtain⟨ao,co,rfl,mo⟩:=ho.ex
 obtain⟨av,nv,cv,rfl⟩:=hvv
 have hM:=h.mv i m s hm hs
 have hsm:=List.mem_of_getElem? hs
 have hnd:=hD.dl s hsm
 obtain⟨ad,cd,hdv⟩:=OwnF.sli hM.dds
 have rm:=hM.row
 unfold mvRow at rm
 rw[hdv] at rm
 have HDS:=hid (show OwnD w lo (.slice ad s.deeds.length cd) s.deeds by rw[←hdv];exact hM.dds)
 have HOb:=hid (hD.obj s hsm)
 have HVa:=hid (hD.val s hsm)
 have HDo:=hid (fun(d:Dd) (hd:d ∈ s.deeds)=>hD.dobj hsm hd)
 have hol:=hD.ol
 have HDR:=hid (foldU_dom (g:=Dd.got) (X:=readsF [] s.deeds) (M:=[]) (fun _ h=>by cases h) fun x hx=>hD.dobj hsm (readsF_mem hx).1:KDom dI (rdM s))
 have HS:=hid hs
 have HH:=hid h
 have HM:=hid hm
 have HO:=hid ho
 have HRM:=hid rm
 have hmm:=@run_makeMap Tryz.prog
 obtain⟨ds,hds⟩:∃ds,s.deeds=ds:=⟨_,rfl⟩
 rw[hds] at HDS HOb HVa HDo HRM hnd ⊢
 obtain⟨R,hR⟩:∃R,explF (os.map (·.init)) A T i (rdM s) 0 [] ds=R:=⟨_,rfl⟩
 rw[hR]
 have HRR:=hid hR
 have y:=row_cell HRM.out 6
 simp at y
 have yl:=row_lt HRM.out
 clear hM hsm hdv rm h hm ho hD hs hds hR mo
 go_enter Tryz.func66,Tryz.ntmps66
 go_wp2_with fail
 have B0:=hid (show Below w.heap.size w (w.alloc (.map #[] 0)) from(Below.refl _ w).alloc (Nat.le_refl _) _)
 have O0:=hid (show IntMap (w.alloc (.map #[] 0)) w.heap.size [] from RawM.fun (RawM.made (heap_alloc_new w _)) fun k=>rfl)
 have hz0:w.heap.size < (w.alloc (.map #[] 0)).heap.size:=by simp
 generalize w.alloc (.map #[] 0)=W at *
 clear y
 go_loopw [20] (fun q wr=>∃(k:Nat) (own:Mi),k≤ds.length∧q=.int .i64 k∧IntMap wr w.heap.size own∧KSrt own∧explF (os.map (·.init)) A T i (rdM s) 0 [] ds=explF (os.map (·.init)) A T i (rdM s) k own (ds.drop k)∧Below w.heap.size w wr∧w.heap.size < wr.heap.size) (fun q _=>ds.length - (intOf q).toNat)
 case atStart=>exact⟨0,[],by omega,by go_num,O0.out,List.Pairwise.nil,rfl,B0.out,hz0⟩
 case round=>
  obtain⟨k,own,hk,rfl,hO,hso,hE,hB,hzw⟩:=hrel
  have HOw:=hid hO
  have HSo:=hid hso
  have HE:=hid hE
  have HB:=hid hB
  clear hO hso hE hB O0 B0 hz0 W
  by_cases hlt:k < ds.length
  ·obtain ⟨b,off,d,rfl,hb,hdk,hc⟩:=(OwnF.sl HDS.out).atF Dd.len rfl hlt
   have HDK:=hid (show ds.drop k=d::ds.drop (k+1) from List.drop_eq_getElem?_toList_append▸by rw[hdk];rfl)
   have hdm:=List.mem_of_getElem? hdk
   have hob:=HOb.out d hdm
   have hva:=HVa.out d hdm
   have hdo:=HDo.out d hdm
   obtain⟨ob',op,ke,va,re,go,at_,ba⟩:=d
   obtain⟨ob,rfl⟩:∃ob:Nat,ob'=(ob:Int):=⟨ob'.toNat,by have:=hob.1;simp only at this;omega⟩
   have hobl:ob < os.length:=by have:=hob.2;simp only at this;omega
   have HCk:=hid (⟨hdo,hva.2⟩:dI (ob:Int)∧dI go)
   have HDO:=hid hdo
   have c0:wr.cell? ⟨b,off+k*8,none⟩=some (.int .i64 (ob:Int)):=cell_below HB.out hb (hc 0 (by decide))
   have c1:wr.cell? ⟨b,off+k*8+1,none⟩=some (.int .i64 op):=cell_below HB.out hb (hc 1 (by decide))
   have c2:wr.cell? ⟨b,off+k*8+2,none⟩=some (.int .i64 ke):=cell_below HB.out hb (hc 2 (by decide))
   have c3:wr.cell? ⟨b,off+k*8+3,none⟩=some (.int .i64 va):=cell_below HB.out hb (hc 3 (by decide))
   have c4:wr.cell? ⟨b,off+k*8+4,none⟩=some (.int .i64 re):=cell_below HB.out hb (hc 4 (by decide))
   have c5:wr.cell? ⟨b,off+k*8+5,none⟩=some (.int .i64 go):=cell_below HB.out hb (hc 5 (by decide))
   have c6:wr.cell? ⟨b,off+k*8+6,none⟩=some (.int .i64 at_):=cell_below HB.out hb (hc 6 (by decide))
   have c7:wr.cell? ⟨b,off+k*8+7,none⟩=some (.int .i64 ba):=cell_below HB.out hb (hc 7 (by decide))
   have hbw:b < wr.heap.size:=by omega
   have HE2:=hid (HE.out.trans (congrArg (explF (os.map (·.init)) A T i (rdM s) k own) HDK.out))
   clear hc hdk hdm hob hva hdo
   by_cases h2:op=2
   ·subst h2
    have B3:=hid (show Below wr.heap.size wr (wr.alloc (.cells #[.int .i64 (ob:Int),.int .i64 2,.int .i64 ke,.int .i64 va,.int .i64 re,.int .i64 go,.int .i64 at_,.int .i64 ba] 112)) from(Below.refl _ wr).alloc (Nat.le_refl _) _)
    have r3:=row_new wr (.cells #[.int .i64 (ob:Int),.int .i64 2,.int .i64 ke,.int .i64 va,.int .i64 re,.int .i64 go,.int .i64 at_,.int .i64 ba] 112)
    have HOw3:=hid (show IntMap (wr.alloc (.cells #[.int .i64 (ob:Int),.int .i64 2,.int .i64 ke,.int .i64 va,.int .i64 re,.int .i64 go,.int .i64 at_,.int .i64 ba] 112)) w.heap.size own from RawM.obj HOw.out (B3.out.block _ hzw))
    have R3:=hid r3
    clear r3
    go_wp2_with (at_mapUpdate;refine Stop.halt ?_)
    generalize wr.alloc (.cells #[.int .i64 (ob:Int),.int .i64 2,.int .i64 ke,.int .i64 va,.int .i64 re,.int .i64 go,.int .i64 at_,.int .i64 ba] 112)=W3 at *
    refine Stop.go ?_
    refine RawM.wpList_store HOw3.out Tryz.underlying3 Tryz.underlying138 (a:=(ob:Int)) (v:=.int .i64 va) rfl (.inl rfl) (by rfl) (by rfl) (by rfl) ?_
    intro w6 h6 t6
    have O6:=hid (IntMap.put HSo.out h6)
    have B6:=hid ((HB.out.trans (B3.out.mono (by omega))).trans (Below.turned t6 (Nat.le_refl _)))
    have z6:=turned_size t6
    have hz6:w.heap.size < w6.heap.size:=by have:=B3.out.size;omega
    clear h6 t6
    go_wp2_with fail
    go_roundw
    case rel=>exact⟨k+1,_,by omega,by go_num,O6.out,srt_upd HSo.out,by rw[HE2.out,explF,if_pos rfl],B6.out,hz6⟩
    case measure=>simp[intOf];omega
   ·have q2:(op==2)=false:=by simpa using h2
    have HN2:=hid h2
    clear h2
    by_cases h0:re=0
    ·subst h0
     have B3:=hid (show Below wr.heap.size wr (wr.alloc (.cells #[.int .i64 (ob:Int),.int .i64 op,.int .i64 ke,.int .i64 va,.int .i64 0,.int .i64 go,.int .i64 at_,.int .i64 ba] 112)) from(Below.refl _ wr).alloc (Nat.le_refl _) _)
     have r3:=row_new wr (.cells #[.int .i64 (ob:Int),.int .i64 op,.int .i64 ke,.int .i64 va,.int .i64 0,.int .i64 go,.int .i64 at_,.int .i64 ba] 112)
     have HOw3:=hid (show IntMap (wr.alloc (.cells #[.int .i64 (ob:Int),.int .i64 op,.int .i64 ke,.int .i64 va,.int .i64 0,.int .i64 go,.int .i64 at_,.int .i64 ba] 112)) w.heap.size own from RawM.obj HOw.out (B3.out.block _ hzw))
     have R3:=hid r3
     clear r3
     go_wp2_with fail
     generalize wr.alloc (.cells #[.int .i64 (ob:Int),.int .i64 op,.int .i64 ke,.int .i64 va,.int .i64 0,.int .i64 go,.int .i64 at_,.int .i64 ba] 112)=W3 at *
     go_roundw
     case rel=>exact⟨k+1,own,by omega,by go_num,HOw3.out,HSo.out,by rw[HE2.out,explF,if_neg HN2.out,if_pos rfl],(HB.out.trans (B3.out.mono (by omega))),by have:=B3.out.size;omega⟩
     case measure=>simp[intOf];omega
    ·have q0:(re==0)=false:=by simpa using h0
     have HN0:=hid h0
     clear h0
     have B3:=hid (show Below wr.heap.size wr (wr.alloc (.cells #[.int .i64 (ob:Int),.int .i64 op,.int .i64 ke,.int .i64 va,.int .i64 re,.int .i64 go,.int .i64 at_,.int .i64 ba] 112)) from(Below.refl _ wr).alloc (Nat.le_refl _) _)
     have r3:=row_new wr (.cells #[.int .i64 (ob:Int),.int .i64 op,.int .i64 ke,.int .i64 va,.int .i64 re,.int .i64 go,.int .i64 at_,.int .i64 ba] 112)
     have HOw3:=hid (show IntMap (wr.alloc (.cells #[.int .i64 (ob:Int),.int .i64 op,.int .i64 ke,.int .i64 va,.int .i64 re,.int .i64 go,.int .i64 at_,.int .i64 ba] 112)) w.heap.size own from RawM.obj HOw.out (B3.out.block _ hzw))
     have R3:=hid r3
     clear r3
     have lk:=HOw3.out.look (ob:Int)
     cases hf:fnd (ob:Int) own with
     |some v=>
      rw[hf] at lk
      simp only[Option.getD_some,Option.isSome_some] at lk
      have HF:=hid hf
      clear hf
      by_cases hg:go=v
      ·subst hg
       go_wp2_with fail
       generalize wr.alloc (.cells #[.int .i64 (ob:Int),.int .i64 op,.int .i64 ke,.int .i64 va,.int .i64 re,.int .i64 go,.int .i64 at_,.int .i64 ba] 112)=W3 at *
       go_roundw
       case rel=>exact⟨k+1,own,by omega,by go_num,HOw3.out,HSo.out,by rw[HE2.out,explF,if_neg HN2.out,if_neg HN0.out];simp only[HF.out];rw[if_pos trivial],(HB.out.trans (B3.out.mono (by omega))),by have:=B3.out.size;omega⟩
       case measure=>simp[intOf];omega
      ·have qg:(go !=v)=true:=by simpa using hg
       have HG:=hid hg
       clear hg
       go_wp2_with fail
       refine bodyPost_ret (v:=.tuple #[.int .i64 k,.bool false]) (by simp[results,Tryz.results66,go_sem]) rfl ?_
       refine⟨?_,HB.out.trans (B3.out.mono (by omega))⟩
       rw[←HRR.out,HE2.out,explF,if_neg HN2.out,if_neg HN0.out]
       simp only[HF.out]
       rw[if_neg HG.out]
       rfl
     |none=>
      rw[hf] at lk
      simp only[Option.getD_none,Option.isSome_none] at lk
      have HF:=hid hf
      clear hf
      go_wp2_with fail
      have B13:=hid (show Below w.heap.size w (wr.alloc (.cells #[.int .i64 (ob:Int),.int .i64 op,.int .i64 ke,.int .i64 va,.int .i64 re,.int .i64 go,.int .i64 at_,.int .i64 ba] 112)) from HB.out.trans (B3.out.mono (by omega)))
      obtain⟨bo,offo,o,hqo,hbo,hoo,hco⟩:=(HO.out.below B13.out).atF Ob.len rfl hobl
      subst hqo
      obtain⟨kd,ini⟩:=o
      have x1:(wr.alloc (.cells #[.int .i64 (ob:Int),.int .i64 op,.int .i64 ke,.int .i64 va,.int .i64 re,.int .i64 go,.int .i64 at_,.int .i64 ba] 112)).cell? ⟨bo,offo+ob*2+1,none⟩=some (.int .i64 ini):=hco 1 (by decide)
      have HINI:=hid (show(os.map (·.init)).getD ((ob:Int).toNat) 0=ini by rw[List.getD_eq_getElem?_getD,Int.toNat_natCast,List.getElem?_map,hoo];rfl)
      have X1:=hid x1
      have HBO:=hid hbo
      have FW:=hid (HH.out.below B13.out hhi (Nat.le_refl _))
      have hz3:=B3.out.size
      have hz3':wr.heap.size < (wr.alloc (.cells #[.int .i64 (ob:Int),.int .i64 op,.int .i64 ke,.int .i64 va,.int .i64 re,.int .i64 go,.int .i64 at_,.int .i64 ba] 112)).heap.size:=row_lt R3.out
      clear hco hoo x1 lk
      generalize wr.alloc (.cells #[.int .i64 (ob:Int),.int .i64 op,.int .i64 ke,.int .i64 va,.int .i64 re,.int .i64 go,.int .i64 at_,.int .i64 ba] 112)=W3 at *
      have rq:=FW.out.row
      have yq:=row_cell rq
      have yq0:=yq 0
      have yq4:=yq 4
      simp at yq0 yq4
      have yql:=row_lt rq
      have rm3:=row_below HRM.out B13.out (row_lt HRM.out)
      have ym7:=row_cell rm3 7
      simp at ym7
      have yml:=row_lt rm3
      have yd:=row_cell R3.out
      have yd0:=yd 0
      have yd5:=yd 5
      simp at yd0 yd5
      have ydl:=row_lt R3.out
      have x1:=X1.out
      have xol:bo < W3.heap.size:=by have:=HBO.out;have:=B13.out.size;omega
      have hmr:=(FW.out.mv i m s HM.out HS.out).b
      have HRB:=hid (show m.r < W3.heap.size by have:=B13.out.size;omega)
      have HBB:=hid (show bB < W3.heap.size by have:=FW.out.pB;have:=B13.out.size;omega)
      have LRD:=hid (fun(X:World) (hX:X.heap[m.r]?=W3.heap[m.r]?)=>look_rd ((FW.out.mv i m s HM.out HS.out).rd.obj hX) HDR.out HDO.out)
      have LBY:=hid (fun(X:World) (hX:X.heap[bB]?=W3.heap[bB]?)=>((FW.out.by_.obj hX).look ck Tryz.underlying135 (zeroMp X) (ckOf (ob:Int) go HCk.out) rfl).1)
      have hzW:w.heap.size < W3.heap.size:=by omega
      clear yq rq rm3 yd
      cases hby:byF A (ob:Int) go with
      |none=>
       have HBM:=hid (show byM A ms (ckOf (ob:Int) go HCk.out)=none by unfold byM;rw[ckOf_1];simp only[hby,Option.bind_none])
       have HFR:=hid (show fromT A T i (ob:Int) go=false by unfold fromT;rw[hby])
       clear hby
       by_cases hgi:go=ini
       ·have qi:(go==ini)=true:=by simpa using hgi
        have HGI:=hid hgi
        clear hgi
        refine wp_rN (W3.heap.size) [0,0,0,1,0,1,0,1,0,1,0] (.fin [0,1,2,3,4,5,6,7,8,9,10]) (by kernel_rfl) ?_
        simp only[wpT,selX,guardAt,sD,sE,sF,sG]
        repeat first|(refine wpL_p fun K hK=>?_;go_simp;refine hK _ _ ?_;clear hK K)|(apply wpL_s;(intro w2 hw2;have hk1:=hw2.cell;have hk3:=hw2.1;clear hw2;go_simp;with_reducible rfl);simp only[Act.put,sA,sB,sC])
        refine wpL_r (fun K hK=>?_)
        refine⟨.pointer none,fun w2 hw2=>?_,?_⟩
        ·have lk:=LBY.out w2 (hw2.2 bB HBB.out)
         rw[HBM.out] at lk
         simp only[ckV,ckOf_1,Option.getD_some,Option.getD_none] at lk
         go_simp
        refine hK _ _ ?_
        clear hK K
        repeat first|(refine wpL_p fun K hK=>?_;go_simp;refine hK _ _ ?_;clear hK K)|refine wpL_nil ?_
        go_wp2_with fail
        refine wp_rN (W3.heap.size) [0,1,0,0,0,0,1,0,1,0,0,1,0,0,0,0,0,0,0,1,0,0,0,0,0,1,0,0,0] (.fin [0,1,2,3,4,5,6,7,8,9,10,11,12,13,14,15,16,17,18,19,20,21,22,23,24,25,26,27,28]) (by kernel_rfl) ?_
        simp only[wpT,selX,guardAt,sD,sE,sF,sG,Option.bind_some]
        repeat first|(refine wpL_p fun K hK=>?_;go_simp;refine hK _ _ ?_;clear hK K)|(apply wpL_s;(intro w2 hw2;have hk1:=hw2.cell;have hk3:=hw2.1;clear hw2;go_simp;with_reducible rfl);simp only[Act.put,sA,sB,sC])|refine wpL_yes rfl rfl ?_|(refine wpL_no rfl rfl fun K hK=>?_;simp only[Act.put,sA,sB,sC];refine hK _ _ ?_;clear hK K)|(refine wpL_un rfl fun K hK=>?_;simp only[Act.put,sA,sB,sC];refine hK _ _ ?_;clear hK K)|refine wpL_nil ?_
        go_wp2_with fail
        by_cases hgr:go=(fnd (ob:Int) (rdM s)).getD 0
        ·have qr:(go !=(fnd (ob:Int) (rdM s)).getD 0)=false:=by simpa using hgr
         have HGR:=hid hgr
         clear hgr
         refine wp_rN (W3.heap.size) [0,1,0,0,0,1,0,1,1,0,0,0,0,0] (.fin [0,1,2,3,4,5,6,7,8,9,10,11,12,13]) (by kernel_rfl) ?_
         simp only[wpT,selX,guardAt,sD,sE,sF,sG,Option.bind_some]
         repeat first|(refine wpL_p fun K hK=>?_;go_simp;refine hK _ _ ?_;clear hK K)|(apply wpL_s;(intro w2 hw2;have hk1:=hw2.cell;have hk3:=hw2.1;clear hw2;go_simp;with_reducible rfl);simp only[Act.put,sA,sB,sC])|refine wpL_yes rfl rfl ?_|(refine wpL_un rfl fun K hK=>?_;simp only[Act.put,sA,sB,sC];refine hK _ _ ?_;clear hK K)
         refine wpL_r (fun K hK=>?_)
         refine⟨.int .i64 ((fnd (ob:Int) (rdM s)).getD 0),fun w2 hw2=>?_,?_⟩
         ·have lk:=LRD.out w2 (hw2.2 m.r HRB.out)
          go_simp
         refine hK _ _ ?_
         clear hK K
         repeat first|(refine wpL_p fun K hK=>?_;go_simp;refine hK _ _ ?_;clear hK K)|(apply wpL_s;(intro w2 hw2;have hk1:=hw2.cell;have hk3:=hw2.1;clear hw2;go_simp;with_reducible rfl);simp only[Act.put,sA,sB,sC])|refine wpL_yes rfl rfl ?_|(refine wpL_no rfl rfl fun K hK=>?_;simp only[Act.put,sA,sB,sC];refine hK _ _ ?_;clear hK K)|(refine wpL_un rfl fun K hK=>?_;simp only[Act.put,sA,sB,sC];refine hK _ _ ?_;clear hK K)|refine wpL_nil ?_
         go_wp2_with fail
         go_roundw
         case rel=>
          refine⟨k+1,own,by omega,by go_num,RawM.drew (RawM.drew (RawM.drew HOw3.out)),HSo.out,?_,B13.out.drew.drew.drew,hzW⟩
          rw[HE2.out,explF,if_neg HN2.out,if_neg HN0.out]
          simp only[HF.out]
          rw[HINI.out,if_pos]
          exact⟨HGR.out,.inl HGI.out⟩
         case measure=>simp[intOf];omega
        ·have qr:(go !=(fnd (ob:Int) (rdM s)).getD 0)=true:=by simpa using hgr
         have HGR:=hid hgr
         clear hgr
         refine wp_rN (W3.heap.size) [0,1,0,0,0,1,0,1,1,0,0,0,0,0] (.fin [0,1,2,3,4,5,6,7,8,9,10,11,12,13]) (by kernel_rfl) ?_
         simp only[wpT,selX,guardAt,sD,sE,sF,sG,Option.bind_some]
         repeat first|(refine wpL_p fun K hK=>?_;go_simp;refine hK _ _ ?_;clear hK K)|(apply wpL_s;(intro w2 hw2;have hk1:=hw2.cell;have hk3:=hw2.1;clear hw2;go_simp;with_reducible rfl);simp only[Act.put,sA,sB,sC])|refine wpL_yes rfl rfl ?_|(refine wpL_un rfl fun K hK=>?_;simp only[Act.put,sA,sB,sC];refine hK _ _ ?_;clear hK K)
         refine wpL_r (fun K hK=>?_)
         refine⟨.int .i64 ((fnd (ob:Int) (rdM s)).getD 0),fun w2 hw2=>?_,?_⟩
         ·have lk:=LRD.out w2 (hw2.2 m.r HRB.out)
          go_simp
         refine hK _ _ ?_
         clear hK K
         repeat first|(refine wpL_p fun K hK=>?_;go_simp;refine hK _ _ ?_;clear hK K)|(apply wpL_s;(intro w2 hw2;have hk1:=hw2.cell;have hk3:=hw2.1;clear hw2;go_simp;with_reducible rfl);simp only[Act.put,sA,sB,sC])|refine wpL_yes rfl rfl ?_|(refine wpL_no rfl rfl fun K hK=>?_;simp only[Act.put,sA,sB,sC];refine hK _ _ ?_;clear hK K)|(refine wpL_un rfl fun K hK=>?_;simp only[Act.put,sA,sB,sC];refine hK _ _ ?_;clear hK K)|refine wpL_nil ?_
         go_wp2_with fail
         refine bodyPost_ret (v:=.tuple #[.int .i64 k,.bool false]) (by simp[results,Tryz.results66,go_sem]) rfl ?_
         refine⟨?_,B13.out.drew.drew.drew⟩
         rw[←HRR.out,HE2.out,explF,if_neg HN2.out,if_neg HN0.out]
         simp only[HF.out]
         rw[HINI.out,if_neg]
         ·rfl
         ·exact fun h=>HGR.out h.1
       ·have qi:(go==ini)=false:=by simpa using hgi
        have HGI:=hid hgi
        clear hgi
        refine wp_rN (W3.heap.size) [0,0,0,1,0,1,0,1,0,1,0] (.fin [0,1,2,3,4,5,6,7,8,9,10]) (by kernel_rfl) ?_
        simp only[wpT,selX,guardAt,sD,sE,sF,sG]
        repeat first|(refine wpL_p fun K hK=>?_;go_simp;refine hK _ _ ?_;clear hK K)|(apply wpL_s;(intro w2 hw2;have hk1:=hw2.cell;have hk3:=hw2.1;clear hw2;go_simp;with_reducible rfl);simp only[Act.put,sA,sB,sC])
        refine wpL_r (fun K hK=>?_)
        refine⟨.pointer none,fun w2 hw2=>?_,?_⟩
        ·have lk:=LBY.out w2 (hw2.2 bB HBB.out)
         rw[HBM.out] at lk
         simp only[ckV,ckOf_1,Option.getD_some,Option.getD_none] at lk
         go_simp
        refine hK _ _ ?_
        clear hK K
        repeat first|(refine wpL_p fun K hK=>?_;go_simp;refine hK _ _ ?_;clear hK K)|refine wpL_nil ?_
        go_wp2_with fail
        refine wp_rN (W3.heap.size) [0,1,0,0,0,0,1,0,1,0,0,1,0,0,0,0,0,0,0,1,0,0,0,0,0,1,0,0,0] (.fin [0,1,2,3,4,5,6,7,8,9,10,11,12,13,14,15,16,17,18,19,20,21,22,23,24,25,26,27,28]) (by kernel_rfl) ?_
        simp only[wpT,selX,guardAt,sD,sE,sF,sG,Option.bind_some]
        repeat first|(refine wpL_p fun K hK=>?_;go_simp;refine hK _ _ ?_;clear hK K)|(apply wpL_s;(intro w2 hw2;have hk1:=hw2.cell;have hk3:=hw2.1;clear hw2;go_simp;with_reducible rfl);simp only[Act.put,sA,sB,sC])|refine wpL_yes rfl rfl ?_|(refine wpL_no rfl rfl fun K hK=>?_;simp only[Act.put,sA,sB,sC];refine hK _ _ ?_;clear hK K)|(refine wpL_un rfl fun K hK=>?_;simp only[Act.put,sA,sB,sC];refine hK _ _ ?_;clear hK K)|refine wpL_nil ?_
        go_wp2_with fail
        by_cases hgr:go=(fnd (ob:Int) (rdM s)).getD 0
        ·have qr:(go !=(fnd (ob:Int) (rdM s)).getD 0)=false:=by simpa using hgr
         have HGR:=hid hgr
         clear hgr
         refine wp_rN (W3.heap.size) [0,1,0,0,0,1,0,1,1,0,0,0,0,0] (.fin [0,1,2,3,4,5,6,7,8,9,10,11,12,13]) (by kernel_rfl) ?_
         simp only[wpT,selX,guardAt,sD,sE,sF,sG,Option.bind_some]
         repeat first|(refine wpL_p fun K hK=>?_;go_simp;refine hK _ _ ?_;clear hK K)|(apply wpL_s;(intro w2 hw2;have hk1:=hw2.cell;have hk3:=hw2.1;clear hw2;go_simp;with_reducible rfl);simp only[Act.put,sA,sB,sC])|refine wpL_yes rfl rfl ?_|(refine wpL_un rfl fun K hK=>?_;simp only[Act.put,sA,sB,sC];refine hK _ _ ?_;clear hK K)
         refine wpL_r (fun K hK=>?_)
         refine⟨.int .i64 ((fnd (ob:Int) (rdM s)).getD 0),fun w2 hw2=>?_,?_⟩
         ·have lk:=LRD.out w2 (hw2.2 m.r HRB.out)
          go_simp
         refine hK _ _ ?_
         clear hK K
         repeat first|(refine wpL_p fun K hK=>?_;go_simp;refine hK _ _ ?_;clear hK K)|(apply wpL_s;(intro w2 hw2;have hk1:=hw2.cell;have hk3:=hw2.1;clear hw2;go_simp;with_reducible rfl);simp only[Act.put,sA,sB,sC])|refine wpL_yes rfl rfl ?_|(refine wpL_no rfl rfl fun K hK=>?_;simp only[Act.put,sA,sB,sC];refine hK _ _ ?_;clear hK K)|(refine wpL_un rfl fun K hK=>?_;simp only[Act.put,sA,sB,sC];refine hK _ _ ?_;clear hK K)|refine wpL_nil ?_
         go_wp2_with fail
         refine bodyPost_ret (v:=.tuple #[.int .i64 k,.bool false]) (by simp[results,Tryz.results66,go_sem]) rfl ?_
         refine⟨?_,B13.out.drew.drew.drew⟩
         rw[←HRR.out,HE2.out,explF,if_neg HN2.out,if_neg HN0.out]
         simp only[HF.out]
         rw[HINI.out,if_neg]
         ·rfl
         ·exact fun h=>(not_or.2 ⟨HGI.out,fun h=>by have h:fromT A T i (ob:Int) go=true:=h;rw[HFR.out] at h;cases h⟩) h.2
        ·have qr:(go !=(fnd (ob:Int) (rdM s)).getD 0)=true:=by simpa using hgr
         have HGR:=hid hgr
         clear hgr
         refine wp_rN (W3.heap.size) [0,1,0,0,0,1,0,1,1,0,0,0,0,0] (.fin [0,1,2,3,4,5,6,7,8,9,10,11,12,13]) (by kernel_rfl) ?_
         simp only[wpT,selX,guardAt,sD,sE,sF,sG,Option.bind_some]
         repeat first|(refine wpL_p fun K hK=>?_;go_simp;refine hK _ _ ?_;clear hK K)|(apply wpL_s;(intro w2 hw2;have hk1:=hw2.cell;have hk3:=hw2.1;clear hw2;go_simp;with_reducible rfl);simp only[Act.put,sA,sB,sC])|refine wpL_yes rfl rfl ?_|(refine wpL_un rfl fun K hK=>?_;simp only[Act.put,sA,sB,sC];refine hK _ _ ?_;clear hK K)
         refine wpL_r (fun K hK=>?_)
         refine⟨.int .i64 ((fnd (ob:Int) (rdM s)).getD 0),fun w2 hw2=>?_,?_⟩
         ·have lk:=LRD.out w2 (hw2.2 m.r HRB.out)
          go_simp
         refine hK _ _ ?_
         clear hK K
         repeat first|(refine wpL_p fun K hK=>?_;go_simp;refine hK _ _ ?_;clear hK K)|(apply wpL_s;(intro w2 hw2;have hk1:=hw2.cell;have hk3:=hw2.1;clear hw2;go_simp;with_reducible rfl);simp only[Act.put,sA,sB,sC])|refine wpL_yes rfl rfl ?_|(refine wpL_no rfl rfl fun K hK=>?_;simp only[Act.put,sA,sB,sC];refine hK _ _ ?_;clear hK K)|(refine wpL_un rfl fun K hK=>?_;simp only[Act.put,sA,sB,sC];refine hK _ _ ?_;clear hK K)|refine wpL_nil ?_
         go_wp2_with fail
         refine bodyPost_ret (v:=.tuple #[.int .i64 k,.bool false]) (by simp[results,Tryz.results66,go_sem]) rfl ?_
         refine⟨?_,B13.out.drew.drew.drew⟩
         rw[←HRR.out,HE2.out,explF,if_neg HN2.out,if_neg HN0.out]
         simp only[HF.out]
         rw[HINI.out,if_neg]
         ·rfl
         ·exact fun h=>HGR.out h.1
      |some j0=>
       have hj0:=byF_lt hby
       obtain⟨mj,sj,g1,g2,hMj⟩:=FW.out.get hj0
       have HBM:=hid (show byM A ms (ckOf (ob:Int) go HCk.out)=some (.pointer (some ⟨mj.p,0,none⟩)) by unfold byM;rw[ckOf_1];simp only[hby,Option.bind_some,g1];rfl)
       have hfr:fromT A T i (ob:Int) go=(decide (j0≠i)&&T.getD j0 false):=by unfold fromT;rw[hby]
       have HPJ:=hid (show mj.p=m.p↔j0=i from⟨fun e=>FW.out.inj j0 i mj m g1 HM.out e,fun e=>by subst e;have:=HM.out;rw[this] at g1;rw[Option.some.inj g1]⟩)
       have rmm:=row_below HRM.out B13.out (row_lt HRM.out)
       have hrj:=hMj.row
       have HPQX:=hid (fun(X:World) (h1:X.heap[mj.p]?=W3.heap[mj.p]?) (h2:X.heap[m.p]?=W3.heap[m.p]?)=>ptr_neq (h1.trans hrj) (h2.trans rmm))
       have HLJ:=hid (row_lt hrj)
       have HLM:=hid (row_lt rmm)
       have z10:=row_cell hMj.row 10
       simp at z10
       have zl:=row_lt hMj.row
       clear hby g1 g2 hMj rmm hrj
       by_cases hgi:go=ini
       ·have qi:(go==ini)=true:=by simpa using hgi
        have HGI:=hid hgi
        clear hgi
        refine wp_rN (W3.heap.size) [0,0,0,1,0,1,0,1,0,1,0] (.fin [0,1,2,3,4,5,6,7,8,9,10]) (by kernel_rfl) ?_
        simp only[wpT,selX,guardAt,sD,sE,sF,sG]
        repeat first|(refine wpL_p fun K hK=>?_;go_simp;refine hK _ _ ?_;clear hK K)|(apply wpL_s;(intro w2 hw2;have hk1:=hw2.cell;have hk3:=hw2.1;clear hw2;go_simp;with_reducible rfl);simp only[Act.put,sA,sB,sC])
        refine wpL_r (fun K hK=>?_)
        refine⟨.pointer (some ⟨mj.p,0,none⟩),fun w2 hw2=>?_,?_⟩
        ·have lk:=LBY.out w2 (hw2.2 bB HBB.out)
         rw[HBM.out] at lk
         simp only[ckV,ckOf_1,Option.getD_some,Option.getD_none] at lk
         go_simp
        refine hK _ _ ?_
        clear hK K
        repeat first|(refine wpL_p fun K hK=>?_;go_simp;refine hK _ _ ?_;clear hK K)|refine wpL_nil ?_
        go_wp2_with fail
        refine wp_rN (W3.heap.size) [0,1,0,0,0,0,1,0,1,0,0,1,0,0,0,0,0,0,0,1,0,0,0,0,0,1,0,0,0] (.fin [0,1,2,3,4,5,6,7,8,9,10,11,12,13,14,15,16,17,18,19,20,21,22,23,24,25,26,27,28]) (by kernel_rfl) ?_
        simp only[wpT,selX,guardAt,sD,sE,sF,sG,Option.bind_some]
        repeat first|(refine wpL_p fun K hK=>?_;go_simp;refine hK _ _ ?_;clear hK K)|(apply wpL_s;(intro w2 hw2;have hk1:=hw2.cell;have hk3:=hw2.1;clear hw2;go_simp;with_reducible rfl);simp only[Act.put,sA,sB,sC])|refine wpL_yes rfl rfl ?_|(refine wpL_no rfl rfl fun K hK=>?_;simp only[Act.put,sA,sB,sC];refine hK _ _ ?_;clear hK K)|(refine wpL_un rfl fun K hK=>?_;simp only[Act.put,sA,sB,sC];refine hK _ _ ?_;clear hK K)|refine wpL_nil ?_
        go_wp2_with fail
        by_cases hgr:go=(fnd (ob:Int) (rdM s)).getD 0
        ·have qr:(go !=(fnd (ob:Int) (rdM s)).getD 0)=false:=by simpa using hgr
         have HGR:=hid hgr
         clear hgr
         refine wp_rN (W3.heap.size) [0,1,0,0,0,1,0,1,1,0,0,0,0,0] (.fin [0,1,2,3,4,5,6,7,8,9,10,11,12,13]) (by kernel_rfl) ?_
         simp only[wpT,selX,guardAt,sD,sE,sF,sG,Option.bind_some]
         repeat first|(refine wpL_p fun K hK=>?_;go_simp;refine hK _ _ ?_;clear hK K)|(apply wpL_s;(intro w2 hw2;have hk1:=hw2.cell;have hk3:=hw2.1;clear hw2;go_simp;with_reducible rfl);simp only[Act.put,sA,sB,sC])|refine wpL_yes rfl rfl ?_|(refine wpL_un rfl fun K hK=>?_;simp only[Act.put,sA,sB,sC];refine hK _ _ ?_;clear hK K)
         refine wpL_r (fun K hK=>?_)
         refine⟨.int .i64 ((fnd (ob:Int) (rdM s)).getD 0),fun w2 hw2=>?_,?_⟩
         ·have lk:=LRD.out w2 (hw2.2 m.r HRB.out)
          go_simp
         refine hK _ _ ?_
         clear hK K
         repeat first|(refine wpL_p fun K hK=>?_;go_simp;refine hK _ _ ?_;clear hK K)|(apply wpL_s;(intro w2 hw2;have hk1:=hw2.cell;have hk3:=hw2.1;clear hw2;go_simp;with_reducible rfl);simp only[Act.put,sA,sB,sC])|refine wpL_yes rfl rfl ?_|(refine wpL_no rfl rfl fun K hK=>?_;simp only[Act.put,sA,sB,sC];refine hK _ _ ?_;clear hK K)|(refine wpL_un rfl fun K hK=>?_;simp only[Act.put,sA,sB,sC];refine hK _ _ ?_;clear hK K)|refine wpL_nil ?_
         go_wp2_with fail
         go_roundw
         case rel=>
          refine⟨k+1,own,by omega,by go_num,RawM.drew (RawM.drew (RawM.drew HOw3.out)),HSo.out,?_,B13.out.drew.drew.drew,hzW⟩
          rw[HE2.out,explF,if_neg HN2.out,if_neg HN0.out]
          simp only[HF.out]
          rw[HINI.out,if_pos]
          exact⟨HGR.out,.inl HGI.out⟩
         case measure=>simp[intOf];omega
        ·have qr:(go !=(fnd (ob:Int) (rdM s)).getD 0)=true:=by simpa using hgr
         have HGR:=hid hgr
         clear hgr
         refine wp_rN (W3.heap.size) [0,1,0,0,0,1,0,1,1,0,0,0,0,0] (.fin [0,1,2,3,4,5,6,7,8,9,10,11,12,13]) (by kernel_rfl) ?_
         simp only[wpT,selX,guardAt,sD,sE,sF,sG,Option.bind_some]
         repeat first|(refine wpL_p fun K hK=>?_;go_simp;refine hK _ _ ?_;clear hK K)|(apply wpL_s;(intro w2 hw2;have hk1:=hw2.cell;have hk3:=hw2.1;clear hw2;go_simp;with_reducible rfl);simp only[Act.put,sA,sB,sC])|refine wpL_yes rfl rfl ?_|(refine wpL_un rfl fun K hK=>?_;simp only[Act.put,sA,sB,sC];refine hK _ _ ?_;clear hK K)
         refine wpL_r (fun K hK=>?_)
         refine⟨.int .i64 ((fnd (ob:Int) (rdM s)).getD 0),fun w2 hw2=>?_,?_⟩
         ·have lk:=LRD.out w2 (hw2.2 m.r HRB.out)
          go_simp
         refine hK _ _ ?_
         clear hK K
         repeat first|(refine wpL_p fun K hK=>?_;go_simp;refine hK _ _ ?_;clear hK K)|(apply wpL_s;(intro w2 hw2;have hk1:=hw2.cell;have hk3:=hw2.1;clear hw2;go_simp;with_reducible rfl);simp only[Act.put,sA,sB,sC])|refine wpL_yes rfl rfl ?_|(refine wpL_no rfl rfl fun K hK=>?_;simp only[Act.put,sA,sB,sC];refine hK _ _ ?_;clear hK K)|(refine wpL_un rfl fun K hK=>?_;simp only[Act.put,sA,sB,sC];refine hK _ _ ?_;clear hK K)|refine wpL_nil ?_
         go_wp2_with fail
         refine bodyPost_ret (v:=.tuple #[.int .i64 k,.bool false]) (by simp[results,Tryz.results66,go_sem]) rfl ?_
         refine⟨?_,B13.out.drew.drew.drew⟩
         rw[←HRR.out,HE2.out,explF,if_neg HN2.out,if_neg HN0.out]
         simp only[HF.out]
         rw[HINI.out,if_neg]
         ·rfl
         ·exact fun h=>HGR.out h.1
       ·have qi:(go==ini)=false:=by simpa using hgi
        have HGI:=hid hgi
        clear hgi
        by_cases hji:j0=i
        ·have hpe:=HPJ.out.2 hji
         have HDC:=hid (show decide (mj.p=m.p)=true by simpa using hpe)
         have HFR:=hid (show fromT A T i (ob:Int) go=false by rw[hfr];simp[hji])
         clear hpe hji hfr
         refine wp_rN (W3.heap.size) [0,0,0,1,0,1,0,1,0,1,0] (.fin [0,1,2,3,4,5,6,7,8,9,10]) (by kernel_rfl) ?_
         simp only[wpT,selX,guardAt,sD,sE,sF,sG]
         repeat first|(refine wpL_p fun K hK=>?_;go_simp;refine hK _ _ ?_;clear hK K)|(apply wpL_s;(intro w2 hw2;have hk1:=hw2.cell;have hk3:=hw2.1;clear hw2;go_simp;with_reducible rfl);simp only[Act.put,sA,sB,sC])
         refine wpL_r (fun K hK=>?_)
         refine⟨.pointer (some ⟨mj.p,0,none⟩),fun w2 hw2=>?_,?_⟩
         ·have lk:=LBY.out w2 (hw2.2 bB HBB.out)
          rw[HBM.out] at lk
          simp only[ckV,ckOf_1,Option.getD_some,Option.getD_none] at lk
          go_simp
         refine hK _ _ ?_
         clear hK K
         repeat first|(refine wpL_p fun K hK=>?_;go_simp;refine hK _ _ ?_;clear hK K)|refine wpL_nil ?_
         go_wp2_with fail
         refine wp_rN (W3.heap.size) [0,1,0,0,0,0,1,0,1,0,0,1,0,0,0,0,0,0,0,1,0,0,0,0,0,1,0,0,0] (.fin [0,1,2,3,4,5,6,7,8,9,10,11,12,13,14,15,16,17,18,19,20,21,22,23,24,25,26,27,28]) (by kernel_rfl) ?_
         simp only[wpT,selX,guardAt,sD,sE,sF,sG,Option.bind_some]
         repeat first|(refine wpL_p fun K hK=>?_;go_simp;refine hK _ _ ?_;clear hK K)|(apply wpL_s;(intro w2 hw2;have hk1:=hw2.cell;have hk3:=hw2.1;clear hw2;go_simp;with_reducible rfl);simp only[Act.put,sA,sB,sC])|refine wpL_yes rfl rfl ?_|(refine wpL_no rfl rfl fun K hK=>?_;simp only[Act.put,sA,sB,sC];refine hK _ _ ?_;clear hK K)|(refine wpL_un rfl fun K hK=>?_;simp only[Act.put,sA,sB,sC];refine hK _ _ ?_;clear hK K)|refine wpL_nil ?_
         refine wpL_r (fun K hK=>?_)
         refine⟨.bool false,fun w2 hw2=>?_,?_⟩
         ·have lk:=HPQX.out w2 (hw2.2 mj.p HLJ.out) (hw2.2 m.p HLM.out)
          rw[HDC.out] at lk
          go_simp
         refine hK _ _ ?_
         clear hK K
         repeat first|(refine wpL_p fun K hK=>?_;go_simp;refine hK _ _ ?_;clear hK K)|(apply wpL_s;(intro w2 hw2;have hk1:=hw2.cell;have hk3:=hw2.1;clear hw2;go_simp;with_reducible rfl);simp only[Act.put,sA,sB,sC])|refine wpL_yes rfl rfl ?_|(refine wpL_no rfl rfl fun K hK=>?_;simp only[Act.put,sA,sB,sC];refine hK _ _ ?_;clear hK K)|(refine wpL_un rfl fun K hK=>?_;simp only[Act.put,sA,sB,sC];refine hK _ _ ?_;clear hK K)|refine wpL_nil ?_
         go_wp2_with fail
         by_cases hgr:go=(fnd (ob:Int) (rdM s)).getD 0
         ·have qr:(go !=(fnd (ob:Int) (rdM s)).getD 0)=false:=by simpa using hgr
          have HGR:=hid hgr
          clear hgr
          refine wp_rN (W3.heap.size) [0,1,0,0,0,1,0,1,1,0,0,0,0,0] (.fin [0,1,2,3,4,5,6,7,8,9,10,11,12,13]) (by kernel_rfl) ?_
          simp only[wpT,selX,guardAt,sD,sE,sF,sG,Option.bind_some]
          repeat first|(refine wpL_p fun K hK=>?_;go_simp;refine hK _ _ ?_;clear hK K)|(apply wpL_s;(intro w2 hw2;have hk1:=hw2.cell;have hk3:=hw2.1;clear hw2;go_simp;with_reducible rfl);simp only[Act.put,sA,sB,sC])|refine wpL_yes rfl rfl ?_|(refine wpL_un rfl fun K hK=>?_;simp only[Act.put,sA,sB,sC];refine hK _ _ ?_;clear hK K)
          refine wpL_r (fun K hK=>?_)
          refine⟨.int .i64 ((fnd (ob:Int) (rdM s)).getD 0),fun w2 hw2=>?_,?_⟩
          ·have lk:=LRD.out w2 (hw2.2 m.r HRB.out)
           go_simp
          refine hK _ _ ?_
          clear hK K
          repeat first|(refine wpL_p fun K hK=>?_;go_simp;refine hK _ _ ?_;clear hK K)|(apply wpL_s;(intro w2 hw2;have hk1:=hw2.cell;have hk3:=hw2.1;clear hw2;go_simp;with_reducible rfl);simp only[Act.put,sA,sB,sC])|refine wpL_yes rfl rfl ?_|(refine wpL_no rfl rfl fun K hK=>?_;simp only[Act.put,sA,sB,sC];refine hK _ _ ?_;clear hK K)|(refine wpL_un rfl fun K hK=>?_;simp only[Act.put,sA,sB,sC];refine hK _ _ ?_;clear hK K)|refine wpL_nil ?_
          go_wp2_with fail
          refine bodyPost_ret (v:=.tuple #[.int .i64 k,.bool false]) (by simp[results,Tryz.results66,go_sem]) rfl ?_
          refine⟨?_,B13.out.drew.drew.drew⟩
          rw[←HRR.out,HE2.out,explF,if_neg HN2.out,if_neg HN0.out]
          simp only[HF.out]
          rw[HINI.out,if_neg]
          ·rfl
          ·exact fun h=>(not_or.2 ⟨HGI.out,fun h=>by have h:fromT A T i (ob:Int) go=true:=h;rw[HFR.out] at h;cases h⟩) h.2
         ·have qr:(go !=(fnd (ob:Int) (rdM s)).getD 0)=true:=by simpa using hgr
          have HGR:=hid hgr
          clear hgr
          refine wp_rN (W3.heap.size) [0,1,0,0,0,1,0,1,1,0,0,0,0,0] (.fin [0,1,2,3,4,5,6,7,8,9,10,11,12,13]) (by kernel_rfl) ?_
          simp only[wpT,selX,guardAt,sD,sE,sF,sG,Option.bind_some]
          repeat first|(refine wpL_p fun K hK=>?_;go_simp;refine hK _ _ ?_;clear hK K)|(apply wpL_s;(intro w2 hw2;have hk1:=hw2.cell;have hk3:=hw2.1;clear hw2;go_simp;with_reducible rfl);simp only[Act.put,sA,sB,sC])|refine wpL_yes rfl rfl ?_|(refine wpL_un rfl fun K hK=>?_;simp only[Act.put,sA,sB,sC];refine hK _ _ ?_;clear hK K)
          refine wpL_r (fun K hK=>?_)
          refine⟨.int .i64 ((fnd (ob:Int) (rdM s)).getD 0),fun w2 hw2=>?_,?_⟩
          ·have lk:=LRD.out w2 (hw2.2 m.r HRB.out)
           go_simp
          refine hK _ _ ?_
          clear hK K
          repeat first|(refine wpL_p fun K hK=>?_;go_simp;refine hK _ _ ?_;clear hK K)|(apply wpL_s;(intro w2 hw2;have hk1:=hw2.cell;have hk3:=hw2.1;clear hw2;go_simp;with_reducible rfl);simp only[Act.put,sA,sB,sC])|refine wpL_yes rfl rfl ?_|(refine wpL_no rfl rfl fun K hK=>?_;simp only[Act.put,sA,sB,sC];refine hK _ _ ?_;clear hK K)|(refine wpL_un rfl fun K hK=>?_;simp only[Act.put,sA,sB,sC];refine hK _ _ ?_;clear hK K)|refine wpL_nil ?_
          go_wp2_with fail
          refine bodyPost_ret (v:=.tuple #[.int .i64 k,.bool false]) (by simp[results,Tryz.results66,go_sem]) rfl ?_
          refine⟨?_,B13.out.drew.drew.drew⟩
          rw[←HRR.out,HE2.out,explF,if_neg HN2.out,if_neg HN0.out]
          simp only[HF.out]
          rw[HINI.out,if_neg]
          ·rfl
          ·exact fun h=>HGR.out h.1
        ·have hpe:¬mj.p=m.p:=fun e=>hji (HPJ.out.1 e)
         have HDC:=hid (show decide (mj.p=m.p)=false by simpa using hpe)
         obtain⟨tb,htb⟩:∃tb,T[j0]?.getD false=tb:=⟨_,rfl⟩
         rw[htb] at z10
         have HFR:=hid (show fromT A T i (ob:Int) go=tb by rw[hfr,List.getD_eq_getElem?_getD,htb];simp[hji])
         clear hpe hji hfr htb
         cases tb with
         |true=>
          refine wp_rN (W3.heap.size) [0,0,0,1,0,1,0,1,0,1,0] (.fin [0,1,2,3,4,5,6,7,8,9,10]) (by kernel_rfl) ?_
          simp only[wpT,selX,guardAt,sD,sE,sF,sG]
          repeat first|(refine wpL_p fun K hK=>?_;go_simp;refine hK _ _ ?_;clear hK K)|(apply wpL_s;(intro w2 hw2;have hk1:=hw2.cell;have hk3:=hw2.1;clear hw2;go_simp;with_reducible rfl);simp only[Act.put,sA,sB,sC])
          refine wpL_r (fun K hK=>?_)
          refine⟨.pointer (some ⟨mj.p,0,none⟩),fun w2 hw2=>?_,?_⟩
          ·have lk:=LBY.out w2 (hw2.2 bB HBB.out)
           rw[HBM.out] at lk
           simp only[ckV,ckOf_1,Option.getD_some,Option.getD_none] at lk
           go_simp
          refine hK _ _ ?_
          clear hK K
          repeat first|(refine wpL_p fun K hK=>?_;go_simp;refine hK _ _ ?_;clear hK K)|refine wpL_nil ?_
          go_wp2_with fail
          refine wp_rN (W3.heap.size) [0,1,0,0,0,0,1,0,1,0,0,1,0,0,0,0,0,0,0,1,0,0,0,0,0,1,0,0,0] (.fin [0,1,2,3,4,5,6,7,8,9,10,11,12,13,14,15,16,17,18,19,20,21,22,23,24,25,26,27,28]) (by kernel_rfl) ?_
          simp only[wpT,selX,guardAt,sD,sE,sF,sG,Option.bind_some]
          repeat first|(refine wpL_p fun K hK=>?_;go_simp;refine hK _ _ ?_;clear hK K)|(apply wpL_s;(intro w2 hw2;have hk1:=hw2.cell;have hk3:=hw2.1;clear hw2;go_simp;with_reducible rfl);simp only[Act.put,sA,sB,sC])|refine wpL_yes rfl rfl ?_|(refine wpL_no rfl rfl fun K hK=>?_;simp only[Act.put,sA,sB,sC];refine hK _ _ ?_;clear hK K)|(refine wpL_un rfl fun K hK=>?_;simp only[Act.put,sA,sB,sC];refine hK _ _ ?_;clear hK K)|refine wpL_nil ?_
          refine wpL_r (fun K hK=>?_)
          refine⟨.bool true,fun w2 hw2=>?_,?_⟩
          ·have lk:=HPQX.out w2 (hw2.2 mj.p HLJ.out) (hw2.2 m.p HLM.out)
           rw[HDC.out] at lk
           go_simp
          refine hK _ _ ?_
          clear hK K
          repeat first|(refine wpL_p fun K hK=>?_;go_simp;refine hK _ _ ?_;clear hK K)|(apply wpL_s;(intro w2 hw2;have hk1:=hw2.cell;have hk3:=hw2.1;clear hw2;go_simp;with_reducible rfl);simp only[Act.put,sA,sB,sC])|refine wpL_yes rfl rfl ?_|(refine wpL_no rfl rfl fun K hK=>?_;simp only[Act.put,sA,sB,sC];refine hK _ _ ?_;clear hK K)|(refine wpL_un rfl fun K hK=>?_;simp only[Act.put,sA,sB,sC];refine hK _ _ ?_;clear hK K)|refine wpL_nil ?_
          go_wp2_with fail
          by_cases hgr:go=(fnd (ob:Int) (rdM s)).getD 0
          ·have qr:(go !=(fnd (ob:Int) (rdM s)).getD 0)=false:=by simpa using hgr
           have HGR:=hid hgr
           clear hgr
           refine wp_rN (W3.heap.size) [0,1,0,0,0,1,0,1,1,0,0,0,0,0] (.fin [0,1,2,3,4,5,6,7,8,9,10,11,12,13]) (by kernel_rfl) ?_
           simp only[wpT,selX,guardAt,sD,sE,sF,sG,Option.bind_some]
           repeat first|(refine wpL_p fun K hK=>?_;go_simp;refine hK _ _ ?_;clear hK K)|(apply wpL_s;(intro w2 hw2;have hk1:=hw2.cell;have hk3:=hw2.1;clear hw2;go_simp;with_reducible rfl);simp only[Act.put,sA,sB,sC])|refine wpL_yes rfl rfl ?_|(refine wpL_un rfl fun K hK=>?_;simp only[Act.put,sA,sB,sC];refine hK _ _ ?_;clear hK K)
           refine wpL_r (fun K hK=>?_)
           refine⟨.int .i64 ((fnd (ob:Int) (rdM s)).getD 0),fun w2 hw2=>?_,?_⟩
           ·have lk:=LRD.out w2 (hw2.2 m.r HRB.out)
            go_simp
           refine hK _ _ ?_
           clear hK K
           repeat first|(refine wpL_p fun K hK=>?_;go_simp;refine hK _ _ ?_;clear hK K)|(apply wpL_s;(intro w2 hw2;have hk1:=hw2.cell;have hk3:=hw2.1;clear hw2;go_simp;with_reducible rfl);simp only[Act.put,sA,sB,sC])|refine wpL_yes rfl rfl ?_|(refine wpL_no rfl rfl fun K hK=>?_;simp only[Act.put,sA,sB,sC];refine hK _ _ ?_;clear hK K)|(refine wpL_un rfl fun K hK=>?_;simp only[Act.put,sA,sB,sC];refine hK _ _ ?_;clear hK K)|refine wpL_nil ?_
           go_wp2_with fail
           go_roundw
           case rel=>
            refine⟨k+1,own,by omega,by go_num,RawM.drew (RawM.drew (RawM.drew HOw3.out)),HSo.out,?_,B13.out.drew.drew.drew,hzW⟩
            rw[HE2.out,explF,if_neg HN2.out,if_neg HN0.out]
            simp only[HF.out]
            rw[HINI.out,if_pos]
            exact⟨HGR.out,.inr HFR.out⟩
           case measure=>simp[intOf];omega
          ·have qr:(go !=(fnd (ob:Int) (rdM s)).getD 0)=true:=by simpa using hgr
           have HGR:=hid hgr
           clear hgr
           refine wp_rN (W3.heap.size) [0,1,0,0,0,1,0,1,1,0,0,0,0,0] (.fin [0,1,2,3,4,5,6,7,8,9,10,11,12,13]) (by kernel_rfl) ?_
           simp only[wpT,selX,guardAt,sD,sE,sF,sG,Option.bind_some]
           repeat first|(refine wpL_p fun K hK=>?_;go_simp;refine hK _ _ ?_;clear hK K)|(apply wpL_s;(intro w2 hw2;have hk1:=hw2.cell;have hk3:=hw2.1;clear hw2;go_simp;with_reducible rfl);simp only[Act.put,sA,sB,sC])|refine wpL_yes rfl rfl ?_|(refine wpL_un rfl fun K hK=>?_;simp only[Act.put,sA,sB,sC];refine hK _ _ ?_;clear hK K)
           refine wpL_r (fun K hK=>?_)
           refine⟨.int .i64 ((fnd (ob:Int) (rdM s)).getD 0),fun w2 hw2=>?_,?_⟩
           ·have lk:=LRD.out w2 (hw2.2 m.r HRB.out)
            go_simp
           refine hK _ _ ?_
           clear hK K
           repeat first|(refine wpL_p fun K hK=>?_;go_simp;refine hK _ _ ?_;clear hK K)|(apply wpL_s;(intro w2 hw2;have hk1:=hw2.cell;have hk3:=hw2.1;clear hw2;go_simp;with_reducible rfl);simp only[Act.put,sA,sB,sC])|refine wpL_yes rfl rfl ?_|(refine wpL_no rfl rfl fun K hK=>?_;simp only[Act.put,sA,sB,sC];refine hK _ _ ?_;clear hK K)|(refine wpL_un rfl fun K hK=>?_;simp only[Act.put,sA,sB,sC];refine hK _ _ ?_;clear hK K)|refine wpL_nil ?_
           go_wp2_with fail
           refine bodyPost_ret (v:=.tuple #[.int .i64 k,.bool false]) (by simp[results,Tryz.results66,go_sem]) rfl ?_
           refine⟨?_,B13.out.drew.drew.drew⟩
           rw[←HRR.out,HE2.out,explF,if_neg HN2.out,if_neg HN0.out]
           simp only[HF.out]
           rw[HINI.out,if_neg]
           ·rfl
           ·exact fun h=>HGR.out h.1
         |false=>
          refine wp_rN (W3.heap.size) [0,0,0,1,0,1,0,1,0,1,0] (.fin [0,1,2,3,4,5,6,7,8,9,10]) (by kernel_rfl) ?_
          simp only[wpT,selX,guardAt,sD,sE,sF,sG]
          repeat first|(refine wpL_p fun K hK=>?_;go_simp;refine hK _ _ ?_;clear hK K)|(apply wpL_s;(intro w2 hw2;have hk1:=hw2.cell;have hk3:=hw2.1;clear hw2;go_simp;with_reducible rfl);simp only[Act.put,sA,sB,sC])
          refine wpL_r (fun K hK=>?_)
          refine⟨.pointer (some ⟨mj.p,0,none⟩),fun w2 hw2=>?_,?_⟩
          ·have lk:=LBY.out w2 (hw2.2 bB HBB.out)
           rw[HBM.out] at lk
           simp only[ckV,ckOf_1,Option.getD_some,Option.getD_none] at lk
           go_simp
          refine hK _ _ ?_
          clear hK K
          repeat first|(refine wpL_p fun K hK=>?_;go_simp;refine hK _ _ ?_;clear hK K)|refine wpL_nil ?_
          go_wp2_with fail
          refine wp_rN (W3.heap.size) [0,1,0,0,0,0,1,0,1,0,0,1,0,0,0,0,0,0,0,1,0,0,0,0,0,1,0,0,0] (.fin [0,1,2,3,4,5,6,7,8,9,10,11,12,13,14,15,16,17,18,19,20,21,22,23,24,25,26,27,28]) (by kernel_rfl) ?_
          simp only[wpT,selX,guardAt,sD,sE,sF,sG,Option.bind_some]
          repeat first|(refine wpL_p fun K hK=>?_;go_simp;refine hK _ _ ?_;clear hK K)|(apply wpL_s;(intro w2 hw2;have hk1:=hw2.cell;have hk3:=hw2.1;clear hw2;go_simp;with_reducible rfl);simp only[Act.put,sA,sB,sC])|refine wpL_yes rfl rfl ?_|(refine wpL_no rfl rfl fun K hK=>?_;simp only[Act.put,sA,sB,sC];refine hK _ _ ?_;clear hK K)|(refine wpL_un rfl fun K hK=>?_;simp only[Act.put,sA,sB,sC];refine hK _ _ ?_;clear hK K)|refine wpL_nil ?_
          refine wpL_r (fun K hK=>?_)
          refine⟨.bool true,fun w2 hw2=>?_,?_⟩
          ·have lk:=HPQX.out w2 (hw2.2 mj.p HLJ.out) (hw2.2 m.p HLM.out)
           rw[HDC.out] at lk
           go_simp
          refine hK _ _ ?_
          clear hK K
          repeat first|(refine wpL_p fun K hK=>?_;go_simp;refine hK _ _ ?_;clear hK K)|(apply wpL_s;(intro w2 hw2;have hk1:=hw2.cell;have hk3:=hw2.1;clear hw2;go_simp;with_reducible rfl);simp only[Act.put,sA,sB,sC])|refine wpL_yes rfl rfl ?_|(refine wpL_no rfl rfl fun K hK=>?_;simp only[Act.put,sA,sB,sC];refine hK _ _ ?_;clear hK K)|(refine wpL_un rfl fun K hK=>?_;simp only[Act.put,sA,sB,sC];refine hK _ _ ?_;clear hK K)|refine wpL_nil ?_
          go_wp2_with fail
          by_cases hgr:go=(fnd (ob:Int) (rdM s)).getD 0
          ·have qr:(go !=(fnd (ob:Int) (rdM s)).getD 0)=false:=by simpa using hgr
           have HGR:=hid hgr
           clear hgr
           refine wp_rN (W3.heap.size) [0,1,0,0,0,1,0,1,1,0,0,0,0,0] (.fin [0,1,2,3,4,5,6,7,8,9,10,11,12,13]) (by kernel_rfl) ?_
           simp only[wpT,selX,guardAt,sD,sE,sF,sG,Option.bind_some]
           repeat first|(refine wpL_p fun K hK=>?_;go_simp;refine hK _ _ ?_;clear hK K)|(apply wpL_s;(intro w2 hw2;have hk1:=hw2.cell;have hk3:=hw2.1;clear hw2;go_simp;with_reducible rfl);simp only[Act.put,sA,sB,sC])|refine wpL_yes rfl rfl ?_|(refine wpL_un rfl fun K hK=>?_;simp only[Act.put,sA,sB,sC];refine hK _ _ ?_;clear hK K)
           refine wpL_r (fun K hK=>?_)
           refine⟨.int .i64 ((fnd (ob:Int) (rdM s)).getD 0),fun w2 hw2=>?_,?_⟩
           ·have lk:=LRD.out w2 (hw2.2 m.r HRB.out)
            go_simp
           refine hK _ _ ?_
           clear hK K
           repeat first|(refine wpL_p fun K hK=>?_;go_simp;refine hK _ _ ?_;clear hK K)|(apply wpL_s;(intro w2 hw2;have hk1:=hw2.cell;have hk3:=hw2.1;clear hw2;go_simp;with_reducible rfl);simp only[Act.put,sA,sB,sC])|refine wpL_yes rfl rfl ?_|(refine wpL_no rfl rfl fun K hK=>?_;simp only[Act.put,sA,sB,sC];refine hK _ _ ?_;clear hK K)|(refine wpL_un rfl fun K hK=>?_;simp only[Act.put,sA,sB,sC];refine hK _ _ ?_;clear hK K)|refine wpL_nil ?_
           go_wp2_with fail
           refine bodyPost_ret (v:=.tuple #[.int .i64 k,.bool false]) (by simp[results,Tryz.results66,go_sem]) rfl ?_
           refine⟨?_,B13.out.drew.drew.drew⟩
           rw[←HRR.out,HE2.out,explF,if_neg HN2.out,if_neg HN0.out]
           simp only[HF.out]
           rw[HINI.out,if_neg]
           ·rfl
           ·exact fun h=>(not_or.2 ⟨HGI.out,fun h=>by have h:fromT A T i (ob:Int) go=true:=h;rw[HFR.out] at h;cases h⟩) h.2
          ·have qr:(go !=(fnd (ob:Int) (rdM s)).getD 0)=true:=by simpa using hgr
           have HGR:=hid hgr
           clear hgr
           refine wp_rN (W3.heap.size) [0,1,0,0,0,1,0,1,1,0,0,0,0,0] (.fin [0,1,2,3,4,5,6,7,8,9,10,11,12,13]) (by kernel_rfl) ?_
           simp only[wpT,selX,guardAt,sD,sE,sF,sG,Option.bind_some]
           repeat first|(refine wpL_p fun K hK=>?_;go_simp;refine hK _ _ ?_;clear hK K)|(apply wpL_s;(intro w2 hw2;have hk1:=hw2.cell;have hk3:=hw2.1;clear hw2;go_simp;with_reducible rfl);simp only[Act.put,sA,sB,sC])|refine wpL_yes rfl rfl ?_|(refine wpL_un rfl fun K hK=>?_;simp only[Act.put,sA,sB,sC];refine hK _ _ ?_;clear hK K)
           refine wpL_r (fun K hK=>?_)
           refine⟨.int .i64 ((fnd (ob:Int) (rdM s)).getD 0),fun w2 hw2=>?_,?_⟩
           ·have lk:=LRD.out w2 (hw2.2 m.r HRB.out)
            go_simp
           refine hK _ _ ?_
           clear hK K
           repeat first|(refine wpL_p fun K hK=>?_;go_simp;refine hK _ _ ?_;clear hK K)|(apply wpL_s;(intro w2 hw2;have hk1:=hw2.cell;have hk3:=hw2.1;clear hw2;go_simp;with_reducible rfl);simp only[Act.put,sA,sB,sC])|refine wpL_yes rfl rfl ?_|(refine wpL_no rfl rfl fun K hK=>?_;simp only[Act.put,sA,sB,sC];refine hK _ _ ?_;clear hK K)|(refine wpL_un rfl fun K hK=>?_;simp only[Act.put,sA,sB,sC];refine hK _ _ ?_;clear hK K)|refine wpL_nil ?_
           go_wp2_with fail
           refine bodyPost_ret (v:=.tuple #[.int .i64 k,.bool false]) (by simp[results,Tryz.results66,go_sem]) rfl ?_
           refine⟨?_,B13.out.drew.drew.drew⟩
           rw[←HRR.out,HE2.out,explF,if_neg HN2.out,if_neg HN0.out]
           simp only[HF.out]
           rw[HINI.out,if_neg]
           ·rfl
           ·exact fun h=>HGR.out h.1
  ·obtain rfl:k=ds.length:=by omega
   have hq:decide ((ds.length:Int) < (ds.length:Int))=false:=by simp
   have HND:=hid (show R=none by rw[←HRR.out,HE.out,List.drop_length];rfl)
   go_wp2_with fail
   refine bodyPost_ret (v:=.tuple #[.int .i64 0,.bool true]) (by simp[results,Tryz.results66,go_sem]) rfl ?_
   exact⟨by rw[HND.out];rfl,HB.out⟩
end
end
