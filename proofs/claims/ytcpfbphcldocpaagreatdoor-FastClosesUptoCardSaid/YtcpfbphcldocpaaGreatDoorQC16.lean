/- Parts of the proof; the first: Is each read of a transaction explained? Printed by wip/tools/genftg.py. Conditions: those of each theorem, as typed. -/
import Derived.Test.YtcpfbphcldocpaaGreatDoorQC15
import Derived.Test.YtcpfbphcldocpaaGreatDoorQC04
set_option linter.unusedVariables false
set_option linter.unusedSimpArgs false
set_option linter.unusedSectionVars false
set_option maxRecDepth 100000
set_option maxHeartbeats 4000000
namespace Go.Proofs.YtcpfbphcldocpaaGreatDoor
open Go.Maps Go.RowKit
section
attribute [local irreducible] xL
def Xz (A:Au) (T:List Bool) (i:Nat) (o v:Int):Bool:=match WV A o v with
 |some j=>decide (j≠i)&&T.getD j false
 |none=>false
def uC (w:World) (b:Nat) (own:Mi):Prop:=qL w b fun k=>(fnd k own).map (.int .i64)
theorem uC.look {w:World} {b:Nat} {own:Mi} (h:uC w b own) (a:Int):(Instr.lookup 138 (.map (some b)) (.int .i64 a) true).run Tryz.prog w=.ok (.tuple #[.int .i64 ((fnd a own).getD 0),.bool (fnd a own).isSome]) w:=by
 have:=(qL.look h Tryz.underlying3 Tryz.underlying138 (YT w) a rfl).2;cases e:fnd a own <;> rw[e] at this <;> exact this
theorem Ru {w:World} {b n:Nat} {F:MI} (h:vH w b n F) (hd:yE dI F) {a:Int} (ha:dI a):(Instr.lookup 138 (.map (some b)) (.int .i64 a) false).run Tryz.prog w=.ok (.int .i64 ((fnd a F).getD 0)) w:=by
 have:=h.look zm yK hd Tryz.underlying138 (YT w) ha;rw[this];cases fnd a F <;> rfl
theorem uC.put {w:World} {b:Nat} {own:Mi} {a v:Int} (hs:za own) (h:qL w b (UN (fun k=>(fnd k own).map (.int .i64)) a (some (.int .i64 v)))):uC w b (upd a v own):=qL.fun h fun k=>by
 by_cases e:k=a
 ·subst e;rw[ja hs,xD];rfl
 ·rw [jz hs e,qV e]
def Vm (r:Option Nat):Ending:=match r with
 |none=>.returned (.tuple #[.int .i64 0,.bool true])
 |some k=>.returned (.tuple #[.int .i64 (k:Nat),.bool false])
section
variable {w:World} {lo hi pW bB:Nat} {lev:Int} {ov vv lv:Value} {ms:List xz} {A:Au} {T:List Bool} {os:List Ob}
theorem f_expl (h:xN w lo hi pW bB lev ov vv ms lv A T) (ho:Sl w w.heap.size 2 ov os.length (os.flatMap Ob.cells)) (hvv:∃a n c,vv=.slice a n c) (hD:JE os A) {i:Nat} {m:xz} {s:St} (hm:ms[i]?=some m) (hs:A[i]?=some s) (hhi:hi<=w.heap.size):
  Calls Tryz.prog 66 #[.pointer (some ⟨pW,0,none⟩),.pointer (some ⟨m.p,0,none⟩)] w fun e w'=>e=Vm (xF (os.map (·.init)) A T i (yG s) 0 [] s.deeds)/\Below w.heap.size w w':=by
 obtain⟨ao,co,rfl,mo⟩:=ho.ex;obtain⟨av,nv,cv,rfl⟩:=hvv;have hM:=h.mv i m s hm hs;have hsm:=List.mem_of_getElem? hs;have hnd:=hD.dl s hsm;obtain⟨ad,cd,hdv⟩:=qj.sli hM.dds;have rm:=hM.row;unfold Rr at rm;rw[hdv] at rm;have HDS:=qd (show XH w lo (.slice ad s.deeds.length cd) s.deeds by rw[←hdv];exact hM.dds);have HOb:=qd (hD.obj s hsm);have HVa:=qd (hD.val s hsm);have HDo:=qd (fun(d:Dd) (hd:d ∈ s.deeds)=>hD.dobj hsm hd);have hol:=hD.ol;have HDR:=qd (zo (g:=Dd.got) (X:=xt [] s.deeds) (M:=[]) (fun _ h=>by cases h) fun x hx=>hD.dobj hsm (jp hx).1:yE dI (yG s));have HS:=qd hs;have HH:=qd h;have HM:=qd hm;have HO:=qd ho;have HRM:=qd rm;have hmm:=@run_makeMap Tryz.prog;obtain⟨ds,hds⟩:∃ds,s.deeds=ds:=⟨_,rfl⟩
 rw[hds] at HDS HOb HVa HDo HRM hnd ⊢;obtain⟨R,hR⟩:∃R,xF (os.map (·.init)) A T i (yG s) 0 [] ds=R:=⟨_,rfl⟩
 rw[hR];have HRR:=qd hR;have y:=qa HRM.o 6;simp at y;have yl:=qe HRM.o;clear hM hsm hdv rm h hm ho hD hs hds hR mo;go_enter Tryz.func66,Tryz.ntmps66;go_wp2_with fail;have B0:=qd (show Below w.heap.size w (w.alloc (.map #[] 0)) from(Below.refl _ w).alloc (Nat.le_refl _) _);have O0:=qd (show uC (w.alloc (.map #[] 0)) w.heap.size [] from qL.fun (qL.made (heap_alloc_new w _)) fun k=>rfl);have hz0:w.heap.size < (w.alloc (.map #[] 0)).heap.size:=by simp
 generalize w.alloc (.map #[] 0)=W at *;clear y
 go_loopw [20] (fun q wr=>∃(k:Nat) (own:Mi),k<=ds.length/\q=.int .i64 k/\uC wr w.heap.size own/\za own/\xF (os.map (·.init)) A T i (yG s) 0 [] ds=xF (os.map (·.init)) A T i (yG s) k own (ds.drop k)/\Below w.heap.size w wr/\w.heap.size < wr.heap.size) (fun q _=>ds.length - (intOf q).toNat)
 case atStart=>exact⟨0,[],by omega,by go_num,O0.o,List.Pairwise.nil,rfl,B0.o,hz0⟩
 case round=>
  obtain⟨k,own,hk,rfl,hO,hso,hE,hB,hzw⟩:=hrel;have HOw:=qd hO;have HSo:=qd hso;have HE:=qd hE;have HB:=qd hB;clear hO hso hE hB O0 B0 hz0 W;by_cases hlt:k < ds.length
  ·obtain ⟨b,off,d,rfl,hb,hdk,hc⟩:=(qj.sl HDS.o).atF Dd.len rfl hlt
   have HDK:=qd (show ds.drop k=d::ds.drop (k+1) from List.drop_eq_getElem?_toList_append▸by rw[hdk];rfl);have hdm:=List.mem_of_getElem? hdk;have hob:=HOb.o d hdm;have hva:=HVa.o d hdm;have hdo:=HDo.o d hdm;obtain⟨ob',op,ke,va,re,go,at_,ba⟩:=d;obtain⟨ob,rfl⟩:∃ob:Nat,ob'=(ob:Int):=⟨ob'.toNat,by have:=hob.1;simp only at this;omega⟩
   have hobl:ob < os.length:=by have:=hob.2;simp only at this;omega
   have HCk:=qd (⟨hdo,hva.2⟩:dI (ob:Int)/\dI go);have HDO:=qd hdo;have c0:wr.cell? ⟨b,off+k*8,none⟩=some (.int .i64 (ob:Int)):=qp HB.o hb (hc 0 (by decide));have c1:wr.cell? ⟨b,off+k*8+1,none⟩=some (.int .i64 op):=qp HB.o hb (hc 1 (by decide));have c2:wr.cell? ⟨b,off+k*8+2,none⟩=some (.int .i64 ke):=qp HB.o hb (hc 2 (by decide));have c3:wr.cell? ⟨b,off+k*8+3,none⟩=some (.int .i64 va):=qp HB.o hb (hc 3 (by decide));have c4:wr.cell? ⟨b,off+k*8+4,none⟩=some (.int .i64 re):=qp HB.o hb (hc 4 (by decide));have c5:wr.cell? ⟨b,off+k*8+5,none⟩=some (.int .i64 go):=qp HB.o hb (hc 5 (by decide));have c6:wr.cell? ⟨b,off+k*8+6,none⟩=some (.int .i64 at_):=qp HB.o hb (hc 6 (by decide));have c7:wr.cell? ⟨b,off+k*8+7,none⟩=some (.int .i64 ba):=qp HB.o hb (hc 7 (by decide));have hbw:b < wr.heap.size:=by omega
   have HE2:=qd (HE.o.trans (congrArg (xF (os.map (·.init)) A T i (yG s) k own) HDK.o));clear hc hdk hdm hob hva hdo;by_cases h2:op=2
   ·subst h2
    have B3:=qd (show Below wr.heap.size wr (wr.alloc (.cells #[.int .i64 (ob:Int),.int .i64 2,.int .i64 ke,.int .i64 va,.int .i64 re,.int .i64 go,.int .i64 at_,.int .i64 ba] 112)) from(Below.refl _ wr).alloc (Nat.le_refl _) _);have r3:=qs wr (.cells #[.int .i64 (ob:Int),.int .i64 2,.int .i64 ke,.int .i64 va,.int .i64 re,.int .i64 go,.int .i64 at_,.int .i64 ba] 112);have HOw3:=qd (show uC (wr.alloc (.cells #[.int .i64 (ob:Int),.int .i64 2,.int .i64 ke,.int .i64 va,.int .i64 re,.int .i64 go,.int .i64 at_,.int .i64 ba] 112)) w.heap.size own from qL.obj HOw.o (B3.o.block _ hzw));have R3:=qd r3;clear r3;go_wp2_with (at_mapUpdate;refine qH.halt ?_)
    generalize wr.alloc (.cells #[.int .i64 (ob:Int),.int .i64 2,.int .i64 ke,.int .i64 va,.int .i64 re,.int .i64 go,.int .i64 at_,.int .i64 ba] 112)=W3 at *;refine qH.go ?_;refine qL.wpList_store HOw3.o Tryz.underlying3 Tryz.underlying138 (a:=(ob:Int)) (v:=.int .i64 va) rfl (.inl rfl) (by rfl) (by rfl) (by rfl) ?_;intro w6 h6 t6;have O6:=qd (uC.put HSo.o h6);have B6:=qd ((HB.o.trans (B3.o.mono (by omega))).trans (Below.turned t6 (Nat.le_refl _)));have z6:=qP t6;have hz6:w.heap.size < w6.heap.size:=by have:=B3.o.size;omega
    clear h6 t6;go_wp2_with fail;go_roundw
    case rel=>exact⟨k+1,_,by omega,by go_num,O6.o,zG HSo.o,by rw[HE2.o,xF,if_pos rfl],B6.o,hz6⟩
    case measure=>simp[intOf];omega
   ·have q2:(op==2)=false:=by simpa using h2
    have HN2:=qd h2;clear h2;by_cases h0:re=0
    ·subst h0
     have B3:=qd (show Below wr.heap.size wr (wr.alloc (.cells #[.int .i64 (ob:Int),.int .i64 op,.int .i64 ke,.int .i64 va,.int .i64 0,.int .i64 go,.int .i64 at_,.int .i64 ba] 112)) from(Below.refl _ wr).alloc (Nat.le_refl _) _);have r3:=qs wr (.cells #[.int .i64 (ob:Int),.int .i64 op,.int .i64 ke,.int .i64 va,.int .i64 0,.int .i64 go,.int .i64 at_,.int .i64 ba] 112);have HOw3:=qd (show uC (wr.alloc (.cells #[.int .i64 (ob:Int),.int .i64 op,.int .i64 ke,.int .i64 va,.int .i64 0,.int .i64 go,.int .i64 at_,.int .i64 ba] 112)) w.heap.size own from qL.obj HOw.o (B3.o.block _ hzw));have R3:=qd r3;clear r3;go_wp2_with fail;generalize wr.alloc (.cells #[.int .i64 (ob:Int),.int .i64 op,.int .i64 ke,.int .i64 va,.int .i64 0,.int .i64 go,.int .i64 at_,.int .i64 ba] 112)=W3 at *;go_roundw
     case rel=>exact⟨k+1,own,by omega,by go_num,HOw3.o,HSo.o,by rw[HE2.o,xF,if_neg HN2.o,if_pos rfl],(HB.o.trans (B3.o.mono (by omega))),by have:=B3.o.size;omega⟩
     case measure=>simp[intOf];omega
    ·have q0:(re==0)=false:=by simpa using h0
     have HN0:=qd h0;clear h0;have B3:=qd (show Below wr.heap.size wr (wr.alloc (.cells #[.int .i64 (ob:Int),.int .i64 op,.int .i64 ke,.int .i64 va,.int .i64 re,.int .i64 go,.int .i64 at_,.int .i64 ba] 112)) from(Below.refl _ wr).alloc (Nat.le_refl _) _);have r3:=qs wr (.cells #[.int .i64 (ob:Int),.int .i64 op,.int .i64 ke,.int .i64 va,.int .i64 re,.int .i64 go,.int .i64 at_,.int .i64 ba] 112);have HOw3:=qd (show uC (wr.alloc (.cells #[.int .i64 (ob:Int),.int .i64 op,.int .i64 ke,.int .i64 va,.int .i64 re,.int .i64 go,.int .i64 at_,.int .i64 ba] 112)) w.heap.size own from qL.obj HOw.o (B3.o.block _ hzw));have R3:=qd r3;clear r3;have lk:=HOw3.o.look (ob:Int);cases hf:fnd (ob:Int) own with
     |some v=>
      rw[hf] at lk;simp only[Option.getD_some,Option.isSome_some] at lk;have HF:=qd hf;clear hf;by_cases hg:go=v
      ·subst hg
       go_wp2_with fail;generalize wr.alloc (.cells #[.int .i64 (ob:Int),.int .i64 op,.int .i64 ke,.int .i64 va,.int .i64 re,.int .i64 go,.int .i64 at_,.int .i64 ba] 112)=W3 at *;go_roundw
       case rel=>exact⟨k+1,own,by omega,by go_num,HOw3.o,HSo.o,by rw[HE2.o,xF,if_neg HN2.o,if_neg HN0.o];simp only[HF.o];rw[if_pos trivial],(HB.o.trans (B3.o.mono (by omega))),by have:=B3.o.size;omega⟩
       case measure=>simp[intOf];omega
      ·have qg:(go !=v)=true:=by simpa using hg
       have HG:=qd hg;clear hg;go_wp2_with fail;refine bodyPost_ret (v:=.tuple #[.int .i64 k,.bool false]) (by simp[results,Tryz.results66,go_sem]) rfl ?_;refine⟨?_,HB.o.trans (B3.o.mono (by omega))⟩;rw[←HRR.o,HE2.o,xF,if_neg HN2.o,if_neg HN0.o];simp only[HF.o];rw[if_neg HG.o];rfl
     |none=>
      rw[hf] at lk;simp only[Option.getD_none,Option.isSome_none] at lk;have HF:=qd hf;clear hf;go_wp2_with fail;have B13:=qd (show Below w.heap.size w (wr.alloc (.cells #[.int .i64 (ob:Int),.int .i64 op,.int .i64 ke,.int .i64 va,.int .i64 re,.int .i64 go,.int .i64 at_,.int .i64 ba] 112)) from HB.o.trans (B3.o.mono (by omega)));obtain⟨bo,offo,o,hqo,hbo,hoo,hco⟩:=(HO.o.below B13.o).atF Ob.len rfl hobl;subst hqo;obtain⟨kd,ini⟩:=o;have x1:(wr.alloc (.cells #[.int .i64 (ob:Int),.int .i64 op,.int .i64 ke,.int .i64 va,.int .i64 re,.int .i64 go,.int .i64 at_,.int .i64 ba] 112)).cell? ⟨bo,offo+ob*2+1,none⟩=some (.int .i64 ini):=hco 1 (by decide);have HINI:=qd (show(os.map (·.init)).getD ((ob:Int).toNat) 0=ini by rw[List.getD_eq_getElem?_getD,Int.toNat_natCast,List.getElem?_map,hoo];rfl);have X1:=qd x1;have HBO:=qd hbo;have FW:=qd (HH.o.below B13.o hhi (Nat.le_refl _));have hz3:=B3.o.size;have hz3':wr.heap.size < (wr.alloc (.cells #[.int .i64 (ob:Int),.int .i64 op,.int .i64 ke,.int .i64 va,.int .i64 re,.int .i64 go,.int .i64 at_,.int .i64 ba] 112)).heap.size:=qe R3.o;clear hco hoo x1 lk;generalize wr.alloc (.cells #[.int .i64 (ob:Int),.int .i64 op,.int .i64 ke,.int .i64 va,.int .i64 re,.int .i64 go,.int .i64 at_,.int .i64 ba] 112)=W3 at *;have rq:=FW.o.row;have yq:=qa rq;have yq0:=yq 0;have yq4:=yq 4;simp at yq0 yq4;have yql:=qe rq;have rm3:=qh HRM.o B13.o (qe HRM.o);have ym7:=qa rm3 7;simp at ym7;have yml:=qe rm3;have yd:=qa R3.o;have yd0:=yd 0;have yd5:=yd 5;simp at yd0 yd5;have ydl:=qe R3.o;have x1:=X1.o;have xol:bo < W3.heap.size:=by have:=HBO.o;have:=B13.o.size;omega
      have hmr:=(FW.o.mv i m s HM.o HS.o).b;have HRB:=qd (show m.r < W3.heap.size by have:=B13.o.size;omega);have HBB:=qd (show bB < W3.heap.size by have:=FW.o.pB;have:=B13.o.size;omega);have LRD:=qd (fun(X:World) (hX:X.heap[m.r]?=W3.heap[m.r]?)=>Ru ((FW.o.mv i m s HM.o HS.o).rd.obj hX) HDR.o HDO.o);have LBY:=qd (fun(X:World) (hX:X.heap[bB]?=W3.heap[bB]?)=>((FW.o.by_.obj hX).look ck Tryz.underlying135 (Mt X) (YH (ob:Int) go HCk.o) rfl).1);have hzW:w.heap.size < W3.heap.size:=by omega
      clear yq rq rm3 yd;cases hby:WV A (ob:Int) go with
      |none=>
       have HBM:=qd (show Jz A ms (YH (ob:Int) go HCk.o)=none by unfold Jz;rw[jv];simp only[hby,Option.bind_none]);have HFR:=qd (show Xz A T i (ob:Int) go=false by unfold Xz;rw[hby]);clear hby;by_cases hgi:go=ini
       ·have qi:(go==ini)=true:=by simpa using hgi
        have HGI:=qd hgi;clear hgi;refine qD (W3.heap.size) [0,0,0,1,0,1,0,1,0,1,0] (.fin [0,1,2,3,4,5,6,7,8,9,10]) (by kernel_rfl) ?_;simp only[xC,qJ,qu,sD,sE,sF,sG]
        repeat first|(refine qq fun K hK=>?_;go_simp;refine hK _ _ ?_;clear hK K)|(apply qx;(intro w2 hw2;have hk1:=hw2.cell;have hk3:=hw2.1;clear hw2;go_simp;with_reducible rfl);simp only[Act.put,sA,sB,sC])
        refine xO (fun K hK=>?_);refine⟨.pointer none,fun w2 hw2=>?_,?_⟩
        ·have lk:=LBY.o w2 (hw2.2 bB HBB.o)
         rw[HBM.o] at lk;simp only[YG,jv,Option.getD_some,Option.getD_none] at lk;go_simp
        refine hK _ _ ?_;clear hK K
        repeat first|(refine qq fun K hK=>?_;go_simp;refine hK _ _ ?_;clear hK K)|refine qm ?_
        go_wp2_with fail;refine qD (W3.heap.size) [0,1,0,0,0,0,1,0,1,0,0,1,0,0,0,0,0,0,0,1,0,0,0,0,0,1,0,0,0] (.fin [0,1,2,3,4,5,6,7,8,9,10,11,12,13,14,15,16,17,18,19,20,21,22,23,24,25,26,27,28]) (by kernel_rfl) ?_;simp only[xC,qJ,qu,sD,sE,sF,sG,Option.bind_some]
        repeat first|(refine qq fun K hK=>?_;go_simp;refine hK _ _ ?_;clear hK K)|(apply qx;(intro w2 hw2;have hk1:=hw2.cell;have hk3:=hw2.1;clear hw2;go_simp;with_reducible rfl);simp only[Act.put,sA,sB,sC])|refine qz rfl rfl ?_|(refine qE rfl rfl fun K hK=>?_;simp only[Act.put,sA,sB,sC];refine hK _ _ ?_;clear hK K)|(refine qQ rfl fun K hK=>?_;simp only[Act.put,sA,sB,sC];refine hK _ _ ?_;clear hK K)|refine qm ?_
        go_wp2_with fail;by_cases hgr:go=(fnd (ob:Int) (yG s)).getD 0
        ·have qr:(go !=(fnd (ob:Int) (yG s)).getD 0)=false:=by simpa using hgr
         have HGR:=qd hgr;clear hgr;refine qD (W3.heap.size) [0,1,0,0,0,1,0,1,1,0,0,0,0,0] (.fin [0,1,2,3,4,5,6,7,8,9,10,11,12,13]) (by kernel_rfl) ?_;simp only[xC,qJ,qu,sD,sE,sF,sG,Option.bind_some]
         repeat first|(refine qq fun K hK=>?_;go_simp;refine hK _ _ ?_;clear hK K)|(apply qx;(intro w2 hw2;have hk1:=hw2.cell;have hk3:=hw2.1;clear hw2;go_simp;with_reducible rfl);simp only[Act.put,sA,sB,sC])|refine qz rfl rfl ?_|(refine qQ rfl fun K hK=>?_;simp only[Act.put,sA,sB,sC];refine hK _ _ ?_;clear hK K)
         refine xO (fun K hK=>?_);refine⟨.int .i64 ((fnd (ob:Int) (yG s)).getD 0),fun w2 hw2=>?_,?_⟩
         ·have lk:=LRD.o w2 (hw2.2 m.r HRB.o)
          go_simp
         refine hK _ _ ?_;clear hK K
         repeat first|(refine qq fun K hK=>?_;go_simp;refine hK _ _ ?_;clear hK K)|(apply qx;(intro w2 hw2;have hk1:=hw2.cell;have hk3:=hw2.1;clear hw2;go_simp;with_reducible rfl);simp only[Act.put,sA,sB,sC])|refine qz rfl rfl ?_|(refine qE rfl rfl fun K hK=>?_;simp only[Act.put,sA,sB,sC];refine hK _ _ ?_;clear hK K)|(refine qQ rfl fun K hK=>?_;simp only[Act.put,sA,sB,sC];refine hK _ _ ?_;clear hK K)|refine qm ?_
         go_wp2_with fail;go_roundw
         case rel=>
          refine⟨k+1,own,by omega,by go_num,qL.drew (qL.drew (qL.drew HOw3.o)),HSo.o,?_,B13.o.drew.drew.drew,hzW⟩;rw[HE2.o,xF,if_neg HN2.o,if_neg HN0.o];simp only[HF.o];rw[HINI.o,if_pos];exact⟨HGR.o,.inl HGI.o⟩
         case measure=>simp[intOf];omega
        ·have qr:(go !=(fnd (ob:Int) (yG s)).getD 0)=true:=by simpa using hgr
         have HGR:=qd hgr;clear hgr;refine qD (W3.heap.size) [0,1,0,0,0,1,0,1,1,0,0,0,0,0] (.fin [0,1,2,3,4,5,6,7,8,9,10,11,12,13]) (by kernel_rfl) ?_;simp only[xC,qJ,qu,sD,sE,sF,sG,Option.bind_some]
         repeat first|(refine qq fun K hK=>?_;go_simp;refine hK _ _ ?_;clear hK K)|(apply qx;(intro w2 hw2;have hk1:=hw2.cell;have hk3:=hw2.1;clear hw2;go_simp;with_reducible rfl);simp only[Act.put,sA,sB,sC])|refine qz rfl rfl ?_|(refine qQ rfl fun K hK=>?_;simp only[Act.put,sA,sB,sC];refine hK _ _ ?_;clear hK K)
         refine xO (fun K hK=>?_);refine⟨.int .i64 ((fnd (ob:Int) (yG s)).getD 0),fun w2 hw2=>?_,?_⟩
         ·have lk:=LRD.o w2 (hw2.2 m.r HRB.o)
          go_simp
         refine hK _ _ ?_;clear hK K
         repeat first|(refine qq fun K hK=>?_;go_simp;refine hK _ _ ?_;clear hK K)|(apply qx;(intro w2 hw2;have hk1:=hw2.cell;have hk3:=hw2.1;clear hw2;go_simp;with_reducible rfl);simp only[Act.put,sA,sB,sC])|refine qz rfl rfl ?_|(refine qE rfl rfl fun K hK=>?_;simp only[Act.put,sA,sB,sC];refine hK _ _ ?_;clear hK K)|(refine qQ rfl fun K hK=>?_;simp only[Act.put,sA,sB,sC];refine hK _ _ ?_;clear hK K)|refine qm ?_
         go_wp2_with fail;refine bodyPost_ret (v:=.tuple #[.int .i64 k,.bool false]) (by simp[results,Tryz.results66,go_sem]) rfl ?_;refine⟨?_,B13.o.drew.drew.drew⟩;rw[←HRR.o,HE2.o,xF,if_neg HN2.o,if_neg HN0.o];simp only[HF.o];rw[HINI.o,if_neg]
         ·rfl
         ·exact fun h=>HGR.o h.1
       ·have qi:(go==ini)=false:=by simpa using hgi
        have HGI:=qd hgi;clear hgi;refine qD (W3.heap.size) [0,0,0,1,0,1,0,1,0,1,0] (.fin [0,1,2,3,4,5,6,7,8,9,10]) (by kernel_rfl) ?_;simp only[xC,qJ,qu,sD,sE,sF,sG]
        repeat first|(refine qq fun K hK=>?_;go_simp;refine hK _ _ ?_;clear hK K)|(apply qx;(intro w2 hw2;have hk1:=hw2.cell;have hk3:=hw2.1;clear hw2;go_simp;with_reducible rfl);simp only[Act.put,sA,sB,sC])
        refine xO (fun K hK=>?_);refine⟨.pointer none,fun w2 hw2=>?_,?_⟩
        ·have lk:=LBY.o w2 (hw2.2 bB HBB.o)
         rw[HBM.o] at lk;simp only[YG,jv,Option.getD_some,Option.getD_none] at lk;go_simp
        refine hK _ _ ?_;clear hK K
        repeat first|(refine qq fun K hK=>?_;go_simp;refine hK _ _ ?_;clear hK K)|refine qm ?_
        go_wp2_with fail;refine qD (W3.heap.size) [0,1,0,0,0,0,1,0,1,0,0,1,0,0,0,0,0,0,0,1,0,0,0,0,0,1,0,0,0] (.fin [0,1,2,3,4,5,6,7,8,9,10,11,12,13,14,15,16,17,18,19,20,21,22,23,24,25,26,27,28]) (by kernel_rfl) ?_;simp only[xC,qJ,qu,sD,sE,sF,sG,Option.bind_some]
        repeat first|(refine qq fun K hK=>?_;go_simp;refine hK _ _ ?_;clear hK K)|(apply qx;(intro w2 hw2;have hk1:=hw2.cell;have hk3:=hw2.1;clear hw2;go_simp;with_reducible rfl);simp only[Act.put,sA,sB,sC])|refine qz rfl rfl ?_|(refine qE rfl rfl fun K hK=>?_;simp only[Act.put,sA,sB,sC];refine hK _ _ ?_;clear hK K)|(refine qQ rfl fun K hK=>?_;simp only[Act.put,sA,sB,sC];refine hK _ _ ?_;clear hK K)|refine qm ?_
        go_wp2_with fail;by_cases hgr:go=(fnd (ob:Int) (yG s)).getD 0
        ·have qr:(go !=(fnd (ob:Int) (yG s)).getD 0)=false:=by simpa using hgr
         have HGR:=qd hgr;clear hgr;refine qD (W3.heap.size) [0,1,0,0,0,1,0,1,1,0,0,0,0,0] (.fin [0,1,2,3,4,5,6,7,8,9,10,11,12,13]) (by kernel_rfl) ?_;simp only[xC,qJ,qu,sD,sE,sF,sG,Option.bind_some]
         repeat first|(refine qq fun K hK=>?_;go_simp;refine hK _ _ ?_;clear hK K)|(apply qx;(intro w2 hw2;have hk1:=hw2.cell;have hk3:=hw2.1;clear hw2;go_simp;with_reducible rfl);simp only[Act.put,sA,sB,sC])|refine qz rfl rfl ?_|(refine qQ rfl fun K hK=>?_;simp only[Act.put,sA,sB,sC];refine hK _ _ ?_;clear hK K)
         refine xO (fun K hK=>?_);refine⟨.int .i64 ((fnd (ob:Int) (yG s)).getD 0),fun w2 hw2=>?_,?_⟩
         ·have lk:=LRD.o w2 (hw2.2 m.r HRB.o)
          go_simp
         refine hK _ _ ?_;clear hK K
         repeat first|(refine qq fun K hK=>?_;go_simp;refine hK _ _ ?_;clear hK K)|(apply qx;(intro w2 hw2;have hk1:=hw2.cell;have hk3:=hw2.1;clear hw2;go_simp;with_reducible rfl);simp only[Act.put,sA,sB,sC])|refine qz rfl rfl ?_|(refine qE rfl rfl fun K hK=>?_;simp only[Act.put,sA,sB,sC];refine hK _ _ ?_;clear hK K)|(refine qQ rfl fun K hK=>?_;simp only[Act.put,sA,sB,sC];refine hK _ _ ?_;clear hK K)|refine qm ?_
         go_wp2_with fail;refine bodyPost_ret (v:=.tuple #[.int .i64 k,.bool false]) (by simp[results,Tryz.results66,go_sem]) rfl ?_;refine⟨?_,B13.o.drew.drew.drew⟩;rw[←HRR.o,HE2.o,xF,if_neg HN2.o,if_neg HN0.o];simp only[HF.o];rw[HINI.o,if_neg]
         ·rfl
         ·exact fun h=>(not_or.2 ⟨HGI.o,fun h=>by have h:Xz A T i (ob:Int) go=true:=h;rw[HFR.o] at h;cases h⟩) h.2
        ·have qr:(go !=(fnd (ob:Int) (yG s)).getD 0)=true:=by simpa using hgr
         have HGR:=qd hgr;clear hgr;refine qD (W3.heap.size) [0,1,0,0,0,1,0,1,1,0,0,0,0,0] (.fin [0,1,2,3,4,5,6,7,8,9,10,11,12,13]) (by kernel_rfl) ?_;simp only[xC,qJ,qu,sD,sE,sF,sG,Option.bind_some]
         repeat first|(refine qq fun K hK=>?_;go_simp;refine hK _ _ ?_;clear hK K)|(apply qx;(intro w2 hw2;have hk1:=hw2.cell;have hk3:=hw2.1;clear hw2;go_simp;with_reducible rfl);simp only[Act.put,sA,sB,sC])|refine qz rfl rfl ?_|(refine qQ rfl fun K hK=>?_;simp only[Act.put,sA,sB,sC];refine hK _ _ ?_;clear hK K)
         refine xO (fun K hK=>?_);refine⟨.int .i64 ((fnd (ob:Int) (yG s)).getD 0),fun w2 hw2=>?_,?_⟩
         ·have lk:=LRD.o w2 (hw2.2 m.r HRB.o)
          go_simp
         refine hK _ _ ?_;clear hK K
         repeat first|(refine qq fun K hK=>?_;go_simp;refine hK _ _ ?_;clear hK K)|(apply qx;(intro w2 hw2;have hk1:=hw2.cell;have hk3:=hw2.1;clear hw2;go_simp;with_reducible rfl);simp only[Act.put,sA,sB,sC])|refine qz rfl rfl ?_|(refine qE rfl rfl fun K hK=>?_;simp only[Act.put,sA,sB,sC];refine hK _ _ ?_;clear hK K)|(refine qQ rfl fun K hK=>?_;simp only[Act.put,sA,sB,sC];refine hK _ _ ?_;clear hK K)|refine qm ?_
         go_wp2_with fail;refine bodyPost_ret (v:=.tuple #[.int .i64 k,.bool false]) (by simp[results,Tryz.results66,go_sem]) rfl ?_;refine⟨?_,B13.o.drew.drew.drew⟩;rw[←HRR.o,HE2.o,xF,if_neg HN2.o,if_neg HN0.o];simp only[HF.o];rw[HINI.o,if_neg]
         ·rfl
         ·exact fun h=>HGR.o h.1
      |some j0=>
       have hj0:=Vs hby;obtain⟨mj,sj,g1,g2,hMj⟩:=FW.o.get hj0;have HBM:=qd (show Jz A ms (YH (ob:Int) go HCk.o)=some (.pointer (some ⟨mj.p,0,none⟩)) by unfold Jz;rw[jv];simp only[hby,Option.bind_some,g1];rfl);have hfr:Xz A T i (ob:Int) go=(decide (j0≠i)&&T.getD j0 false):=by unfold Xz;rw[hby]
       have HPJ:=qd (show mj.p=m.p↔j0=i from⟨fun e=>FW.o.inj j0 i mj m g1 HM.o e,fun e=>by subst e;have:=HM.o;rw[this] at g1;rw[Option.some.inj g1]⟩);have rmm:=qh HRM.o B13.o (qe HRM.o);have hrj:=hMj.row;have HPQX:=qd (fun(X:World) (h1:X.heap[mj.p]?=W3.heap[mj.p]?) (h2:X.heap[m.p]?=W3.heap[m.p]?)=>YM (h1.trans hrj) (h2.trans rmm));have HLJ:=qd (qe hrj);have HLM:=qd (qe rmm);have z10:=qa hMj.row 10;simp at z10;have zl:=qe hMj.row;clear hby g1 g2 hMj rmm hrj;by_cases hgi:go=ini
       ·have qi:(go==ini)=true:=by simpa using hgi
        have HGI:=qd hgi;clear hgi;refine qD (W3.heap.size) [0,0,0,1,0,1,0,1,0,1,0] (.fin [0,1,2,3,4,5,6,7,8,9,10]) (by kernel_rfl) ?_;simp only[xC,qJ,qu,sD,sE,sF,sG]
        repeat first|(refine qq fun K hK=>?_;go_simp;refine hK _ _ ?_;clear hK K)|(apply qx;(intro w2 hw2;have hk1:=hw2.cell;have hk3:=hw2.1;clear hw2;go_simp;with_reducible rfl);simp only[Act.put,sA,sB,sC])
        refine xO (fun K hK=>?_);refine⟨.pointer (some ⟨mj.p,0,none⟩),fun w2 hw2=>?_,?_⟩
        ·have lk:=LBY.o w2 (hw2.2 bB HBB.o)
         rw[HBM.o] at lk;simp only[YG,jv,Option.getD_some,Option.getD_none] at lk;go_simp
        refine hK _ _ ?_;clear hK K
        repeat first|(refine qq fun K hK=>?_;go_simp;refine hK _ _ ?_;clear hK K)|refine qm ?_
        go_wp2_with fail;refine qD (W3.heap.size) [0,1,0,0,0,0,1,0,1,0,0,1,0,0,0,0,0,0,0,1,0,0,0,0,0,1,0,0,0] (.fin [0,1,2,3,4,5,6,7,8,9,10,11,12,13,14,15,16,17,18,19,20,21,22,23,24,25,26,27,28]) (by kernel_rfl) ?_;simp only[xC,qJ,qu,sD,sE,sF,sG,Option.bind_some]
        repeat first|(refine qq fun K hK=>?_;go_simp;refine hK _ _ ?_;clear hK K)|(apply qx;(intro w2 hw2;have hk1:=hw2.cell;have hk3:=hw2.1;clear hw2;go_simp;with_reducible rfl);simp only[Act.put,sA,sB,sC])|refine qz rfl rfl ?_|(refine qE rfl rfl fun K hK=>?_;simp only[Act.put,sA,sB,sC];refine hK _ _ ?_;clear hK K)|(refine qQ rfl fun K hK=>?_;simp only[Act.put,sA,sB,sC];refine hK _ _ ?_;clear hK K)|refine qm ?_
        go_wp2_with fail;by_cases hgr:go=(fnd (ob:Int) (yG s)).getD 0
        ·have qr:(go !=(fnd (ob:Int) (yG s)).getD 0)=false:=by simpa using hgr
         have HGR:=qd hgr;clear hgr;refine qD (W3.heap.size) [0,1,0,0,0,1,0,1,1,0,0,0,0,0] (.fin [0,1,2,3,4,5,6,7,8,9,10,11,12,13]) (by kernel_rfl) ?_;simp only[xC,qJ,qu,sD,sE,sF,sG,Option.bind_some]
         repeat first|(refine qq fun K hK=>?_;go_simp;refine hK _ _ ?_;clear hK K)|(apply qx;(intro w2 hw2;have hk1:=hw2.cell;have hk3:=hw2.1;clear hw2;go_simp;with_reducible rfl);simp only[Act.put,sA,sB,sC])|refine qz rfl rfl ?_|(refine qQ rfl fun K hK=>?_;simp only[Act.put,sA,sB,sC];refine hK _ _ ?_;clear hK K)
         refine xO (fun K hK=>?_);refine⟨.int .i64 ((fnd (ob:Int) (yG s)).getD 0),fun w2 hw2=>?_,?_⟩
         ·have lk:=LRD.o w2 (hw2.2 m.r HRB.o)
          go_simp
         refine hK _ _ ?_;clear hK K
         repeat first|(refine qq fun K hK=>?_;go_simp;refine hK _ _ ?_;clear hK K)|(apply qx;(intro w2 hw2;have hk1:=hw2.cell;have hk3:=hw2.1;clear hw2;go_simp;with_reducible rfl);simp only[Act.put,sA,sB,sC])|refine qz rfl rfl ?_|(refine qE rfl rfl fun K hK=>?_;simp only[Act.put,sA,sB,sC];refine hK _ _ ?_;clear hK K)|(refine qQ rfl fun K hK=>?_;simp only[Act.put,sA,sB,sC];refine hK _ _ ?_;clear hK K)|refine qm ?_
         go_wp2_with fail;go_roundw
         case rel=>
          refine⟨k+1,own,by omega,by go_num,qL.drew (qL.drew (qL.drew HOw3.o)),HSo.o,?_,B13.o.drew.drew.drew,hzW⟩;rw[HE2.o,xF,if_neg HN2.o,if_neg HN0.o];simp only[HF.o];rw[HINI.o,if_pos];exact⟨HGR.o,.inl HGI.o⟩
         case measure=>simp[intOf];omega
        ·have qr:(go !=(fnd (ob:Int) (yG s)).getD 0)=true:=by simpa using hgr
         have HGR:=qd hgr;clear hgr;refine qD (W3.heap.size) [0,1,0,0,0,1,0,1,1,0,0,0,0,0] (.fin [0,1,2,3,4,5,6,7,8,9,10,11,12,13]) (by kernel_rfl) ?_;simp only[xC,qJ,qu,sD,sE,sF,sG,Option.bind_some]
         repeat first|(refine qq fun K hK=>?_;go_simp;refine hK _ _ ?_;clear hK K)|(apply qx;(intro w2 hw2;have hk1:=hw2.cell;have hk3:=hw2.1;clear hw2;go_simp;with_reducible rfl);simp only[Act.put,sA,sB,sC])|refine qz rfl rfl ?_|(refine qQ rfl fun K hK=>?_;simp only[Act.put,sA,sB,sC];refine hK _ _ ?_;clear hK K)
         refine xO (fun K hK=>?_);refine⟨.int .i64 ((fnd (ob:Int) (yG s)).getD 0),fun w2 hw2=>?_,?_⟩
         ·have lk:=LRD.o w2 (hw2.2 m.r HRB.o)
          go_simp
         refine hK _ _ ?_;clear hK K
         repeat first|(refine qq fun K hK=>?_;go_simp;refine hK _ _ ?_;clear hK K)|(apply qx;(intro w2 hw2;have hk1:=hw2.cell;have hk3:=hw2.1;clear hw2;go_simp;with_reducible rfl);simp only[Act.put,sA,sB,sC])|refine qz rfl rfl ?_|(refine qE rfl rfl fun K hK=>?_;simp only[Act.put,sA,sB,sC];refine hK _ _ ?_;clear hK K)|(refine qQ rfl fun K hK=>?_;simp only[Act.put,sA,sB,sC];refine hK _ _ ?_;clear hK K)|refine qm ?_
         go_wp2_with fail;refine bodyPost_ret (v:=.tuple #[.int .i64 k,.bool false]) (by simp[results,Tryz.results66,go_sem]) rfl ?_;refine⟨?_,B13.o.drew.drew.drew⟩;rw[←HRR.o,HE2.o,xF,if_neg HN2.o,if_neg HN0.o];simp only[HF.o];rw[HINI.o,if_neg]
         ·rfl
         ·exact fun h=>HGR.o h.1
       ·have qi:(go==ini)=false:=by simpa using hgi
        have HGI:=qd hgi;clear hgi;by_cases hji:j0=i
        ·have hpe:=HPJ.o.2 hji
         have HDC:=qd (show decide (mj.p=m.p)=true by simpa using hpe);have HFR:=qd (show Xz A T i (ob:Int) go=false by rw[hfr];simp[hji]);clear hpe hji hfr;refine qD (W3.heap.size) [0,0,0,1,0,1,0,1,0,1,0] (.fin [0,1,2,3,4,5,6,7,8,9,10]) (by kernel_rfl) ?_;simp only[xC,qJ,qu,sD,sE,sF,sG]
         repeat first|(refine qq fun K hK=>?_;go_simp;refine hK _ _ ?_;clear hK K)|(apply qx;(intro w2 hw2;have hk1:=hw2.cell;have hk3:=hw2.1;clear hw2;go_simp;with_reducible rfl);simp only[Act.put,sA,sB,sC])
         refine xO (fun K hK=>?_);refine⟨.pointer (some ⟨mj.p,0,none⟩),fun w2 hw2=>?_,?_⟩
         ·have lk:=LBY.o w2 (hw2.2 bB HBB.o)
          rw[HBM.o] at lk;simp only[YG,jv,Option.getD_some,Option.getD_none] at lk;go_simp
         refine hK _ _ ?_;clear hK K
         repeat first|(refine qq fun K hK=>?_;go_simp;refine hK _ _ ?_;clear hK K)|refine qm ?_
         go_wp2_with fail;refine qD (W3.heap.size) [0,1,0,0,0,0,1,0,1,0,0,1,0,0,0,0,0,0,0,1,0,0,0,0,0,1,0,0,0] (.fin [0,1,2,3,4,5,6,7,8,9,10,11,12,13,14,15,16,17,18,19,20,21,22,23,24,25,26,27,28]) (by kernel_rfl) ?_;simp only[xC,qJ,qu,sD,sE,sF,sG,Option.bind_some]
         repeat first|(refine qq fun K hK=>?_;go_simp;refine hK _ _ ?_;clear hK K)|(apply qx;(intro w2 hw2;have hk1:=hw2.cell;have hk3:=hw2.1;clear hw2;go_simp;with_reducible rfl);simp only[Act.put,sA,sB,sC])|refine qz rfl rfl ?_|(refine qE rfl rfl fun K hK=>?_;simp only[Act.put,sA,sB,sC];refine hK _ _ ?_;clear hK K)|(refine qQ rfl fun K hK=>?_;simp only[Act.put,sA,sB,sC];refine hK _ _ ?_;clear hK K)|refine qm ?_
         refine xO (fun K hK=>?_);refine⟨.bool false,fun w2 hw2=>?_,?_⟩
         ·have lk:=HPQX.o w2 (hw2.2 mj.p HLJ.o) (hw2.2 m.p HLM.o)
          rw[HDC.o] at lk;go_simp
         refine hK _ _ ?_;clear hK K
         repeat first|(refine qq fun K hK=>?_;go_simp;refine hK _ _ ?_;clear hK K)|(apply qx;(intro w2 hw2;have hk1:=hw2.cell;have hk3:=hw2.1;clear hw2;go_simp;with_reducible rfl);simp only[Act.put,sA,sB,sC])|refine qz rfl rfl ?_|(refine qE rfl rfl fun K hK=>?_;simp only[Act.put,sA,sB,sC];refine hK _ _ ?_;clear hK K)|(refine qQ rfl fun K hK=>?_;simp only[Act.put,sA,sB,sC];refine hK _ _ ?_;clear hK K)|refine qm ?_
         go_wp2_with fail;by_cases hgr:go=(fnd (ob:Int) (yG s)).getD 0
         ·have qr:(go !=(fnd (ob:Int) (yG s)).getD 0)=false:=by simpa using hgr
          have HGR:=qd hgr;clear hgr;refine qD (W3.heap.size) [0,1,0,0,0,1,0,1,1,0,0,0,0,0] (.fin [0,1,2,3,4,5,6,7,8,9,10,11,12,13]) (by kernel_rfl) ?_;simp only[xC,qJ,qu,sD,sE,sF,sG,Option.bind_some]
          repeat first|(refine qq fun K hK=>?_;go_simp;refine hK _ _ ?_;clear hK K)|(apply qx;(intro w2 hw2;have hk1:=hw2.cell;have hk3:=hw2.1;clear hw2;go_simp;with_reducible rfl);simp only[Act.put,sA,sB,sC])|refine qz rfl rfl ?_|(refine qQ rfl fun K hK=>?_;simp only[Act.put,sA,sB,sC];refine hK _ _ ?_;clear hK K)
          refine xO (fun K hK=>?_);refine⟨.int .i64 ((fnd (ob:Int) (yG s)).getD 0),fun w2 hw2=>?_,?_⟩
          ·have lk:=LRD.o w2 (hw2.2 m.r HRB.o)
           go_simp
          refine hK _ _ ?_;clear hK K
          repeat first|(refine qq fun K hK=>?_;go_simp;refine hK _ _ ?_;clear hK K)|(apply qx;(intro w2 hw2;have hk1:=hw2.cell;have hk3:=hw2.1;clear hw2;go_simp;with_reducible rfl);simp only[Act.put,sA,sB,sC])|refine qz rfl rfl ?_|(refine qE rfl rfl fun K hK=>?_;simp only[Act.put,sA,sB,sC];refine hK _ _ ?_;clear hK K)|(refine qQ rfl fun K hK=>?_;simp only[Act.put,sA,sB,sC];refine hK _ _ ?_;clear hK K)|refine qm ?_
          go_wp2_with fail;refine bodyPost_ret (v:=.tuple #[.int .i64 k,.bool false]) (by simp[results,Tryz.results66,go_sem]) rfl ?_;refine⟨?_,B13.o.drew.drew.drew⟩;rw[←HRR.o,HE2.o,xF,if_neg HN2.o,if_neg HN0.o];simp only[HF.o];rw[HINI.o,if_neg]
          ·rfl
          ·exact fun h=>(not_or.2 ⟨HGI.o,fun h=>by have h:Xz A T i (ob:Int) go=true:=h;rw[HFR.o] at h;cases h⟩) h.2
         ·have qr:(go !=(fnd (ob:Int) (yG s)).getD 0)=true:=by simpa using hgr
          have HGR:=qd hgr;clear hgr;refine qD (W3.heap.size) [0,1,0,0,0,1,0,1,1,0,0,0,0,0] (.fin [0,1,2,3,4,5,6,7,8,9,10,11,12,13]) (by kernel_rfl) ?_;simp only[xC,qJ,qu,sD,sE,sF,sG,Option.bind_some]
          repeat first|(refine qq fun K hK=>?_;go_simp;refine hK _ _ ?_;clear hK K)|(apply qx;(intro w2 hw2;have hk1:=hw2.cell;have hk3:=hw2.1;clear hw2;go_simp;with_reducible rfl);simp only[Act.put,sA,sB,sC])|refine qz rfl rfl ?_|(refine qQ rfl fun K hK=>?_;simp only[Act.put,sA,sB,sC];refine hK _ _ ?_;clear hK K)
          refine xO (fun K hK=>?_);refine⟨.int .i64 ((fnd (ob:Int) (yG s)).getD 0),fun w2 hw2=>?_,?_⟩
          ·have lk:=LRD.o w2 (hw2.2 m.r HRB.o)
           go_simp
          refine hK _ _ ?_;clear hK K
          repeat first|(refine qq fun K hK=>?_;go_simp;refine hK _ _ ?_;clear hK K)|(apply qx;(intro w2 hw2;have hk1:=hw2.cell;have hk3:=hw2.1;clear hw2;go_simp;with_reducible rfl);simp only[Act.put,sA,sB,sC])|refine qz rfl rfl ?_|(refine qE rfl rfl fun K hK=>?_;simp only[Act.put,sA,sB,sC];refine hK _ _ ?_;clear hK K)|(refine qQ rfl fun K hK=>?_;simp only[Act.put,sA,sB,sC];refine hK _ _ ?_;clear hK K)|refine qm ?_
          go_wp2_with fail;refine bodyPost_ret (v:=.tuple #[.int .i64 k,.bool false]) (by simp[results,Tryz.results66,go_sem]) rfl ?_;refine⟨?_,B13.o.drew.drew.drew⟩;rw[←HRR.o,HE2.o,xF,if_neg HN2.o,if_neg HN0.o];simp only[HF.o];rw[HINI.o,if_neg]
          ·rfl
          ·exact fun h=>HGR.o h.1
        ·have hpe:¬mj.p=m.p:=fun e=>hji (HPJ.o.1 e)
         have HDC:=qd (show decide (mj.p=m.p)=false by simpa using hpe);obtain⟨tb,htb⟩:∃tb,T[j0]?.getD false=tb:=⟨_,rfl⟩
         rw[htb] at z10;have HFR:=qd (show Xz A T i (ob:Int) go=tb by rw[hfr,List.getD_eq_getElem?_getD,htb];simp[hji]);clear hpe hji hfr htb;cases tb with
         |true=>
          refine qD (W3.heap.size) [0,0,0,1,0,1,0,1,0,1,0] (.fin [0,1,2,3,4,5,6,7,8,9,10]) (by kernel_rfl) ?_;simp only[xC,qJ,qu,sD,sE,sF,sG]
          repeat first|(refine qq fun K hK=>?_;go_simp;refine hK _ _ ?_;clear hK K)|(apply qx;(intro w2 hw2;have hk1:=hw2.cell;have hk3:=hw2.1;clear hw2;go_simp;with_reducible rfl);simp only[Act.put,sA,sB,sC])
          refine xO (fun K hK=>?_);refine⟨.pointer (some ⟨mj.p,0,none⟩),fun w2 hw2=>?_,?_⟩
          ·have lk:=LBY.o w2 (hw2.2 bB HBB.o)
           rw[HBM.o] at lk;simp only[YG,jv,Option.getD_some,Option.getD_none] at lk;go_simp
          refine hK _ _ ?_;clear hK K
          repeat first|(refine qq fun K hK=>?_;go_simp;refine hK _ _ ?_;clear hK K)|refine qm ?_
          go_wp2_with fail;refine qD (W3.heap.size) [0,1,0,0,0,0,1,0,1,0,0,1,0,0,0,0,0,0,0,1,0,0,0,0,0,1,0,0,0] (.fin [0,1,2,3,4,5,6,7,8,9,10,11,12,13,14,15,16,17,18,19,20,21,22,23,24,25,26,27,28]) (by kernel_rfl) ?_;simp only[xC,qJ,qu,sD,sE,sF,sG,Option.bind_some]
          repeat first|(refine qq fun K hK=>?_;go_simp;refine hK _ _ ?_;clear hK K)|(apply qx;(intro w2 hw2;have hk1:=hw2.cell;have hk3:=hw2.1;clear hw2;go_simp;with_reducible rfl);simp only[Act.put,sA,sB,sC])|refine qz rfl rfl ?_|(refine qE rfl rfl fun K hK=>?_;simp only[Act.put,sA,sB,sC];refine hK _ _ ?_;clear hK K)|(refine qQ rfl fun K hK=>?_;simp only[Act.put,sA,sB,sC];refine hK _ _ ?_;clear hK K)|refine qm ?_
          refine xO (fun K hK=>?_);refine⟨.bool true,fun w2 hw2=>?_,?_⟩
          ·have lk:=HPQX.o w2 (hw2.2 mj.p HLJ.o) (hw2.2 m.p HLM.o)
           rw[HDC.o] at lk;go_simp
          refine hK _ _ ?_;clear hK K
          repeat first|(refine qq fun K hK=>?_;go_simp;refine hK _ _ ?_;clear hK K)|(apply qx;(intro w2 hw2;have hk1:=hw2.cell;have hk3:=hw2.1;clear hw2;go_simp;with_reducible rfl);simp only[Act.put,sA,sB,sC])|refine qz rfl rfl ?_|(refine qE rfl rfl fun K hK=>?_;simp only[Act.put,sA,sB,sC];refine hK _ _ ?_;clear hK K)|(refine qQ rfl fun K hK=>?_;simp only[Act.put,sA,sB,sC];refine hK _ _ ?_;clear hK K)|refine qm ?_
          go_wp2_with fail;by_cases hgr:go=(fnd (ob:Int) (yG s)).getD 0
          ·have qr:(go !=(fnd (ob:Int) (yG s)).getD 0)=false:=by simpa using hgr
           have HGR:=qd hgr;clear hgr;refine qD (W3.heap.size) [0,1,0,0,0,1,0,1,1,0,0,0,0,0] (.fin [0,1,2,3,4,5,6,7,8,9,10,11,12,13]) (by kernel_rfl) ?_;simp only[xC,qJ,qu,sD,sE,sF,sG,Option.bind_some]
           repeat first|(refine qq fun K hK=>?_;go_simp;refine hK _ _ ?_;clear hK K)|(apply qx;(intro w2 hw2;have hk1:=hw2.cell;have hk3:=hw2.1;clear hw2;go_simp;with_reducible rfl);simp only[Act.put,sA,sB,sC])|refine qz rfl rfl ?_|(refine qQ rfl fun K hK=>?_;simp only[Act.put,sA,sB,sC];refine hK _ _ ?_;clear hK K)
           refine xO (fun K hK=>?_);refine⟨.int .i64 ((fnd (ob:Int) (yG s)).getD 0),fun w2 hw2=>?_,?_⟩
           ·have lk:=LRD.o w2 (hw2.2 m.r HRB.o)
            go_simp
           refine hK _ _ ?_;clear hK K
           repeat first|(refine qq fun K hK=>?_;go_simp;refine hK _ _ ?_;clear hK K)|(apply qx;(intro w2 hw2;have hk1:=hw2.cell;have hk3:=hw2.1;clear hw2;go_simp;with_reducible rfl);simp only[Act.put,sA,sB,sC])|refine qz rfl rfl ?_|(refine qE rfl rfl fun K hK=>?_;simp only[Act.put,sA,sB,sC];refine hK _ _ ?_;clear hK K)|(refine qQ rfl fun K hK=>?_;simp only[Act.put,sA,sB,sC];refine hK _ _ ?_;clear hK K)|refine qm ?_
           go_wp2_with fail;go_roundw
           case rel=>
            refine⟨k+1,own,by omega,by go_num,qL.drew (qL.drew (qL.drew HOw3.o)),HSo.o,?_,B13.o.drew.drew.drew,hzW⟩;rw[HE2.o,xF,if_neg HN2.o,if_neg HN0.o];simp only[HF.o];rw[HINI.o,if_pos];exact⟨HGR.o,.inr HFR.o⟩
           case measure=>simp[intOf];omega
          ·have qr:(go !=(fnd (ob:Int) (yG s)).getD 0)=true:=by simpa using hgr
           have HGR:=qd hgr;clear hgr;refine qD (W3.heap.size) [0,1,0,0,0,1,0,1,1,0,0,0,0,0] (.fin [0,1,2,3,4,5,6,7,8,9,10,11,12,13]) (by kernel_rfl) ?_;simp only[xC,qJ,qu,sD,sE,sF,sG,Option.bind_some]
           repeat first|(refine qq fun K hK=>?_;go_simp;refine hK _ _ ?_;clear hK K)|(apply qx;(intro w2 hw2;have hk1:=hw2.cell;have hk3:=hw2.1;clear hw2;go_simp;with_reducible rfl);simp only[Act.put,sA,sB,sC])|refine qz rfl rfl ?_|(refine qQ rfl fun K hK=>?_;simp only[Act.put,sA,sB,sC];refine hK _ _ ?_;clear hK K)
           refine xO (fun K hK=>?_);refine⟨.int .i64 ((fnd (ob:Int) (yG s)).getD 0),fun w2 hw2=>?_,?_⟩
           ·have lk:=LRD.o w2 (hw2.2 m.r HRB.o)
            go_simp
           refine hK _ _ ?_;clear hK K
           repeat first|(refine qq fun K hK=>?_;go_simp;refine hK _ _ ?_;clear hK K)|(apply qx;(intro w2 hw2;have hk1:=hw2.cell;have hk3:=hw2.1;clear hw2;go_simp;with_reducible rfl);simp only[Act.put,sA,sB,sC])|refine qz rfl rfl ?_|(refine qE rfl rfl fun K hK=>?_;simp only[Act.put,sA,sB,sC];refine hK _ _ ?_;clear hK K)|(refine qQ rfl fun K hK=>?_;simp only[Act.put,sA,sB,sC];refine hK _ _ ?_;clear hK K)|refine qm ?_
           go_wp2_with fail;refine bodyPost_ret (v:=.tuple #[.int .i64 k,.bool false]) (by simp[results,Tryz.results66,go_sem]) rfl ?_;refine⟨?_,B13.o.drew.drew.drew⟩;rw[←HRR.o,HE2.o,xF,if_neg HN2.o,if_neg HN0.o];simp only[HF.o];rw[HINI.o,if_neg]
           ·rfl
           ·exact fun h=>HGR.o h.1
         |false=>
          refine qD (W3.heap.size) [0,0,0,1,0,1,0,1,0,1,0] (.fin [0,1,2,3,4,5,6,7,8,9,10]) (by kernel_rfl) ?_;simp only[xC,qJ,qu,sD,sE,sF,sG]
          repeat first|(refine qq fun K hK=>?_;go_simp;refine hK _ _ ?_;clear hK K)|(apply qx;(intro w2 hw2;have hk1:=hw2.cell;have hk3:=hw2.1;clear hw2;go_simp;with_reducible rfl);simp only[Act.put,sA,sB,sC])
          refine xO (fun K hK=>?_);refine⟨.pointer (some ⟨mj.p,0,none⟩),fun w2 hw2=>?_,?_⟩
          ·have lk:=LBY.o w2 (hw2.2 bB HBB.o)
           rw[HBM.o] at lk;simp only[YG,jv,Option.getD_some,Option.getD_none] at lk;go_simp
          refine hK _ _ ?_;clear hK K
          repeat first|(refine qq fun K hK=>?_;go_simp;refine hK _ _ ?_;clear hK K)|refine qm ?_
          go_wp2_with fail;refine qD (W3.heap.size) [0,1,0,0,0,0,1,0,1,0,0,1,0,0,0,0,0,0,0,1,0,0,0,0,0,1,0,0,0] (.fin [0,1,2,3,4,5,6,7,8,9,10,11,12,13,14,15,16,17,18,19,20,21,22,23,24,25,26,27,28]) (by kernel_rfl) ?_;simp only[xC,qJ,qu,sD,sE,sF,sG,Option.bind_some]
          repeat first|(refine qq fun K hK=>?_;go_simp;refine hK _ _ ?_;clear hK K)|(apply qx;(intro w2 hw2;have hk1:=hw2.cell;have hk3:=hw2.1;clear hw2;go_simp;with_reducible rfl);simp only[Act.put,sA,sB,sC])|refine qz rfl rfl ?_|(refine qE rfl rfl fun K hK=>?_;simp only[Act.put,sA,sB,sC];refine hK _ _ ?_;clear hK K)|(refine qQ rfl fun K hK=>?_;simp only[Act.put,sA,sB,sC];refine hK _ _ ?_;clear hK K)|refine qm ?_
          refine xO (fun K hK=>?_);refine⟨.bool true,fun w2 hw2=>?_,?_⟩
          ·have lk:=HPQX.o w2 (hw2.2 mj.p HLJ.o) (hw2.2 m.p HLM.o)
           rw[HDC.o] at lk;go_simp
          refine hK _ _ ?_;clear hK K
          repeat first|(refine qq fun K hK=>?_;go_simp;refine hK _ _ ?_;clear hK K)|(apply qx;(intro w2 hw2;have hk1:=hw2.cell;have hk3:=hw2.1;clear hw2;go_simp;with_reducible rfl);simp only[Act.put,sA,sB,sC])|refine qz rfl rfl ?_|(refine qE rfl rfl fun K hK=>?_;simp only[Act.put,sA,sB,sC];refine hK _ _ ?_;clear hK K)|(refine qQ rfl fun K hK=>?_;simp only[Act.put,sA,sB,sC];refine hK _ _ ?_;clear hK K)|refine qm ?_
          go_wp2_with fail;by_cases hgr:go=(fnd (ob:Int) (yG s)).getD 0
          ·have qr:(go !=(fnd (ob:Int) (yG s)).getD 0)=false:=by simpa using hgr
           have HGR:=qd hgr;clear hgr;refine qD (W3.heap.size) [0,1,0,0,0,1,0,1,1,0,0,0,0,0] (.fin [0,1,2,3,4,5,6,7,8,9,10,11,12,13]) (by kernel_rfl) ?_;simp only[xC,qJ,qu,sD,sE,sF,sG,Option.bind_some]
           repeat first|(refine qq fun K hK=>?_;go_simp;refine hK _ _ ?_;clear hK K)|(apply qx;(intro w2 hw2;have hk1:=hw2.cell;have hk3:=hw2.1;clear hw2;go_simp;with_reducible rfl);simp only[Act.put,sA,sB,sC])|refine qz rfl rfl ?_|(refine qQ rfl fun K hK=>?_;simp only[Act.put,sA,sB,sC];refine hK _ _ ?_;clear hK K)
           refine xO (fun K hK=>?_);refine⟨.int .i64 ((fnd (ob:Int) (yG s)).getD 0),fun w2 hw2=>?_,?_⟩
           ·have lk:=LRD.o w2 (hw2.2 m.r HRB.o)
            go_simp
           refine hK _ _ ?_;clear hK K
           repeat first|(refine qq fun K hK=>?_;go_simp;refine hK _ _ ?_;clear hK K)|(apply qx;(intro w2 hw2;have hk1:=hw2.cell;have hk3:=hw2.1;clear hw2;go_simp;with_reducible rfl);simp only[Act.put,sA,sB,sC])|refine qz rfl rfl ?_|(refine qE rfl rfl fun K hK=>?_;simp only[Act.put,sA,sB,sC];refine hK _ _ ?_;clear hK K)|(refine qQ rfl fun K hK=>?_;simp only[Act.put,sA,sB,sC];refine hK _ _ ?_;clear hK K)|refine qm ?_
           go_wp2_with fail;refine bodyPost_ret (v:=.tuple #[.int .i64 k,.bool false]) (by simp[results,Tryz.results66,go_sem]) rfl ?_;refine⟨?_,B13.o.drew.drew.drew⟩;rw[←HRR.o,HE2.o,xF,if_neg HN2.o,if_neg HN0.o];simp only[HF.o];rw[HINI.o,if_neg]
           ·rfl
           ·exact fun h=>(not_or.2 ⟨HGI.o,fun h=>by have h:Xz A T i (ob:Int) go=true:=h;rw[HFR.o] at h;cases h⟩) h.2
          ·have qr:(go !=(fnd (ob:Int) (yG s)).getD 0)=true:=by simpa using hgr
           have HGR:=qd hgr;clear hgr;refine qD (W3.heap.size) [0,1,0,0,0,1,0,1,1,0,0,0,0,0] (.fin [0,1,2,3,4,5,6,7,8,9,10,11,12,13]) (by kernel_rfl) ?_;simp only[xC,qJ,qu,sD,sE,sF,sG,Option.bind_some]
           repeat first|(refine qq fun K hK=>?_;go_simp;refine hK _ _ ?_;clear hK K)|(apply qx;(intro w2 hw2;have hk1:=hw2.cell;have hk3:=hw2.1;clear hw2;go_simp;with_reducible rfl);simp only[Act.put,sA,sB,sC])|refine qz rfl rfl ?_|(refine qQ rfl fun K hK=>?_;simp only[Act.put,sA,sB,sC];refine hK _ _ ?_;clear hK K)
           refine xO (fun K hK=>?_);refine⟨.int .i64 ((fnd (ob:Int) (yG s)).getD 0),fun w2 hw2=>?_,?_⟩
           ·have lk:=LRD.o w2 (hw2.2 m.r HRB.o)
            go_simp
           refine hK _ _ ?_;clear hK K
           repeat first|(refine qq fun K hK=>?_;go_simp;refine hK _ _ ?_;clear hK K)|(apply qx;(intro w2 hw2;have hk1:=hw2.cell;have hk3:=hw2.1;clear hw2;go_simp;with_reducible rfl);simp only[Act.put,sA,sB,sC])|refine qz rfl rfl ?_|(refine qE rfl rfl fun K hK=>?_;simp only[Act.put,sA,sB,sC];refine hK _ _ ?_;clear hK K)|(refine qQ rfl fun K hK=>?_;simp only[Act.put,sA,sB,sC];refine hK _ _ ?_;clear hK K)|refine qm ?_
           go_wp2_with fail;refine bodyPost_ret (v:=.tuple #[.int .i64 k,.bool false]) (by simp[results,Tryz.results66,go_sem]) rfl ?_;refine⟨?_,B13.o.drew.drew.drew⟩;rw[←HRR.o,HE2.o,xF,if_neg HN2.o,if_neg HN0.o];simp only[HF.o];rw[HINI.o,if_neg]
           ·rfl
           ·exact fun h=>HGR.o h.1
  ·obtain rfl:k=ds.length:=by omega
   have hq:decide ((ds.length:Int) < (ds.length:Int))=false:=by simp
   have HND:=qd (show R=none by rw[←HRR.o,HE.o,List.drop_length];rfl);go_wp2_with fail;refine bodyPost_ret (v:=.tuple #[.int .i64 0,.bool true]) (by simp[results,Tryz.results66,go_sem]) rfl ?_;exact⟨by rw[HND.o];rfl,HB.o⟩
end
end
abbrev Pr:=Int×Int
def Rl (x y:Pr):Prop:=x.1 < y.1\/(x.1=y.1/\x.2 < y.2)
instance (x y:Pr):Decidable (Rl x y):=inferInstanceAs (Decidable (_\/_))
def Vw (l:List Pr):Prop:=l.Pairwise Rl
def jJ (l:List Int):Prop:=l.Pairwise (· < ·)
theorem Zl (x:Pr):¬Rl x x:=by unfold Rl;omega
theorem JX {x y z:Pr} (h:Rl x y) (k:Rl y z):Rl x z:=by unfold Rl at *;omega
theorem Nx {x y:Pr} (h:x≠y):Rl x y\/Rl y x:=by
 unfold Rl;have:x.1≠y.1\/x.2≠y.2:=by
  rcases Int.lt_trichotomy x.1 y.1 with h1|h1|h1
  ·exact .inl (by omega)
  ·refine .inr fun h2=>h (Prod.ext h1 h2)
  ·exact .inl (by omega)
 omega
theorem Zf {α:Type} {r:α->α->Prop} (hi:∀x,¬r x x) (ht:∀{x y z},r x y->r y z->r x z):∀{l l':List α},l.Pairwise r->l'.Pairwise r->(∀x,x ∈ l↔x ∈ l')->l=l'
 |[],[],_,_,_=>rfl
 |[],y::l',_,_,h=>absurd ((h y).2 (by simp)) (by simp)
 |x::l,[],_,_,h=>absurd ((h x).1 (by simp)) (by simp)
 |x::l,y::l',h1,h2,h=>by
  obtain⟨a1,a2⟩:=List.pairwise_cons.1 h1;obtain⟨b1,b2⟩:=List.pairwise_cons.1 h2;have e:x=y:=by
   rcases List.mem_cons.1 ((h x).1 (by simp)) with e|e
   ·exact e
   ·rcases List.mem_cons.1 ((h y).2 (by simp)) with e'|e'
    ·exact e'.symm
    ·exact absurd (ht (a1 y e') (b1 x e)) (hi x)
  subst e;have:l=l':=Zf hi ht a2 b2 fun z=>by
   constructor
   ·intro hz
    rcases List.mem_cons.1 ((h z).1 (by simp[hz])) with e|e
    ·subst e;exact absurd (a1 z hz) (hi z)
    ·exact e
   ·intro hz
    rcases List.mem_cons.1 ((h z).2 (by simp[hz])) with e|e
    ·subst e;exact absurd (b1 z hz) (hi z)
    ·exact e
  rw[this]
theorem Vw.ext {l l':List Pr} (h1:Vw l) (h2:Vw l') (h:∀x,x ∈ l↔x ∈ l'):l=l':=Zf Zl JX h1 h2 h
theorem jJ.ext {l l':List Int} (h1:jJ l) (h2:jJ l') (h:∀x,x ∈ l↔x ∈ l'):l=l':=Zf (fun _=>Int.lt_irrefl _) Int.lt_trans h1 h2 h
theorem jJ.nodup {l:List Int} (h:jJ l):l.Nodup:=h.imp (fun h=>by omega)
theorem Vw.nodup {l:List Pr} (h:Vw l):l.Nodup:=h.imp (fun {a b} (h:Rl a b) (e:a=b)=>Zl b (by rw[e] at h;exact h))
def yL (n:Int):List Int->List Int
 |[]=>[n]
 |y::r=>if y=n then y::r else if n < y then n::y::r else y::yL n r
theorem qY {n x:Int}:∀{l:List Int},x ∈ yL n l↔x=n\/x ∈ l
 |[]=>by simp[yL]
 |y::r=>by
  unfold yL
  split
  ·rename_i h;subst h;simp
  ·split
   ·simp
   ·simp [qY (l:=r)]
    constructor
    ·rintro (h|h|h) <;> simp[h]
    ·rintro (h|h|h) <;> simp[h]
theorem jE {n:Int}:∀{l:List Int},jJ l->jJ (yL n l)
 |[],_=>by simp[yL,jJ]
 |y::r,h=>by
  obtain⟨h1,h2⟩:=List.pairwise_cons.1 h;unfold yL
  split
  ·exact h
  ·split
   ·rename_i h3
    refine List.pairwise_cons.2 ⟨fun z hz=>?_,h⟩;rcases List.mem_cons.1 hz with rfl|hz
    ·exact h3
    ·have:=h1 z hz;omega
   ·refine List.pairwise_cons.2 ⟨fun z hz=>?_,jE h2⟩
    rcases qY.1 hz with rfl|hz
    ·omega
    ·exact h1 z hz
theorem Ys {n:Int} {l:List Int} (h:jJ l) (hm:n ∈ l):yL n l=l:=(jE h).ext h fun x=>by rw[qY];constructor;(rintro(rfl|h) <;> assumption);exact .inr
theorem zg {n:Int}:∀{l:List Int},(yL n l).length<=l.length+1
 |[]=>by simp[yL]
 |y::r=>by
  unfold yL;have:=zg (n:=n) (l:=r)
  split
  ·simp
  ·split <;> simp <;> omega
def vD (p:Pr):List Pr->List Pr
 |[]=>[p]
 |y::r=>if y=p then y::r else if Rl p y then p::y::r else y::vD p r
theorem uM {p x:Pr}:∀{l:List Pr},x ∈ vD p l↔x=p\/x ∈ l
 |[]=>by simp[vD]
 |y::r=>by
  unfold vD
  split
  ·rename_i h;subst h;simp
  ·split
   ·simp
   ·simp only[List.mem_cons,uM (l:=r)]
    constructor
    ·rintro (h|h|h) <;> simp[h]
    ·rintro (h|h|h) <;> simp[h]
theorem vM {p:Pr}:∀{l:List Pr},Vw l->Vw (vD p l)
 |[],_=>by simp[vD,Vw]
 |y::r,h=>by
  obtain⟨h1,h2⟩:=List.pairwise_cons.1 h;unfold vD
  split
  ·exact h
  ·rename_i hne
   split
   ·rename_i h3
    refine List.pairwise_cons.2 ⟨fun z hz=>?_,h⟩;rcases List.mem_cons.1 hz with rfl|hz
    ·exact h3
    ·exact JX h3 (h1 z hz)
   ·rename_i h3
    refine List.pairwise_cons.2 ⟨fun z hz=>?_,vM h2⟩;rcases uM.1 hz with rfl|hz
    ·rcases Nx hne with h|h
     ·exact h
     ·exact absurd h h3
    ·exact h1 z hz
theorem Yq {p:Pr}:∀{l:List Pr},(vD p l).length<=l.length+1
 |[]=>by simp[vD]
 |y::r=>by
  unfold vD;have:=Yq (p:=p) (l:=r)
  split
  ·simp
  ·split <;> simp <;> omega
def XP (l:List Pr):List Pr:=l.foldl (fun m p=>vD p m) []
theorem Wm (x:Pr):∀(l m:List Pr),x ∈ l.foldl (fun m p=>vD p m) m↔x ∈ m\/x ∈ l
 |[],m=>by simp
 |p::l,m=>by
  rw[List.foldl_cons,Wm x l,uM,List.mem_cons];constructor
  ·rintro ((h|h)|h) <;> simp[h]
  ·rintro (h|h|h) <;> simp[h]
theorem Kv {x:Pr} {l:List Pr}:x ∈ XP l↔x ∈ l:=by rw[XP,Wm];simp
theorem VI:∀(l m:List Pr),Vw m->Vw (l.foldl (fun m p=>vD p m) m)
 |[],_,h=>h
 |_::l,_,h=>VI l _ (vM h)
theorem Kf (l:List Pr):Vw (XP l):=VI l [] List.Pairwise.nil
theorem Yr:∀(l m:List Pr),(l.foldl (fun m p=>vD p m) m).length<=m.length+l.length
 |[],m=>by simp
 |p::l,m=>by
  have:=Yr l (vD p m);have:=Yq (p:=p) (l:=m);simp only[List.foldl_cons,List.length_cons];omega
theorem Jw (l:List Pr):(XP l).length<=l.length:=by have:=Yr l [];simpa[XP] using this
def row (l:List Pr) (a:Int):List Int:=(l.filter fun p=>p.1==a).map (·.2)
theorem xI {l:List Pr} {a b:Int}:b ∈ row l a↔(a,b) ∈ l:=by
 unfold row;simp only[List.mem_map,List.mem_filter,beq_iff_eq];constructor
 ·rintro ⟨⟨x,y⟩,⟨h,rfl⟩,rfl⟩;exact h
 ·exact fun h=>⟨(a,b),⟨h,rfl⟩,rfl⟩
theorem Qf {l:List Pr} (h:Vw l) (a:Int):jJ (row l a):=by
 unfold row jJ;rw[List.pairwise_map];refine List.Pairwise.imp_of_mem ?_ (h.filter _);intro x y hx hy hp;have h1:=(List.mem_filter.1 hx).2;have h2:=(List.mem_filter.1 hy).2;simp only[beq_iff_eq] at h1 h2;unfold Rl at hp;omega
theorem Js {l:List Pr} (h:Vw l) (a b:Int):row (vD (a,b) l) a=yL b (row l a):=
 (Qf (vM h) a).ext (jE (Qf h a)) fun x=>by
  rw[xI,uM,qY,xI];simp
theorem Ze {l:List Pr} (h:Vw l) (a b:Int) {c:Int} (hc:c≠a):row (vD (a,b) l) c=row l c:=
 (Qf (vM h) c).ext (Qf h c) fun x=>by
  rw[xI,uM,xI];simp[hc]
theorem Ky (l:List Pr) (a:Int):(row l a).length<=l.length:=by
 unfold row;rw[List.length_map];exact List.length_filter_le _ _
inductive Tc (l:List Pr):Int->Int->Prop
 |one {a b:Int}:(a,b) ∈ l->Tc l a b
 |more {a b c:Int}:Tc l a b->(b,c) ∈ l->Tc l a c
theorem Tc.trans {l:List Pr} {a b c:Int} (h:Tc l a b) (k:Tc l b c):Tc l a c:=by
 induction k with
 |one k=>exact .more h k
 |more _ k ih=>exact .more ih k
theorem jZ {α:Type} [DecidableEq α]:∀{l m:List α},l.Nodup->(∀x ∈ l,x ∈ m)->l.length<=m.length
 |[],_,_,_=>by simp
 |x::l,m,h,hm=>by
  obtain⟨h1,h2⟩:=List.nodup_cons.1 h;have:=jZ (l:=l) (m:=m.erase x) h2 fun y hy=>(List.mem_erase_of_ne (by rintro rfl;exact h1 hy)).2 (hm y (by simp[hy]));rw[List.length_erase_of_mem (hm x (by simp))] at this;have:=List.length_pos_of_mem (hm x (by simp));simp only[List.length_cons];omega
abbrev jI:=Int×Int×Int
def MF (x y:jI):Prop:=x.1 < y.1\/(x.1=y.1/\(x.2.1 < y.2.1\/(x.2.1=y.2.1/\x.2.2 < y.2.2)))
instance (x y:jI):Decidable (MF x y):=inferInstanceAs (Decidable (_\/_))
def WO (l:List jI):Prop:=l.Pairwise MF
theorem Nk {x y z:jI} (h:MF x y) (k:MF y z):MF x z:=by unfold MF at *;omega
theorem Nl {x y:jI} (h:x≠y):MF x y\/MF y x:=by
 unfold MF;have:x.1≠y.1\/x.2.1≠y.2.1\/x.2.2≠y.2.2:=by
  refine Classical.byContradiction fun hn=>h ?_;obtain⟨x1,x2,x3⟩:=x;obtain⟨y1,y2,y3⟩:=y;simp only[not_or,Decidable.not_not] at hn;obtain⟨rfl,rfl,rfl⟩:=hn;rfl
 omega
def vj (p:jI):List jI->List jI
 |[]=>[p]
 |y::r=>if y=p then y::r else if MF p y then p::y::r else y::vj p r
theorem xV {p x:jI}:∀{l:List jI},x ∈ vj p l↔x=p\/x ∈ l
 |[]=>by simp[vj]
 |y::r=>by
  unfold vj
  split
  ·rename_i h;subst h;simp
  ·split
   ·simp
   ·simp only[List.mem_cons,xV (l:=r)]
    constructor
    ·rintro (h|h|h) <;> simp[h]
    ·rintro (h|h|h) <;> simp[h]
theorem uI {p:jI}:∀{l:List jI},WO l->WO (vj p l)
 |[],_=>by simp[vj,WO]
 |y::r,h=>by
  obtain⟨h1,h2⟩:=List.pairwise_cons.1 h;unfold vj
  split
  ·exact h
  ·rename_i hne
   split
   ·rename_i h3
    refine List.pairwise_cons.2 ⟨fun z hz=>?_,h⟩;rcases List.mem_cons.1 hz with rfl|hz
    ·exact h3
    ·exact Nk h3 (h1 z hz)
   ·rename_i h3
    refine List.pairwise_cons.2 ⟨fun z hz=>?_,uI h2⟩;rcases xV.1 hz with rfl|hz
    ·rcases Nl hne with h|h
     ·exact h
     ·exact absurd h h3
    ·exact h1 z hz
theorem Yp {p:jI}:∀{l:List jI},(vj p l).length<=l.length+1
 |[]=>by simp[vj]
 |y::r=>by
  unfold vj;have:=Yp (p:=p) (l:=r)
  split
  ·simp
  ·split <;> simp <;> omega
def xG (E:List jI):List Pr:=XP (E.map fun e=>(e.1,e.2.1))
theorem Qh {E:List jI} {a b:Int}:(a,b) ∈ xG E↔∃k,(a,b,k) ∈ E:=by
 unfold xG;rw[Kv,List.mem_map];constructor
 ·rintro ⟨⟨x,y,k⟩,h,e⟩
  simp only[Prod.mk.injEq] at e;obtain⟨rfl,rfl⟩:=e;exact⟨k,h⟩
 ·rintro ⟨k,h⟩
  exact⟨_,h,rfl⟩
theorem uX (E:List jI):Vw (xG E):=Kf _
theorem Zt (E:List jI):(xG E).length<=E.length:=by
 have:=Jw (E.map fun e=>(e.1,e.2.1));simpa[xG] using this
theorem Rj (a b k:Int) (E:List jI):xG (vj (a,b,k) E)=vD (a,b) (xG E):=
 (uX _).ext (vM (uX _)) fun⟨x,y⟩=>by
  rw[Qh,uM,Qh];constructor
  ·rintro ⟨q,hq⟩
   rcases xV.1 hq with e|hq
   ·simp only[Prod.mk.injEq] at e;exact .inl (by rw[e.1,e.2.1])
   ·exact .inr ⟨q,hq⟩
  ·rintro (e|⟨q,hq⟩)
   ·simp only[Prod.mk.injEq] at e;exact⟨k,xV.2 (.inl (by rw[e.1,e.2]))⟩
   ·exact ⟨q,xV.2 (.inr hq)⟩
def yY (E:List jI) (a b:Int):List Int:=(E.filter fun e=>e.1==a&&e.2.1==b).map (·.2.2)
theorem ze {E:List jI} {a b k:Int}:k ∈ yY E a b↔(a,b,k) ∈ E:=by
 unfold yY;simp only[List.mem_map,List.mem_filter,Bool.and_eq_true,beq_iff_eq];constructor
 ·rintro ⟨⟨x,y,q⟩,⟨h,rfl,rfl⟩,rfl⟩;exact h
 ·exact fun h=>⟨(a,b,k),⟨h,rfl,rfl⟩,rfl⟩
theorem jD {E:List jI} (h:WO E) (a b:Int):jJ (yY E a b):=by
 unfold yY jJ;rw[List.pairwise_map];refine List.Pairwise.imp_of_mem ?_ (h.filter _);intro x y hx hy hp;have h1:=(List.mem_filter.1 hx).2;have h2:=(List.mem_filter.1 hy).2;simp only[Bool.and_eq_true,beq_iff_eq] at h1 h2;unfold MF at hp;omega
theorem Zu (E:List jI) (a b:Int):(yY E a b).length<=E.length:=by
 unfold yY;rw[List.length_map];exact List.length_filter_le _ _
theorem vS {E:List jI} (h:WO E) (a b k:Int):yY (vj (a,b,k) E) a b=yL k (yY E a b):=
 (jD (uI h) a b).ext (jE (jD h a b)) fun x=>by
  rw[ze,xV,qY,ze];simp
theorem jM {E:List jI} (h:WO E) (a b k:Int) {c d:Int} (hc:c≠a\/d≠b):yY (vj (a,b,k) E) c d=yY E c d:=
 (jD (uI h) c d).ext (jD h c d) fun x=>by
  rw[ze,xV,ze];constructor
  ·rintro (e|e)
   ·simp only[Prod.mk.injEq] at e;omega
   ·exact e
  ·exact .inr
theorem NK {E:List jI} {a b:Int} (h:b ∉ row (xG E) a):yY E a b=[]:=by
 rw[List.eq_nil_iff_forall_not_mem];exact fun k hk=>h (xI.2 (Qh.2 ⟨k,ze.1 hk⟩))
theorem Xi (E:List jI) (a b k:Int):row (xG (vj (a,b,k) E)) a=yL b (row (xG E) a):=by rw[Rj,Js (uX E)]
theorem Qv (E:List jI) (a b k:Int) {c:Int} (hc:c≠a):row (xG (vj (a,b,k) E)) c=row (xG E) c:=by rw[Rj,Ze (uX E) a b hc]
structure JD (N:List Int) (E:List jI):Prop where
 srtN:jJ N
 srtE:WO E
 sub:∀e ∈ E,e.1 ∈ N/\e.2.1 ∈ N
theorem JD.nil:JD [] []:=⟨List.Pairwise.nil,List.Pairwise.nil,fun _ h=>by simp at h⟩
theorem JD.node {N:List Int} {E:List jI} (h:JD N E) (a:Int):JD (yL a N) E:=⟨jE h.srtN,h.srtE,fun e he=>⟨qY.2 (.inr (h.sub e he).1),qY.2 (.inr (h.sub e he).2)⟩⟩
theorem JD.pair {N:List Int} {E:List jI} (h:JD N E) {a b:Int} (hp:(a,b) ∈ xG E):a ∈ N/\b ∈ N:=by
 obtain⟨k,hk⟩:=Qh.1 hp;exact h.sub _ hk
def Wk (P:List Pr) (k:Int):Nat->Int->Prop
 |0,a=>a=k
 |n+1,a=>∃b,(a,b) ∈ P/\Wk P k n b
def xK (P:List Pr) (k:Int) (n:Nat) (a:Int):Prop:=1<=n/\Wk P k n a/\∀m,1<=m->m < n->¬Wk P k m a
section
variable {P:List Pr} {k a b:Int} {n m:Nat}
theorem Wk.tc:∀{n:Nat} {a:Int},Wk P k (n+1) a->Tc P a k
 |0,a,⟨b,h,e⟩=>by
  have e:b=k:=e;subst e;exact .one h
 |n+1,a,⟨b,h,h2⟩=>by
  have:=Wk.tc h2;exact(Tc.one h).trans this
theorem Wk.snoc:∀{n:Nat} {a b c:Int},Wk P b n a->(b,c) ∈ P->Wk P c (n+1) a
 |0,a,b,c,h,hc=>by
  have h:a=b:=h;subst h;exact⟨c,hc,rfl⟩
 |n+1,a,b,c,⟨d,hd,h⟩,hc=>⟨d,hd,Wk.snoc h hc⟩
theorem Mz {a k:Int} (h:Tc P a k):∃n,1<=n/\Wk P k n a:=by
 induction h with
 |one h=>exact⟨1,Nat.le_refl _,_,h,rfl⟩
 |more _ h ih=>
  obtain⟨n,hn,hw⟩:=ih;exact⟨n+1,by omega,hw.snoc h⟩
theorem Nm:Tc P a k↔∃n,1<=n/\Wk P k n a:=by
 refine⟨Mz,?_⟩;rintro⟨n,hn,hw⟩;obtain⟨m,rfl⟩:∃m,n=m+1:=⟨n - 1,by omega⟩
 exact hw.tc
theorem ZV (hn:1<=n) (h:Wk P k n a):∃m,m<=n/\xK P k m a:=by
 induction n using Nat.strongRecOn with
 |ind n ih=>
  by_cases hm:∃m,1<=m/\m < n/\Wk P k m a
  ·obtain ⟨m,h1,h2,h3⟩:=hm
   obtain⟨q,hq,hd⟩:=ih m h2 h1 h3;exact⟨q,by omega,hd⟩
  ·exact ⟨n,Nat.le_refl _,hn,h,fun m h1 h2 h3=>hm ⟨m,h1,h2,h3⟩⟩
theorem Yl:Tc P a k↔∃n,xK P k n a:=by
 rw[Nm];constructor
 ·rintro ⟨n,hn,hw⟩
  obtain⟨m,-,hd⟩:=ZV hn hw;exact⟨m,hd⟩
 ·rintro ⟨n,hd⟩
  exact⟨n,hd.1,hd.2.1⟩
theorem xK.uniq (h:xK P k n a) (h':xK P k m a):n=m:=by
 rcases Nat.lt_trichotomy n m with hl|hl|hl
 ·exact absurd h.2.1 (h'.2.2 n h.1 hl)
 ·exact hl
 ·exact absurd h'.2.1 (h.2.2 m h'.1 hl)
theorem ZU:xK P k 1 a↔(a,k) ∈ P:=by
 constructor
 ·rintro ⟨-,⟨b,h,e⟩,-⟩
  have e:b=k:=e;subst e;exact h
 ·exact fun h=>⟨Nat.le_refl _,⟨k,h,rfl⟩,fun m h1 h2=>by omega⟩
theorem Ye (hn:1<=n):xK P k (n+1) a↔(∃b,(a,b) ∈ P/\b≠k/\xK P k n b)/\∀m,1<=m->m<=n->¬xK P k m a:=by
 constructor
 ·rintro ⟨h1,⟨b,hb,hw⟩,h2⟩
  have h3:∀m,1<=m->m<=n->¬xK P k m a:=fun m hm hmn hd=>h2 m hm (by omega) hd.2.1;have hbk:b≠k:=by
   rintro rfl;exact h2 1 (Nat.le_refl _) (by omega) ⟨b,hb,rfl⟩
  refine⟨⟨b,hb,hbk,hn,hw,fun m hm hmn hwm=>?_⟩,h3⟩;exact h2 (m+1) (by omega) (by omega) ⟨b,hb,hwm⟩
 ·rintro ⟨⟨b,hb,-,hd⟩,h⟩
  refine⟨by omega,⟨b,hb,hd.2.1⟩,fun m hm hmn hw=>?_⟩;obtain⟨q,hq,hq2⟩:=ZV hm hw;exact h q hq2.1 (by omega) hq2
theorem xK.next (h:xK P k (n+1) a) (hn:1<=n):∃b,(a,b) ∈ P/\b≠k/\xK P k n b:=((Ye hn).1 h).1
theorem xK.head (h:xK P k n a):∃b,(a,b) ∈ P:=by
 obtain⟨m,rfl⟩:∃m,n=m+1:=⟨n - 1,by have:=h.1;omega⟩
 obtain⟨b,hb,-⟩:=h.2.1;exact⟨b,hb⟩
theorem UA:∀{n:Nat} {a:Int},xK P k n a->∃l:List Int,l.length=n/\l.Nodup/\(∀x ∈ l,∃b,(x,b) ∈ P)/\∀x ∈ l,∃m,m<=n/\xK P k m x
 |0,a,h=>absurd h.1 (by omega)
 |1,a,h=>⟨[a],rfl,by simp,fun x hx=>by simp at hx;subst hx;exact h.head,fun x hx=>by simp at hx;subst hx;exact⟨1,Nat.le_refl _,h⟩⟩
 |n+2,a,h=>by
  obtain⟨b,hb,hbk,hd⟩:=h.next (by omega)
  obtain⟨l,h1,h2,h3,h4⟩:=UA hd;refine⟨a::l,by simp[h1],List.nodup_cons.2 ⟨fun ha=>?_,h2⟩,fun x hx=>?_,fun x hx=>?_⟩
  ·obtain ⟨m,hm,hdm⟩:=h4 a ha
   have:=h.uniq hdm;omega
  ·rcases List.mem_cons.1 hx with rfl|hx
   ·exact ⟨b,hb⟩
   ·exact h3 x hx
  ·rcases List.mem_cons.1 hx with rfl|hx
   ·exact ⟨n+2,Nat.le_refl _,h⟩
   ·obtain ⟨m,hm,hdm⟩:=h4 x hx
    exact⟨m,by omega,hdm⟩
theorem xK.le {N:List Int} (h:xK P k n a) (hN:∀x ∈ P,x.1 ∈ N):n<=N.length:=by
 obtain⟨l,h1,h2,h3,-⟩:=UA h;rw[←h1];exact jZ h2 fun x hx=>by
  obtain⟨b,hb⟩:=h3 x hx;exact hN _ hb
end
def Qc (P:List Pr) (k:Int):Nat->Int->List Int->Prop
 |0,_,l=>l=[]
 |1,_,l=>l=[]
 |n+2,a,l=>∃b r,l=b::r/\(a,b) ∈ P/\b≠k/\xK P k (n+1) b/\(∀c,c < b->(a,c) ∈ P->¬(c≠k/\xK P k (n+1) c))/\Qc P k (n+1) b r
def IsCyc (P:List Pr) (N:List Int) (c:List Int):Prop:=
 (c=[]/\∀k ∈ N,¬Tc P k k)\/∃k n l,k ∈ N/\(∀j ∈ N,j < k->¬Tc P j j)/\xK P k n k/\Qc P k n k l/\c=k::l
