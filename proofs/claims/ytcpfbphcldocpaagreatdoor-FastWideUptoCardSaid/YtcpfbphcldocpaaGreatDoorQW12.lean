/- Parts of the proof; the first: Is each read of a transaction explained? Printed by wip/tools/genftg.py. Conditions: those of each theorem, as typed. -/
import Derived.Test.YtcpfbphcldocpaaGreatDoorQW11
import Derived.Test.YtcpfbphcldocpaaGreatDoorQW03
import Derived.Test.YtcpfbphcldocpaaGreatDoorQW09
import Derived.Test.YtcpfbphcldocpaaGreatDoorQW01
import Derived.Shelf.Slices.Delete
import Derived.Ground.Names2Prog
import Derived.Test.YtcpfbphcldocpaaGreatDoorProg
import Derived.Test.YtcpfbphcldocpaaGreatDoorChecked
set_option linter.unusedVariables false
set_option linter.unusedSimpArgs false
set_option linter.unusedSectionVars false
set_option maxRecDepth 100000
set_option maxHeartbeats 4000000
namespace Go.Proofs.YtcpfbphcldocpaaGreatDoor
open Go.Maps Go.RowKit Go.Shelf
section
attribute [local irreducible] xE
def Ym (A:Au) (T:List Bool) (i:Nat) (o v:Int):Bool:=match Re A o v with
 |some j=>decide (j≠i)&&T.getD j false
 |none=>false
def uU (w:World) (b:Nat) (own:Mi):Prop:=qS w b fun k=>(fnd k own).map (.int .i64)
theorem uU.look {w:World} {b:Nat} {own:Mi} (h:uU w b own) (a:Int):(Instr.lookup 138 (.map (some b)) (.int .i64 a) true).run Tryz.prog w=.ok (.tuple #[.int .i64 ((fnd a own).getD 0),.bool (fnd a own).isSome]) w:=by
 have:=(qS.look h Tryz.underlying3 Tryz.underlying138 (ZQ w) a rfl).2;cases e:fnd a own <;> rw[e] at this <;> exact this
theorem Mj {w:World} {b n:Nat} {F:MI} (h:Qj w b n F) (hd:yJ dI F) {a:Int} (ha:dI a):(Instr.lookup 138 (.map (some b)) (.int .i64 a) false).run Tryz.prog w=.ok (.int .i64 ((fnd a F).getD 0)) w:=by
 have:=h.look zy yK hd Tryz.underlying138 (ZQ w) ha;rw[this];cases fnd a F <;> rfl
theorem uU.put {w:World} {b:Nat} {own:Mi} {a v:Int} (hs:zm own) (h:qS w b (VM (fun k=>(fnd k own).map (.int .i64)) a (some (.int .i64 v)))):uU w b (upd a v own):=qS.fun h fun k=>by
 by_cases e:k=a
 ·subst e;rw[un hs,xC];rfl
 ·rw [uS hs e,qZ e]
def Wr (r:Option Nat):Ending:=match r with
 |none=>.returned (.tuple #[.int .i64 0,.bool true])
 |some k=>.returned (.tuple #[.int .i64 (k:Nat),.bool false])
section
variable {w:World} {lo hi pW bB:Nat} {lev:Int} {ov vv lv:Value} {ms:List xz} {A:Au} {T:List Bool} {os:List Ob}
theorem qgb (h:xT w lo hi pW bB lev ov vv ms lv A T) (ho:Sl w w.heap.size 2 ov os.length (os.flatMap Ob.cells)) (hvv:∃a n c,vv=.slice a n c) (hD:UF os A) {i:Nat} {m:xz} {s:St} (hm:ms[i]?=some m) (hs:A[i]?=some s) (hhi:hi<=w.heap.size):
  Calls Tryz.prog 66 #[.pointer (some ⟨pW,0,none⟩),.pointer (some ⟨m.p,0,none⟩)] w fun e w'=>e=Wr (yx (os.map (·.init)) A T i (zg s) 0 [] s.deeds)/\Below w.heap.size w w':=by
 obtain⟨ao,co,rfl,mo⟩:=ho.ex;obtain⟨av,nv,cv,rfl⟩:=hvv;have hM:=h.mv i m s hm hs;have hsm:=List.mem_of_getElem? hs;have hnd:=hD.dl s hsm;obtain⟨ad,cd,hdv⟩:=qj.sli hM.dds;have rm:=hM.row;unfold Mg at rm;rw[hdv] at rm;have HDS:=qh (show XG w lo (.slice ad s.deeds.length cd) s.deeds by rw[←hdv];exact hM.dds);have HOb:=qh (hD.obj s hsm);have HVa:=qh (hD.val s hsm);have HDo:=qh (fun(d:Dd) (hd:d ∈ s.deeds)=>hD.dobj hsm hd);have hol:=hD.ol;have HDR:=qh (zD (g:=Dd.got) (X:=xQ [] s.deeds) (M:=[]) (fun _ h=>by cases h) fun x hx=>hD.dobj hsm (jB hx).1:yJ dI (zg s));have HS:=qh hs;have HH:=qh h;have HM:=qh hm;have HO:=qh ho;have HRM:=qh rm;have hmm:=@run_makeMap Tryz.prog;obtain⟨ds,hds⟩:∃ds,s.deeds=ds:=⟨_,rfl⟩
 rw[hds] at HDS HOb HVa HDo HRM hnd ⊢;obtain⟨R,hR⟩:∃R,yx (os.map (·.init)) A T i (zg s) 0 [] ds=R:=⟨_,rfl⟩
 rw[hR];have HRR:=qh hR;have y:=qa HRM.o 6;simp at y;have yl:=qd HRM.o;clear hM hsm hdv rm h hm ho hD hs hds hR mo;go_enter Tryz.func66,Tryz.ntmps66;go_wp2_with fail;have B0:=qh (show Below w.heap.size w (w.alloc (.map #[] 0)) from(Below.refl _ w).alloc (Nat.le_refl _) _);have O0:=qh (show uU (w.alloc (.map #[] 0)) w.heap.size [] from qS.fun (qS.made (heap_alloc_new w _)) fun k=>rfl);have hz0:w.heap.size < (w.alloc (.map #[] 0)).heap.size:=by simp
 generalize w.alloc (.map #[] 0)=W at *;clear y
 go_loopw [20] (fun q wr=>∃(k:Nat) (own:Mi),k<=ds.length/\q=.int .i64 k/\uU wr w.heap.size own/\zm own/\yx (os.map (·.init)) A T i (zg s) 0 [] ds=yx (os.map (·.init)) A T i (zg s) k own (ds.drop k)/\Below w.heap.size w wr/\w.heap.size < wr.heap.size) (fun q _=>ds.length - (intOf q).toNat)
 case atStart=>exact⟨0,[],by omega,by go_num,O0.o,List.Pairwise.nil,rfl,B0.o,hz0⟩
 case round=>
  obtain⟨k,own,hk,rfl,hO,hso,hE,hB,hzw⟩:=hrel;have HOw:=qh hO;have HSo:=qh hso;have HE:=qh hE;have HB:=qh hB;clear hO hso hE hB O0 B0 hz0 W;by_cases hlt:k < ds.length
  ·obtain ⟨b,off,d,rfl,hb,hdk,hc⟩:=(qj.sl HDS.o).atF Dd.len rfl hlt
   have HDK:=qh (show ds.drop k=d::ds.drop (k+1) from List.drop_eq_getElem?_toList_append▸by rw[hdk];rfl);have hdm:=List.mem_of_getElem? hdk;have hob:=HOb.o d hdm;have hva:=HVa.o d hdm;have hdo:=HDo.o d hdm;obtain⟨ob',op,ke,va,re,go,at_,ba⟩:=d;obtain⟨ob,rfl⟩:∃ob:Nat,ob'=(ob:Int):=⟨ob'.toNat,by have:=hob.1;simp only at this;omega⟩
   have hobl:ob < os.length:=by have:=hob.2;simp only at this;omega
   have HCk:=qh (⟨hdo,hva.2⟩:dI (ob:Int)/\dI go);have HDO:=qh hdo;have c0:wr.cell? ⟨b,off+k*8,none⟩=some (.int .i64 (ob:Int)):=qx HB.o hb (hc 0 (by decide));have c1:wr.cell? ⟨b,off+k*8+1,none⟩=some (.int .i64 op):=qx HB.o hb (hc 1 (by decide));have c2:wr.cell? ⟨b,off+k*8+2,none⟩=some (.int .i64 ke):=qx HB.o hb (hc 2 (by decide));have c3:wr.cell? ⟨b,off+k*8+3,none⟩=some (.int .i64 va):=qx HB.o hb (hc 3 (by decide));have c4:wr.cell? ⟨b,off+k*8+4,none⟩=some (.int .i64 re):=qx HB.o hb (hc 4 (by decide));have c5:wr.cell? ⟨b,off+k*8+5,none⟩=some (.int .i64 go):=qx HB.o hb (hc 5 (by decide));have c6:wr.cell? ⟨b,off+k*8+6,none⟩=some (.int .i64 at_):=qx HB.o hb (hc 6 (by decide));have c7:wr.cell? ⟨b,off+k*8+7,none⟩=some (.int .i64 ba):=qx HB.o hb (hc 7 (by decide));have hbw:b < wr.heap.size:=by omega
   have HE2:=qh (HE.o.trans (congrArg (yx (os.map (·.init)) A T i (zg s) k own) HDK.o));clear hc hdk hdm hob hva hdo;by_cases h2:op=2
   ·subst h2
    have B3:=qh (show Below wr.heap.size wr (wr.alloc (.cells #[.int .i64 (ob:Int),.int .i64 2,.int .i64 ke,.int .i64 va,.int .i64 re,.int .i64 go,.int .i64 at_,.int .i64 ba] 112)) from(Below.refl _ wr).alloc (Nat.le_refl _) _);have r3:=qy wr (.cells #[.int .i64 (ob:Int),.int .i64 2,.int .i64 ke,.int .i64 va,.int .i64 re,.int .i64 go,.int .i64 at_,.int .i64 ba] 112);have HOw3:=qh (show uU (wr.alloc (.cells #[.int .i64 (ob:Int),.int .i64 2,.int .i64 ke,.int .i64 va,.int .i64 re,.int .i64 go,.int .i64 at_,.int .i64 ba] 112)) w.heap.size own from qS.obj HOw.o (B3.o.block _ hzw));have R3:=qh r3;clear r3;go_wp2_with (at_mapUpdate;refine qK.halt ?_)
    generalize wr.alloc (.cells #[.int .i64 (ob:Int),.int .i64 2,.int .i64 ke,.int .i64 va,.int .i64 re,.int .i64 go,.int .i64 at_,.int .i64 ba] 112)=W3 at *;refine qK.go ?_;refine qS.wpList_store HOw3.o Tryz.underlying3 Tryz.underlying138 (a:=(ob:Int)) (v:=.int .i64 va) rfl (.inl rfl) (by rfl) (by rfl) (by rfl) ?_;intro w6 h6 t6;have O6:=qh (uU.put HSo.o h6);have B6:=qh ((HB.o.trans (B3.o.mono (by omega))).trans (Below.turned t6 (Nat.le_refl _)));have z6:=qU t6;have hz6:w.heap.size < w6.heap.size:=by have:=B3.o.size;omega
    clear h6 t6;go_wp2_with fail;go_roundw
    case rel=>exact⟨k+1,_,by omega,by go_num,O6.o,je HSo.o,by rw[HE2.o,yx,if_pos rfl],B6.o,hz6⟩
    case measure=>simp[intOf];omega
   ·have q2:(op==2)=false:=by simpa using h2
    have HN2:=qh h2;clear h2;by_cases h0:re=0
    ·subst h0
     have B3:=qh (show Below wr.heap.size wr (wr.alloc (.cells #[.int .i64 (ob:Int),.int .i64 op,.int .i64 ke,.int .i64 va,.int .i64 0,.int .i64 go,.int .i64 at_,.int .i64 ba] 112)) from(Below.refl _ wr).alloc (Nat.le_refl _) _);have r3:=qy wr (.cells #[.int .i64 (ob:Int),.int .i64 op,.int .i64 ke,.int .i64 va,.int .i64 0,.int .i64 go,.int .i64 at_,.int .i64 ba] 112);have HOw3:=qh (show uU (wr.alloc (.cells #[.int .i64 (ob:Int),.int .i64 op,.int .i64 ke,.int .i64 va,.int .i64 0,.int .i64 go,.int .i64 at_,.int .i64 ba] 112)) w.heap.size own from qS.obj HOw.o (B3.o.block _ hzw));have R3:=qh r3;clear r3;go_wp2_with fail;generalize wr.alloc (.cells #[.int .i64 (ob:Int),.int .i64 op,.int .i64 ke,.int .i64 va,.int .i64 0,.int .i64 go,.int .i64 at_,.int .i64 ba] 112)=W3 at *;go_roundw
     case rel=>exact⟨k+1,own,by omega,by go_num,HOw3.o,HSo.o,by rw[HE2.o,yx,if_neg HN2.o,if_pos rfl],(HB.o.trans (B3.o.mono (by omega))),by have:=B3.o.size;omega⟩
     case measure=>simp[intOf];omega
    ·have q0:(re==0)=false:=by simpa using h0
     have HN0:=qh h0;clear h0;have B3:=qh (show Below wr.heap.size wr (wr.alloc (.cells #[.int .i64 (ob:Int),.int .i64 op,.int .i64 ke,.int .i64 va,.int .i64 re,.int .i64 go,.int .i64 at_,.int .i64 ba] 112)) from(Below.refl _ wr).alloc (Nat.le_refl _) _);have r3:=qy wr (.cells #[.int .i64 (ob:Int),.int .i64 op,.int .i64 ke,.int .i64 va,.int .i64 re,.int .i64 go,.int .i64 at_,.int .i64 ba] 112);have HOw3:=qh (show uU (wr.alloc (.cells #[.int .i64 (ob:Int),.int .i64 op,.int .i64 ke,.int .i64 va,.int .i64 re,.int .i64 go,.int .i64 at_,.int .i64 ba] 112)) w.heap.size own from qS.obj HOw.o (B3.o.block _ hzw));have R3:=qh r3;clear r3;have lk:=HOw3.o.look (ob:Int);cases hf:fnd (ob:Int) own with
     |some v=>
      rw[hf] at lk;simp only[Option.getD_some,Option.isSome_some] at lk;have HF:=qh hf;clear hf;by_cases hg:go=v
      ·subst hg
       go_wp2_with fail;generalize wr.alloc (.cells #[.int .i64 (ob:Int),.int .i64 op,.int .i64 ke,.int .i64 va,.int .i64 re,.int .i64 go,.int .i64 at_,.int .i64 ba] 112)=W3 at *;go_roundw
       case rel=>exact⟨k+1,own,by omega,by go_num,HOw3.o,HSo.o,by rw[HE2.o,yx,if_neg HN2.o,if_neg HN0.o];simp only[HF.o];rw[if_pos trivial],(HB.o.trans (B3.o.mono (by omega))),by have:=B3.o.size;omega⟩
       case measure=>simp[intOf];omega
      ·have qg:(go !=v)=true:=by simpa using hg
       have HG:=qh hg;clear hg;go_wp2_with fail;refine bodyPost_ret (v:=.tuple #[.int .i64 k,.bool false]) (by simp[results,Tryz.results66,go_sem]) rfl ?_;refine⟨?_,HB.o.trans (B3.o.mono (by omega))⟩;rw[←HRR.o,HE2.o,yx,if_neg HN2.o,if_neg HN0.o];simp only[HF.o];rw[if_neg HG.o];rfl
     |none=>
      rw[hf] at lk;simp only[Option.getD_none,Option.isSome_none] at lk;have HF:=qh hf;clear hf;go_wp2_with fail;have B13:=qh (show Below w.heap.size w (wr.alloc (.cells #[.int .i64 (ob:Int),.int .i64 op,.int .i64 ke,.int .i64 va,.int .i64 re,.int .i64 go,.int .i64 at_,.int .i64 ba] 112)) from HB.o.trans (B3.o.mono (by omega)));obtain⟨bo,offo,o,hqo,hbo,hoo,hco⟩:=(HO.o.below B13.o).atF Ob.len rfl hobl;subst hqo;obtain⟨kd,ini⟩:=o;have x1:(wr.alloc (.cells #[.int .i64 (ob:Int),.int .i64 op,.int .i64 ke,.int .i64 va,.int .i64 re,.int .i64 go,.int .i64 at_,.int .i64 ba] 112)).cell? ⟨bo,offo+ob*2+1,none⟩=some (.int .i64 ini):=hco 1 (by decide);have HINI:=qh (show(os.map (·.init)).getD ((ob:Int).toNat) 0=ini by rw[List.getD_eq_getElem?_getD,Int.toNat_natCast,List.getElem?_map,hoo];rfl);have X1:=qh x1;have HBO:=qh hbo;have FW:=qh (HH.o.below B13.o hhi (Nat.le_refl _));have hz3:=B3.o.size;have hz3':wr.heap.size < (wr.alloc (.cells #[.int .i64 (ob:Int),.int .i64 op,.int .i64 ke,.int .i64 va,.int .i64 re,.int .i64 go,.int .i64 at_,.int .i64 ba] 112)).heap.size:=qd R3.o;clear hco hoo x1 lk;generalize wr.alloc (.cells #[.int .i64 (ob:Int),.int .i64 op,.int .i64 ke,.int .i64 va,.int .i64 re,.int .i64 go,.int .i64 at_,.int .i64 ba] 112)=W3 at *;have rq:=FW.o.row;have yq:=qa rq;have yq0:=yq 0;have yq4:=yq 4;simp at yq0 yq4;have yql:=qd rq;have rm3:=qp HRM.o B13.o (qd HRM.o);have ym7:=qa rm3 7;simp at ym7;have yml:=qd rm3;have yd:=qa R3.o;have yd0:=yd 0;have yd5:=yd 5;simp at yd0 yd5;have ydl:=qd R3.o;have x1:=X1.o;have xol:bo < W3.heap.size:=by have:=HBO.o;have:=B13.o.size;omega
      have hmr:=(FW.o.mv i m s HM.o HS.o).b;have HRB:=qh (show m.r < W3.heap.size by have:=B13.o.size;omega);have HBB:=qh (show bB < W3.heap.size by have:=FW.o.pB;have:=B13.o.size;omega);have LRD:=qh (fun(X:World) (hX:X.heap[m.r]?=W3.heap[m.r]?)=>Mj ((FW.o.mv i m s HM.o HS.o).rd.obj hX) HDR.o HDO.o);have LBY:=qh (fun(X:World) (hX:X.heap[bB]?=W3.heap[bB]?)=>((FW.o.by_.obj hX).look ck Tryz.underlying135 (qaV X) (ZB (ob:Int) go HCk.o) rfl).1);have hzW:w.heap.size < W3.heap.size:=by omega
      clear yq rq rm3 yd;cases hby:Re A (ob:Int) go with
      |none=>
       have HBM:=qh (show Uz A ms (ZB (ob:Int) go HCk.o)=none by unfold Uz;rw[jF];simp only[hby,Option.bind_none]);have HFR:=qh (show Ym A T i (ob:Int) go=false by unfold Ym;rw[hby]);clear hby;by_cases hgi:go=ini
       ·have qi:(go==ini)=true:=by simpa using hgi
        have HGI:=qh hgi;clear hgi;refine qI (W3.heap.size) [0,0,0,1,0,1,0,1,0,1,0] (.fin [0,1,2,3,4,5,6,7,8,9,10]) (by kernel_rfl) ?_;simp only[xi,qP,qA,sD,sE,sF,sG]
        repeat first|(refine qz fun K hK=>?_;go_simp;refine hK _ _ ?_;clear hK K)|(apply qC;(intro w2 hw2;have hk1:=hw2.cell;have hk3:=hw2.1;clear hw2;go_simp;with_reducible rfl);simp only[Act.put,sA,sB,sC])
        refine xM (fun K hK=>?_);refine⟨.pointer none,fun w2 hw2=>?_,?_⟩
        ·have lk:=LBY.o w2 (hw2.2 bB HBB.o)
         rw[HBM.o] at lk;simp only[ZA,jF,Option.getD_some,Option.getD_none] at lk;go_simp
        refine hK _ _ ?_;clear hK K
        repeat first|(refine qz fun K hK=>?_;go_simp;refine hK _ _ ?_;clear hK K)|refine qu ?_
        go_wp2_with fail;refine qI (W3.heap.size) [0,1,0,0,0,0,1,0,1,0,0,1,0,0,0,0,0,0,0,1,0,0,0,0,0,1,0,0,0] (.fin [0,1,2,3,4,5,6,7,8,9,10,11,12,13,14,15,16,17,18,19,20,21,22,23,24,25,26,27,28]) (by kernel_rfl) ?_;simp only[xi,qP,qA,sD,sE,sF,sG,Option.bind_some]
        repeat first|(refine qz fun K hK=>?_;go_simp;refine hK _ _ ?_;clear hK K)|(apply qC;(intro w2 hw2;have hk1:=hw2.cell;have hk3:=hw2.1;clear hw2;go_simp;with_reducible rfl);simp only[Act.put,sA,sB,sC])|refine qH rfl rfl ?_|(refine qQ rfl rfl fun K hK=>?_;simp only[Act.put,sA,sB,sC];refine hK _ _ ?_;clear hK K)|(refine qW rfl fun K hK=>?_;simp only[Act.put,sA,sB,sC];refine hK _ _ ?_;clear hK K)|refine qu ?_
        go_wp2_with fail;by_cases hgr:go=(fnd (ob:Int) (zg s)).getD 0
        ·have qr:(go !=(fnd (ob:Int) (zg s)).getD 0)=false:=by simpa using hgr
         have HGR:=qh hgr;clear hgr;refine qI (W3.heap.size) [0,1,0,0,0,1,0,1,1,0,0,0,0,0] (.fin [0,1,2,3,4,5,6,7,8,9,10,11,12,13]) (by kernel_rfl) ?_;simp only[xi,qP,qA,sD,sE,sF,sG,Option.bind_some]
         repeat first|(refine qz fun K hK=>?_;go_simp;refine hK _ _ ?_;clear hK K)|(apply qC;(intro w2 hw2;have hk1:=hw2.cell;have hk3:=hw2.1;clear hw2;go_simp;with_reducible rfl);simp only[Act.put,sA,sB,sC])|refine qH rfl rfl ?_|(refine qW rfl fun K hK=>?_;simp only[Act.put,sA,sB,sC];refine hK _ _ ?_;clear hK K)
         refine xM (fun K hK=>?_);refine⟨.int .i64 ((fnd (ob:Int) (zg s)).getD 0),fun w2 hw2=>?_,?_⟩
         ·have lk:=LRD.o w2 (hw2.2 m.r HRB.o)
          go_simp
         refine hK _ _ ?_;clear hK K
         repeat first|(refine qz fun K hK=>?_;go_simp;refine hK _ _ ?_;clear hK K)|(apply qC;(intro w2 hw2;have hk1:=hw2.cell;have hk3:=hw2.1;clear hw2;go_simp;with_reducible rfl);simp only[Act.put,sA,sB,sC])|refine qH rfl rfl ?_|(refine qQ rfl rfl fun K hK=>?_;simp only[Act.put,sA,sB,sC];refine hK _ _ ?_;clear hK K)|(refine qW rfl fun K hK=>?_;simp only[Act.put,sA,sB,sC];refine hK _ _ ?_;clear hK K)|refine qu ?_
         go_wp2_with fail;go_roundw
         case rel=>
          refine⟨k+1,own,by omega,by go_num,qS.drew (qS.drew (qS.drew HOw3.o)),HSo.o,?_,B13.o.drew.drew.drew,hzW⟩;rw[HE2.o,yx,if_neg HN2.o,if_neg HN0.o];simp only[HF.o];rw[HINI.o,if_pos];exact⟨HGR.o,.inl HGI.o⟩
         case measure=>simp[intOf];omega
        ·have qr:(go !=(fnd (ob:Int) (zg s)).getD 0)=true:=by simpa using hgr
         have HGR:=qh hgr;clear hgr;refine qI (W3.heap.size) [0,1,0,0,0,1,0,1,1,0,0,0,0,0] (.fin [0,1,2,3,4,5,6,7,8,9,10,11,12,13]) (by kernel_rfl) ?_;simp only[xi,qP,qA,sD,sE,sF,sG,Option.bind_some]
         repeat first|(refine qz fun K hK=>?_;go_simp;refine hK _ _ ?_;clear hK K)|(apply qC;(intro w2 hw2;have hk1:=hw2.cell;have hk3:=hw2.1;clear hw2;go_simp;with_reducible rfl);simp only[Act.put,sA,sB,sC])|refine qH rfl rfl ?_|(refine qW rfl fun K hK=>?_;simp only[Act.put,sA,sB,sC];refine hK _ _ ?_;clear hK K)
         refine xM (fun K hK=>?_);refine⟨.int .i64 ((fnd (ob:Int) (zg s)).getD 0),fun w2 hw2=>?_,?_⟩
         ·have lk:=LRD.o w2 (hw2.2 m.r HRB.o)
          go_simp
         refine hK _ _ ?_;clear hK K
         repeat first|(refine qz fun K hK=>?_;go_simp;refine hK _ _ ?_;clear hK K)|(apply qC;(intro w2 hw2;have hk1:=hw2.cell;have hk3:=hw2.1;clear hw2;go_simp;with_reducible rfl);simp only[Act.put,sA,sB,sC])|refine qH rfl rfl ?_|(refine qQ rfl rfl fun K hK=>?_;simp only[Act.put,sA,sB,sC];refine hK _ _ ?_;clear hK K)|(refine qW rfl fun K hK=>?_;simp only[Act.put,sA,sB,sC];refine hK _ _ ?_;clear hK K)|refine qu ?_
         go_wp2_with fail;refine bodyPost_ret (v:=.tuple #[.int .i64 k,.bool false]) (by simp[results,Tryz.results66,go_sem]) rfl ?_;refine⟨?_,B13.o.drew.drew.drew⟩;rw[←HRR.o,HE2.o,yx,if_neg HN2.o,if_neg HN0.o];simp only[HF.o];rw[HINI.o,if_neg]
         ·rfl
         ·exact fun h=>HGR.o h.1
       ·have qi:(go==ini)=false:=by simpa using hgi
        have HGI:=qh hgi;clear hgi;refine qI (W3.heap.size) [0,0,0,1,0,1,0,1,0,1,0] (.fin [0,1,2,3,4,5,6,7,8,9,10]) (by kernel_rfl) ?_;simp only[xi,qP,qA,sD,sE,sF,sG]
        repeat first|(refine qz fun K hK=>?_;go_simp;refine hK _ _ ?_;clear hK K)|(apply qC;(intro w2 hw2;have hk1:=hw2.cell;have hk3:=hw2.1;clear hw2;go_simp;with_reducible rfl);simp only[Act.put,sA,sB,sC])
        refine xM (fun K hK=>?_);refine⟨.pointer none,fun w2 hw2=>?_,?_⟩
        ·have lk:=LBY.o w2 (hw2.2 bB HBB.o)
         rw[HBM.o] at lk;simp only[ZA,jF,Option.getD_some,Option.getD_none] at lk;go_simp
        refine hK _ _ ?_;clear hK K
        repeat first|(refine qz fun K hK=>?_;go_simp;refine hK _ _ ?_;clear hK K)|refine qu ?_
        go_wp2_with fail;refine qI (W3.heap.size) [0,1,0,0,0,0,1,0,1,0,0,1,0,0,0,0,0,0,0,1,0,0,0,0,0,1,0,0,0] (.fin [0,1,2,3,4,5,6,7,8,9,10,11,12,13,14,15,16,17,18,19,20,21,22,23,24,25,26,27,28]) (by kernel_rfl) ?_;simp only[xi,qP,qA,sD,sE,sF,sG,Option.bind_some]
        repeat first|(refine qz fun K hK=>?_;go_simp;refine hK _ _ ?_;clear hK K)|(apply qC;(intro w2 hw2;have hk1:=hw2.cell;have hk3:=hw2.1;clear hw2;go_simp;with_reducible rfl);simp only[Act.put,sA,sB,sC])|refine qH rfl rfl ?_|(refine qQ rfl rfl fun K hK=>?_;simp only[Act.put,sA,sB,sC];refine hK _ _ ?_;clear hK K)|(refine qW rfl fun K hK=>?_;simp only[Act.put,sA,sB,sC];refine hK _ _ ?_;clear hK K)|refine qu ?_
        go_wp2_with fail;by_cases hgr:go=(fnd (ob:Int) (zg s)).getD 0
        ·have qr:(go !=(fnd (ob:Int) (zg s)).getD 0)=false:=by simpa using hgr
         have HGR:=qh hgr;clear hgr;refine qI (W3.heap.size) [0,1,0,0,0,1,0,1,1,0,0,0,0,0] (.fin [0,1,2,3,4,5,6,7,8,9,10,11,12,13]) (by kernel_rfl) ?_;simp only[xi,qP,qA,sD,sE,sF,sG,Option.bind_some]
         repeat first|(refine qz fun K hK=>?_;go_simp;refine hK _ _ ?_;clear hK K)|(apply qC;(intro w2 hw2;have hk1:=hw2.cell;have hk3:=hw2.1;clear hw2;go_simp;with_reducible rfl);simp only[Act.put,sA,sB,sC])|refine qH rfl rfl ?_|(refine qW rfl fun K hK=>?_;simp only[Act.put,sA,sB,sC];refine hK _ _ ?_;clear hK K)
         refine xM (fun K hK=>?_);refine⟨.int .i64 ((fnd (ob:Int) (zg s)).getD 0),fun w2 hw2=>?_,?_⟩
         ·have lk:=LRD.o w2 (hw2.2 m.r HRB.o)
          go_simp
         refine hK _ _ ?_;clear hK K
         repeat first|(refine qz fun K hK=>?_;go_simp;refine hK _ _ ?_;clear hK K)|(apply qC;(intro w2 hw2;have hk1:=hw2.cell;have hk3:=hw2.1;clear hw2;go_simp;with_reducible rfl);simp only[Act.put,sA,sB,sC])|refine qH rfl rfl ?_|(refine qQ rfl rfl fun K hK=>?_;simp only[Act.put,sA,sB,sC];refine hK _ _ ?_;clear hK K)|(refine qW rfl fun K hK=>?_;simp only[Act.put,sA,sB,sC];refine hK _ _ ?_;clear hK K)|refine qu ?_
         go_wp2_with fail;refine bodyPost_ret (v:=.tuple #[.int .i64 k,.bool false]) (by simp[results,Tryz.results66,go_sem]) rfl ?_;refine⟨?_,B13.o.drew.drew.drew⟩;rw[←HRR.o,HE2.o,yx,if_neg HN2.o,if_neg HN0.o];simp only[HF.o];rw[HINI.o,if_neg]
         ·rfl
         ·exact fun h=>(not_or.2 ⟨HGI.o,fun h=>by have h:Ym A T i (ob:Int) go=true:=h;rw[HFR.o] at h;cases h⟩) h.2
        ·have qr:(go !=(fnd (ob:Int) (zg s)).getD 0)=true:=by simpa using hgr
         have HGR:=qh hgr;clear hgr;refine qI (W3.heap.size) [0,1,0,0,0,1,0,1,1,0,0,0,0,0] (.fin [0,1,2,3,4,5,6,7,8,9,10,11,12,13]) (by kernel_rfl) ?_;simp only[xi,qP,qA,sD,sE,sF,sG,Option.bind_some]
         repeat first|(refine qz fun K hK=>?_;go_simp;refine hK _ _ ?_;clear hK K)|(apply qC;(intro w2 hw2;have hk1:=hw2.cell;have hk3:=hw2.1;clear hw2;go_simp;with_reducible rfl);simp only[Act.put,sA,sB,sC])|refine qH rfl rfl ?_|(refine qW rfl fun K hK=>?_;simp only[Act.put,sA,sB,sC];refine hK _ _ ?_;clear hK K)
         refine xM (fun K hK=>?_);refine⟨.int .i64 ((fnd (ob:Int) (zg s)).getD 0),fun w2 hw2=>?_,?_⟩
         ·have lk:=LRD.o w2 (hw2.2 m.r HRB.o)
          go_simp
         refine hK _ _ ?_;clear hK K
         repeat first|(refine qz fun K hK=>?_;go_simp;refine hK _ _ ?_;clear hK K)|(apply qC;(intro w2 hw2;have hk1:=hw2.cell;have hk3:=hw2.1;clear hw2;go_simp;with_reducible rfl);simp only[Act.put,sA,sB,sC])|refine qH rfl rfl ?_|(refine qQ rfl rfl fun K hK=>?_;simp only[Act.put,sA,sB,sC];refine hK _ _ ?_;clear hK K)|(refine qW rfl fun K hK=>?_;simp only[Act.put,sA,sB,sC];refine hK _ _ ?_;clear hK K)|refine qu ?_
         go_wp2_with fail;refine bodyPost_ret (v:=.tuple #[.int .i64 k,.bool false]) (by simp[results,Tryz.results66,go_sem]) rfl ?_;refine⟨?_,B13.o.drew.drew.drew⟩;rw[←HRR.o,HE2.o,yx,if_neg HN2.o,if_neg HN0.o];simp only[HF.o];rw[HINI.o,if_neg]
         ·rfl
         ·exact fun h=>HGR.o h.1
      |some j0=>
       have hj0:=Ww hby;obtain⟨mj,sj,g1,g2,hMj⟩:=FW.o.get hj0;have HBM:=qh (show Uz A ms (ZB (ob:Int) go HCk.o)=some (.pointer (some ⟨mj.p,0,none⟩)) by unfold Uz;rw[jF];simp only[hby,Option.bind_some,g1];rfl);have hfr:Ym A T i (ob:Int) go=(decide (j0≠i)&&T.getD j0 false):=by unfold Ym;rw[hby]
       have HPJ:=qh (show mj.p=m.p↔j0=i from⟨fun e=>FW.o.inj j0 i mj m g1 HM.o e,fun e=>by subst e;have:=HM.o;rw[this] at g1;rw[Option.some.inj g1]⟩);have rmm:=qp HRM.o B13.o (qd HRM.o);have hrj:=hMj.row;have HPQX:=qh (fun(X:World) (h1:X.heap[mj.p]?=W3.heap[mj.p]?) (h2:X.heap[m.p]?=W3.heap[m.p]?)=>ZJ (h1.trans hrj) (h2.trans rmm));have HLJ:=qh (qd hrj);have HLM:=qh (qd rmm);have z10:=qa hMj.row 10;simp at z10;have zl:=qd hMj.row;clear hby g1 g2 hMj rmm hrj;by_cases hgi:go=ini
       ·have qi:(go==ini)=true:=by simpa using hgi
        have HGI:=qh hgi;clear hgi;refine qI (W3.heap.size) [0,0,0,1,0,1,0,1,0,1,0] (.fin [0,1,2,3,4,5,6,7,8,9,10]) (by kernel_rfl) ?_;simp only[xi,qP,qA,sD,sE,sF,sG]
        repeat first|(refine qz fun K hK=>?_;go_simp;refine hK _ _ ?_;clear hK K)|(apply qC;(intro w2 hw2;have hk1:=hw2.cell;have hk3:=hw2.1;clear hw2;go_simp;with_reducible rfl);simp only[Act.put,sA,sB,sC])
        refine xM (fun K hK=>?_);refine⟨.pointer (some ⟨mj.p,0,none⟩),fun w2 hw2=>?_,?_⟩
        ·have lk:=LBY.o w2 (hw2.2 bB HBB.o)
         rw[HBM.o] at lk;simp only[ZA,jF,Option.getD_some,Option.getD_none] at lk;go_simp
        refine hK _ _ ?_;clear hK K
        repeat first|(refine qz fun K hK=>?_;go_simp;refine hK _ _ ?_;clear hK K)|refine qu ?_
        go_wp2_with fail;refine qI (W3.heap.size) [0,1,0,0,0,0,1,0,1,0,0,1,0,0,0,0,0,0,0,1,0,0,0,0,0,1,0,0,0] (.fin [0,1,2,3,4,5,6,7,8,9,10,11,12,13,14,15,16,17,18,19,20,21,22,23,24,25,26,27,28]) (by kernel_rfl) ?_;simp only[xi,qP,qA,sD,sE,sF,sG,Option.bind_some]
        repeat first|(refine qz fun K hK=>?_;go_simp;refine hK _ _ ?_;clear hK K)|(apply qC;(intro w2 hw2;have hk1:=hw2.cell;have hk3:=hw2.1;clear hw2;go_simp;with_reducible rfl);simp only[Act.put,sA,sB,sC])|refine qH rfl rfl ?_|(refine qQ rfl rfl fun K hK=>?_;simp only[Act.put,sA,sB,sC];refine hK _ _ ?_;clear hK K)|(refine qW rfl fun K hK=>?_;simp only[Act.put,sA,sB,sC];refine hK _ _ ?_;clear hK K)|refine qu ?_
        go_wp2_with fail;by_cases hgr:go=(fnd (ob:Int) (zg s)).getD 0
        ·have qr:(go !=(fnd (ob:Int) (zg s)).getD 0)=false:=by simpa using hgr
         have HGR:=qh hgr;clear hgr;refine qI (W3.heap.size) [0,1,0,0,0,1,0,1,1,0,0,0,0,0] (.fin [0,1,2,3,4,5,6,7,8,9,10,11,12,13]) (by kernel_rfl) ?_;simp only[xi,qP,qA,sD,sE,sF,sG,Option.bind_some]
         repeat first|(refine qz fun K hK=>?_;go_simp;refine hK _ _ ?_;clear hK K)|(apply qC;(intro w2 hw2;have hk1:=hw2.cell;have hk3:=hw2.1;clear hw2;go_simp;with_reducible rfl);simp only[Act.put,sA,sB,sC])|refine qH rfl rfl ?_|(refine qW rfl fun K hK=>?_;simp only[Act.put,sA,sB,sC];refine hK _ _ ?_;clear hK K)
         refine xM (fun K hK=>?_);refine⟨.int .i64 ((fnd (ob:Int) (zg s)).getD 0),fun w2 hw2=>?_,?_⟩
         ·have lk:=LRD.o w2 (hw2.2 m.r HRB.o)
          go_simp
         refine hK _ _ ?_;clear hK K
         repeat first|(refine qz fun K hK=>?_;go_simp;refine hK _ _ ?_;clear hK K)|(apply qC;(intro w2 hw2;have hk1:=hw2.cell;have hk3:=hw2.1;clear hw2;go_simp;with_reducible rfl);simp only[Act.put,sA,sB,sC])|refine qH rfl rfl ?_|(refine qQ rfl rfl fun K hK=>?_;simp only[Act.put,sA,sB,sC];refine hK _ _ ?_;clear hK K)|(refine qW rfl fun K hK=>?_;simp only[Act.put,sA,sB,sC];refine hK _ _ ?_;clear hK K)|refine qu ?_
         go_wp2_with fail;go_roundw
         case rel=>
          refine⟨k+1,own,by omega,by go_num,qS.drew (qS.drew (qS.drew HOw3.o)),HSo.o,?_,B13.o.drew.drew.drew,hzW⟩;rw[HE2.o,yx,if_neg HN2.o,if_neg HN0.o];simp only[HF.o];rw[HINI.o,if_pos];exact⟨HGR.o,.inl HGI.o⟩
         case measure=>simp[intOf];omega
        ·have qr:(go !=(fnd (ob:Int) (zg s)).getD 0)=true:=by simpa using hgr
         have HGR:=qh hgr;clear hgr;refine qI (W3.heap.size) [0,1,0,0,0,1,0,1,1,0,0,0,0,0] (.fin [0,1,2,3,4,5,6,7,8,9,10,11,12,13]) (by kernel_rfl) ?_;simp only[xi,qP,qA,sD,sE,sF,sG,Option.bind_some]
         repeat first|(refine qz fun K hK=>?_;go_simp;refine hK _ _ ?_;clear hK K)|(apply qC;(intro w2 hw2;have hk1:=hw2.cell;have hk3:=hw2.1;clear hw2;go_simp;with_reducible rfl);simp only[Act.put,sA,sB,sC])|refine qH rfl rfl ?_|(refine qW rfl fun K hK=>?_;simp only[Act.put,sA,sB,sC];refine hK _ _ ?_;clear hK K)
         refine xM (fun K hK=>?_);refine⟨.int .i64 ((fnd (ob:Int) (zg s)).getD 0),fun w2 hw2=>?_,?_⟩
         ·have lk:=LRD.o w2 (hw2.2 m.r HRB.o)
          go_simp
         refine hK _ _ ?_;clear hK K
         repeat first|(refine qz fun K hK=>?_;go_simp;refine hK _ _ ?_;clear hK K)|(apply qC;(intro w2 hw2;have hk1:=hw2.cell;have hk3:=hw2.1;clear hw2;go_simp;with_reducible rfl);simp only[Act.put,sA,sB,sC])|refine qH rfl rfl ?_|(refine qQ rfl rfl fun K hK=>?_;simp only[Act.put,sA,sB,sC];refine hK _ _ ?_;clear hK K)|(refine qW rfl fun K hK=>?_;simp only[Act.put,sA,sB,sC];refine hK _ _ ?_;clear hK K)|refine qu ?_
         go_wp2_with fail;refine bodyPost_ret (v:=.tuple #[.int .i64 k,.bool false]) (by simp[results,Tryz.results66,go_sem]) rfl ?_;refine⟨?_,B13.o.drew.drew.drew⟩;rw[←HRR.o,HE2.o,yx,if_neg HN2.o,if_neg HN0.o];simp only[HF.o];rw[HINI.o,if_neg]
         ·rfl
         ·exact fun h=>HGR.o h.1
       ·have qi:(go==ini)=false:=by simpa using hgi
        have HGI:=qh hgi;clear hgi;by_cases hji:j0=i
        ·have hpe:=HPJ.o.2 hji
         have HDC:=qh (show decide (mj.p=m.p)=true by simpa using hpe);have HFR:=qh (show Ym A T i (ob:Int) go=false by rw[hfr];simp[hji]);clear hpe hji hfr;refine qI (W3.heap.size) [0,0,0,1,0,1,0,1,0,1,0] (.fin [0,1,2,3,4,5,6,7,8,9,10]) (by kernel_rfl) ?_;simp only[xi,qP,qA,sD,sE,sF,sG]
         repeat first|(refine qz fun K hK=>?_;go_simp;refine hK _ _ ?_;clear hK K)|(apply qC;(intro w2 hw2;have hk1:=hw2.cell;have hk3:=hw2.1;clear hw2;go_simp;with_reducible rfl);simp only[Act.put,sA,sB,sC])
         refine xM (fun K hK=>?_);refine⟨.pointer (some ⟨mj.p,0,none⟩),fun w2 hw2=>?_,?_⟩
         ·have lk:=LBY.o w2 (hw2.2 bB HBB.o)
          rw[HBM.o] at lk;simp only[ZA,jF,Option.getD_some,Option.getD_none] at lk;go_simp
         refine hK _ _ ?_;clear hK K
         repeat first|(refine qz fun K hK=>?_;go_simp;refine hK _ _ ?_;clear hK K)|refine qu ?_
         go_wp2_with fail;refine qI (W3.heap.size) [0,1,0,0,0,0,1,0,1,0,0,1,0,0,0,0,0,0,0,1,0,0,0,0,0,1,0,0,0] (.fin [0,1,2,3,4,5,6,7,8,9,10,11,12,13,14,15,16,17,18,19,20,21,22,23,24,25,26,27,28]) (by kernel_rfl) ?_;simp only[xi,qP,qA,sD,sE,sF,sG,Option.bind_some]
         repeat first|(refine qz fun K hK=>?_;go_simp;refine hK _ _ ?_;clear hK K)|(apply qC;(intro w2 hw2;have hk1:=hw2.cell;have hk3:=hw2.1;clear hw2;go_simp;with_reducible rfl);simp only[Act.put,sA,sB,sC])|refine qH rfl rfl ?_|(refine qQ rfl rfl fun K hK=>?_;simp only[Act.put,sA,sB,sC];refine hK _ _ ?_;clear hK K)|(refine qW rfl fun K hK=>?_;simp only[Act.put,sA,sB,sC];refine hK _ _ ?_;clear hK K)|refine qu ?_
         refine xM (fun K hK=>?_);refine⟨.bool false,fun w2 hw2=>?_,?_⟩
         ·have lk:=HPQX.o w2 (hw2.2 mj.p HLJ.o) (hw2.2 m.p HLM.o)
          rw[HDC.o] at lk;go_simp
         refine hK _ _ ?_;clear hK K
         repeat first|(refine qz fun K hK=>?_;go_simp;refine hK _ _ ?_;clear hK K)|(apply qC;(intro w2 hw2;have hk1:=hw2.cell;have hk3:=hw2.1;clear hw2;go_simp;with_reducible rfl);simp only[Act.put,sA,sB,sC])|refine qH rfl rfl ?_|(refine qQ rfl rfl fun K hK=>?_;simp only[Act.put,sA,sB,sC];refine hK _ _ ?_;clear hK K)|(refine qW rfl fun K hK=>?_;simp only[Act.put,sA,sB,sC];refine hK _ _ ?_;clear hK K)|refine qu ?_
         go_wp2_with fail;by_cases hgr:go=(fnd (ob:Int) (zg s)).getD 0
         ·have qr:(go !=(fnd (ob:Int) (zg s)).getD 0)=false:=by simpa using hgr
          have HGR:=qh hgr;clear hgr;refine qI (W3.heap.size) [0,1,0,0,0,1,0,1,1,0,0,0,0,0] (.fin [0,1,2,3,4,5,6,7,8,9,10,11,12,13]) (by kernel_rfl) ?_;simp only[xi,qP,qA,sD,sE,sF,sG,Option.bind_some]
          repeat first|(refine qz fun K hK=>?_;go_simp;refine hK _ _ ?_;clear hK K)|(apply qC;(intro w2 hw2;have hk1:=hw2.cell;have hk3:=hw2.1;clear hw2;go_simp;with_reducible rfl);simp only[Act.put,sA,sB,sC])|refine qH rfl rfl ?_|(refine qW rfl fun K hK=>?_;simp only[Act.put,sA,sB,sC];refine hK _ _ ?_;clear hK K)
          refine xM (fun K hK=>?_);refine⟨.int .i64 ((fnd (ob:Int) (zg s)).getD 0),fun w2 hw2=>?_,?_⟩
          ·have lk:=LRD.o w2 (hw2.2 m.r HRB.o)
           go_simp
          refine hK _ _ ?_;clear hK K
          repeat first|(refine qz fun K hK=>?_;go_simp;refine hK _ _ ?_;clear hK K)|(apply qC;(intro w2 hw2;have hk1:=hw2.cell;have hk3:=hw2.1;clear hw2;go_simp;with_reducible rfl);simp only[Act.put,sA,sB,sC])|refine qH rfl rfl ?_|(refine qQ rfl rfl fun K hK=>?_;simp only[Act.put,sA,sB,sC];refine hK _ _ ?_;clear hK K)|(refine qW rfl fun K hK=>?_;simp only[Act.put,sA,sB,sC];refine hK _ _ ?_;clear hK K)|refine qu ?_
          go_wp2_with fail;refine bodyPost_ret (v:=.tuple #[.int .i64 k,.bool false]) (by simp[results,Tryz.results66,go_sem]) rfl ?_;refine⟨?_,B13.o.drew.drew.drew⟩;rw[←HRR.o,HE2.o,yx,if_neg HN2.o,if_neg HN0.o];simp only[HF.o];rw[HINI.o,if_neg]
          ·rfl
          ·exact fun h=>(not_or.2 ⟨HGI.o,fun h=>by have h:Ym A T i (ob:Int) go=true:=h;rw[HFR.o] at h;cases h⟩) h.2
         ·have qr:(go !=(fnd (ob:Int) (zg s)).getD 0)=true:=by simpa using hgr
          have HGR:=qh hgr;clear hgr;refine qI (W3.heap.size) [0,1,0,0,0,1,0,1,1,0,0,0,0,0] (.fin [0,1,2,3,4,5,6,7,8,9,10,11,12,13]) (by kernel_rfl) ?_;simp only[xi,qP,qA,sD,sE,sF,sG,Option.bind_some]
          repeat first|(refine qz fun K hK=>?_;go_simp;refine hK _ _ ?_;clear hK K)|(apply qC;(intro w2 hw2;have hk1:=hw2.cell;have hk3:=hw2.1;clear hw2;go_simp;with_reducible rfl);simp only[Act.put,sA,sB,sC])|refine qH rfl rfl ?_|(refine qW rfl fun K hK=>?_;simp only[Act.put,sA,sB,sC];refine hK _ _ ?_;clear hK K)
          refine xM (fun K hK=>?_);refine⟨.int .i64 ((fnd (ob:Int) (zg s)).getD 0),fun w2 hw2=>?_,?_⟩
          ·have lk:=LRD.o w2 (hw2.2 m.r HRB.o)
           go_simp
          refine hK _ _ ?_;clear hK K
          repeat first|(refine qz fun K hK=>?_;go_simp;refine hK _ _ ?_;clear hK K)|(apply qC;(intro w2 hw2;have hk1:=hw2.cell;have hk3:=hw2.1;clear hw2;go_simp;with_reducible rfl);simp only[Act.put,sA,sB,sC])|refine qH rfl rfl ?_|(refine qQ rfl rfl fun K hK=>?_;simp only[Act.put,sA,sB,sC];refine hK _ _ ?_;clear hK K)|(refine qW rfl fun K hK=>?_;simp only[Act.put,sA,sB,sC];refine hK _ _ ?_;clear hK K)|refine qu ?_
          go_wp2_with fail;refine bodyPost_ret (v:=.tuple #[.int .i64 k,.bool false]) (by simp[results,Tryz.results66,go_sem]) rfl ?_;refine⟨?_,B13.o.drew.drew.drew⟩;rw[←HRR.o,HE2.o,yx,if_neg HN2.o,if_neg HN0.o];simp only[HF.o];rw[HINI.o,if_neg]
          ·rfl
          ·exact fun h=>HGR.o h.1
        ·have hpe:¬mj.p=m.p:=fun e=>hji (HPJ.o.1 e)
         have HDC:=qh (show decide (mj.p=m.p)=false by simpa using hpe);obtain⟨tb,htb⟩:∃tb,T[j0]?.getD false=tb:=⟨_,rfl⟩
         rw[htb] at z10;have HFR:=qh (show Ym A T i (ob:Int) go=tb by rw[hfr,List.getD_eq_getElem?_getD,htb];simp[hji]);clear hpe hji hfr htb;cases tb with
         |true=>
          refine qI (W3.heap.size) [0,0,0,1,0,1,0,1,0,1,0] (.fin [0,1,2,3,4,5,6,7,8,9,10]) (by kernel_rfl) ?_;simp only[xi,qP,qA,sD,sE,sF,sG]
          repeat first|(refine qz fun K hK=>?_;go_simp;refine hK _ _ ?_;clear hK K)|(apply qC;(intro w2 hw2;have hk1:=hw2.cell;have hk3:=hw2.1;clear hw2;go_simp;with_reducible rfl);simp only[Act.put,sA,sB,sC])
          refine xM (fun K hK=>?_);refine⟨.pointer (some ⟨mj.p,0,none⟩),fun w2 hw2=>?_,?_⟩
          ·have lk:=LBY.o w2 (hw2.2 bB HBB.o)
           rw[HBM.o] at lk;simp only[ZA,jF,Option.getD_some,Option.getD_none] at lk;go_simp
          refine hK _ _ ?_;clear hK K
          repeat first|(refine qz fun K hK=>?_;go_simp;refine hK _ _ ?_;clear hK K)|refine qu ?_
          go_wp2_with fail;refine qI (W3.heap.size) [0,1,0,0,0,0,1,0,1,0,0,1,0,0,0,0,0,0,0,1,0,0,0,0,0,1,0,0,0] (.fin [0,1,2,3,4,5,6,7,8,9,10,11,12,13,14,15,16,17,18,19,20,21,22,23,24,25,26,27,28]) (by kernel_rfl) ?_;simp only[xi,qP,qA,sD,sE,sF,sG,Option.bind_some]
          repeat first|(refine qz fun K hK=>?_;go_simp;refine hK _ _ ?_;clear hK K)|(apply qC;(intro w2 hw2;have hk1:=hw2.cell;have hk3:=hw2.1;clear hw2;go_simp;with_reducible rfl);simp only[Act.put,sA,sB,sC])|refine qH rfl rfl ?_|(refine qQ rfl rfl fun K hK=>?_;simp only[Act.put,sA,sB,sC];refine hK _ _ ?_;clear hK K)|(refine qW rfl fun K hK=>?_;simp only[Act.put,sA,sB,sC];refine hK _ _ ?_;clear hK K)|refine qu ?_
          refine xM (fun K hK=>?_);refine⟨.bool true,fun w2 hw2=>?_,?_⟩
          ·have lk:=HPQX.o w2 (hw2.2 mj.p HLJ.o) (hw2.2 m.p HLM.o)
           rw[HDC.o] at lk;go_simp
          refine hK _ _ ?_;clear hK K
          repeat first|(refine qz fun K hK=>?_;go_simp;refine hK _ _ ?_;clear hK K)|(apply qC;(intro w2 hw2;have hk1:=hw2.cell;have hk3:=hw2.1;clear hw2;go_simp;with_reducible rfl);simp only[Act.put,sA,sB,sC])|refine qH rfl rfl ?_|(refine qQ rfl rfl fun K hK=>?_;simp only[Act.put,sA,sB,sC];refine hK _ _ ?_;clear hK K)|(refine qW rfl fun K hK=>?_;simp only[Act.put,sA,sB,sC];refine hK _ _ ?_;clear hK K)|refine qu ?_
          go_wp2_with fail;by_cases hgr:go=(fnd (ob:Int) (zg s)).getD 0
          ·have qr:(go !=(fnd (ob:Int) (zg s)).getD 0)=false:=by simpa using hgr
           have HGR:=qh hgr;clear hgr;refine qI (W3.heap.size) [0,1,0,0,0,1,0,1,1,0,0,0,0,0] (.fin [0,1,2,3,4,5,6,7,8,9,10,11,12,13]) (by kernel_rfl) ?_;simp only[xi,qP,qA,sD,sE,sF,sG,Option.bind_some]
           repeat first|(refine qz fun K hK=>?_;go_simp;refine hK _ _ ?_;clear hK K)|(apply qC;(intro w2 hw2;have hk1:=hw2.cell;have hk3:=hw2.1;clear hw2;go_simp;with_reducible rfl);simp only[Act.put,sA,sB,sC])|refine qH rfl rfl ?_|(refine qW rfl fun K hK=>?_;simp only[Act.put,sA,sB,sC];refine hK _ _ ?_;clear hK K)
           refine xM (fun K hK=>?_);refine⟨.int .i64 ((fnd (ob:Int) (zg s)).getD 0),fun w2 hw2=>?_,?_⟩
           ·have lk:=LRD.o w2 (hw2.2 m.r HRB.o)
            go_simp
           refine hK _ _ ?_;clear hK K
           repeat first|(refine qz fun K hK=>?_;go_simp;refine hK _ _ ?_;clear hK K)|(apply qC;(intro w2 hw2;have hk1:=hw2.cell;have hk3:=hw2.1;clear hw2;go_simp;with_reducible rfl);simp only[Act.put,sA,sB,sC])|refine qH rfl rfl ?_|(refine qQ rfl rfl fun K hK=>?_;simp only[Act.put,sA,sB,sC];refine hK _ _ ?_;clear hK K)|(refine qW rfl fun K hK=>?_;simp only[Act.put,sA,sB,sC];refine hK _ _ ?_;clear hK K)|refine qu ?_
           go_wp2_with fail;go_roundw
           case rel=>
            refine⟨k+1,own,by omega,by go_num,qS.drew (qS.drew (qS.drew HOw3.o)),HSo.o,?_,B13.o.drew.drew.drew,hzW⟩;rw[HE2.o,yx,if_neg HN2.o,if_neg HN0.o];simp only[HF.o];rw[HINI.o,if_pos];exact⟨HGR.o,.inr HFR.o⟩
           case measure=>simp[intOf];omega
          ·have qr:(go !=(fnd (ob:Int) (zg s)).getD 0)=true:=by simpa using hgr
           have HGR:=qh hgr;clear hgr;refine qI (W3.heap.size) [0,1,0,0,0,1,0,1,1,0,0,0,0,0] (.fin [0,1,2,3,4,5,6,7,8,9,10,11,12,13]) (by kernel_rfl) ?_;simp only[xi,qP,qA,sD,sE,sF,sG,Option.bind_some]
           repeat first|(refine qz fun K hK=>?_;go_simp;refine hK _ _ ?_;clear hK K)|(apply qC;(intro w2 hw2;have hk1:=hw2.cell;have hk3:=hw2.1;clear hw2;go_simp;with_reducible rfl);simp only[Act.put,sA,sB,sC])|refine qH rfl rfl ?_|(refine qW rfl fun K hK=>?_;simp only[Act.put,sA,sB,sC];refine hK _ _ ?_;clear hK K)
           refine xM (fun K hK=>?_);refine⟨.int .i64 ((fnd (ob:Int) (zg s)).getD 0),fun w2 hw2=>?_,?_⟩
           ·have lk:=LRD.o w2 (hw2.2 m.r HRB.o)
            go_simp
           refine hK _ _ ?_;clear hK K
           repeat first|(refine qz fun K hK=>?_;go_simp;refine hK _ _ ?_;clear hK K)|(apply qC;(intro w2 hw2;have hk1:=hw2.cell;have hk3:=hw2.1;clear hw2;go_simp;with_reducible rfl);simp only[Act.put,sA,sB,sC])|refine qH rfl rfl ?_|(refine qQ rfl rfl fun K hK=>?_;simp only[Act.put,sA,sB,sC];refine hK _ _ ?_;clear hK K)|(refine qW rfl fun K hK=>?_;simp only[Act.put,sA,sB,sC];refine hK _ _ ?_;clear hK K)|refine qu ?_
           go_wp2_with fail;refine bodyPost_ret (v:=.tuple #[.int .i64 k,.bool false]) (by simp[results,Tryz.results66,go_sem]) rfl ?_;refine⟨?_,B13.o.drew.drew.drew⟩;rw[←HRR.o,HE2.o,yx,if_neg HN2.o,if_neg HN0.o];simp only[HF.o];rw[HINI.o,if_neg]
           ·rfl
           ·exact fun h=>HGR.o h.1
         |false=>
          refine qI (W3.heap.size) [0,0,0,1,0,1,0,1,0,1,0] (.fin [0,1,2,3,4,5,6,7,8,9,10]) (by kernel_rfl) ?_;simp only[xi,qP,qA,sD,sE,sF,sG]
          repeat first|(refine qz fun K hK=>?_;go_simp;refine hK _ _ ?_;clear hK K)|(apply qC;(intro w2 hw2;have hk1:=hw2.cell;have hk3:=hw2.1;clear hw2;go_simp;with_reducible rfl);simp only[Act.put,sA,sB,sC])
          refine xM (fun K hK=>?_);refine⟨.pointer (some ⟨mj.p,0,none⟩),fun w2 hw2=>?_,?_⟩
          ·have lk:=LBY.o w2 (hw2.2 bB HBB.o)
           rw[HBM.o] at lk;simp only[ZA,jF,Option.getD_some,Option.getD_none] at lk;go_simp
          refine hK _ _ ?_;clear hK K
          repeat first|(refine qz fun K hK=>?_;go_simp;refine hK _ _ ?_;clear hK K)|refine qu ?_
          go_wp2_with fail;refine qI (W3.heap.size) [0,1,0,0,0,0,1,0,1,0,0,1,0,0,0,0,0,0,0,1,0,0,0,0,0,1,0,0,0] (.fin [0,1,2,3,4,5,6,7,8,9,10,11,12,13,14,15,16,17,18,19,20,21,22,23,24,25,26,27,28]) (by kernel_rfl) ?_;simp only[xi,qP,qA,sD,sE,sF,sG,Option.bind_some]
          repeat first|(refine qz fun K hK=>?_;go_simp;refine hK _ _ ?_;clear hK K)|(apply qC;(intro w2 hw2;have hk1:=hw2.cell;have hk3:=hw2.1;clear hw2;go_simp;with_reducible rfl);simp only[Act.put,sA,sB,sC])|refine qH rfl rfl ?_|(refine qQ rfl rfl fun K hK=>?_;simp only[Act.put,sA,sB,sC];refine hK _ _ ?_;clear hK K)|(refine qW rfl fun K hK=>?_;simp only[Act.put,sA,sB,sC];refine hK _ _ ?_;clear hK K)|refine qu ?_
          refine xM (fun K hK=>?_);refine⟨.bool true,fun w2 hw2=>?_,?_⟩
          ·have lk:=HPQX.o w2 (hw2.2 mj.p HLJ.o) (hw2.2 m.p HLM.o)
           rw[HDC.o] at lk;go_simp
          refine hK _ _ ?_;clear hK K
          repeat first|(refine qz fun K hK=>?_;go_simp;refine hK _ _ ?_;clear hK K)|(apply qC;(intro w2 hw2;have hk1:=hw2.cell;have hk3:=hw2.1;clear hw2;go_simp;with_reducible rfl);simp only[Act.put,sA,sB,sC])|refine qH rfl rfl ?_|(refine qQ rfl rfl fun K hK=>?_;simp only[Act.put,sA,sB,sC];refine hK _ _ ?_;clear hK K)|(refine qW rfl fun K hK=>?_;simp only[Act.put,sA,sB,sC];refine hK _ _ ?_;clear hK K)|refine qu ?_
          go_wp2_with fail;by_cases hgr:go=(fnd (ob:Int) (zg s)).getD 0
          ·have qr:(go !=(fnd (ob:Int) (zg s)).getD 0)=false:=by simpa using hgr
           have HGR:=qh hgr;clear hgr;refine qI (W3.heap.size) [0,1,0,0,0,1,0,1,1,0,0,0,0,0] (.fin [0,1,2,3,4,5,6,7,8,9,10,11,12,13]) (by kernel_rfl) ?_;simp only[xi,qP,qA,sD,sE,sF,sG,Option.bind_some]
           repeat first|(refine qz fun K hK=>?_;go_simp;refine hK _ _ ?_;clear hK K)|(apply qC;(intro w2 hw2;have hk1:=hw2.cell;have hk3:=hw2.1;clear hw2;go_simp;with_reducible rfl);simp only[Act.put,sA,sB,sC])|refine qH rfl rfl ?_|(refine qW rfl fun K hK=>?_;simp only[Act.put,sA,sB,sC];refine hK _ _ ?_;clear hK K)
           refine xM (fun K hK=>?_);refine⟨.int .i64 ((fnd (ob:Int) (zg s)).getD 0),fun w2 hw2=>?_,?_⟩
           ·have lk:=LRD.o w2 (hw2.2 m.r HRB.o)
            go_simp
           refine hK _ _ ?_;clear hK K
           repeat first|(refine qz fun K hK=>?_;go_simp;refine hK _ _ ?_;clear hK K)|(apply qC;(intro w2 hw2;have hk1:=hw2.cell;have hk3:=hw2.1;clear hw2;go_simp;with_reducible rfl);simp only[Act.put,sA,sB,sC])|refine qH rfl rfl ?_|(refine qQ rfl rfl fun K hK=>?_;simp only[Act.put,sA,sB,sC];refine hK _ _ ?_;clear hK K)|(refine qW rfl fun K hK=>?_;simp only[Act.put,sA,sB,sC];refine hK _ _ ?_;clear hK K)|refine qu ?_
           go_wp2_with fail;refine bodyPost_ret (v:=.tuple #[.int .i64 k,.bool false]) (by simp[results,Tryz.results66,go_sem]) rfl ?_;refine⟨?_,B13.o.drew.drew.drew⟩;rw[←HRR.o,HE2.o,yx,if_neg HN2.o,if_neg HN0.o];simp only[HF.o];rw[HINI.o,if_neg]
           ·rfl
           ·exact fun h=>(not_or.2 ⟨HGI.o,fun h=>by have h:Ym A T i (ob:Int) go=true:=h;rw[HFR.o] at h;cases h⟩) h.2
          ·have qr:(go !=(fnd (ob:Int) (zg s)).getD 0)=true:=by simpa using hgr
           have HGR:=qh hgr;clear hgr;refine qI (W3.heap.size) [0,1,0,0,0,1,0,1,1,0,0,0,0,0] (.fin [0,1,2,3,4,5,6,7,8,9,10,11,12,13]) (by kernel_rfl) ?_;simp only[xi,qP,qA,sD,sE,sF,sG,Option.bind_some]
           repeat first|(refine qz fun K hK=>?_;go_simp;refine hK _ _ ?_;clear hK K)|(apply qC;(intro w2 hw2;have hk1:=hw2.cell;have hk3:=hw2.1;clear hw2;go_simp;with_reducible rfl);simp only[Act.put,sA,sB,sC])|refine qH rfl rfl ?_|(refine qW rfl fun K hK=>?_;simp only[Act.put,sA,sB,sC];refine hK _ _ ?_;clear hK K)
           refine xM (fun K hK=>?_);refine⟨.int .i64 ((fnd (ob:Int) (zg s)).getD 0),fun w2 hw2=>?_,?_⟩
           ·have lk:=LRD.o w2 (hw2.2 m.r HRB.o)
            go_simp
           refine hK _ _ ?_;clear hK K
           repeat first|(refine qz fun K hK=>?_;go_simp;refine hK _ _ ?_;clear hK K)|(apply qC;(intro w2 hw2;have hk1:=hw2.cell;have hk3:=hw2.1;clear hw2;go_simp;with_reducible rfl);simp only[Act.put,sA,sB,sC])|refine qH rfl rfl ?_|(refine qQ rfl rfl fun K hK=>?_;simp only[Act.put,sA,sB,sC];refine hK _ _ ?_;clear hK K)|(refine qW rfl fun K hK=>?_;simp only[Act.put,sA,sB,sC];refine hK _ _ ?_;clear hK K)|refine qu ?_
           go_wp2_with fail;refine bodyPost_ret (v:=.tuple #[.int .i64 k,.bool false]) (by simp[results,Tryz.results66,go_sem]) rfl ?_;refine⟨?_,B13.o.drew.drew.drew⟩;rw[←HRR.o,HE2.o,yx,if_neg HN2.o,if_neg HN0.o];simp only[HF.o];rw[HINI.o,if_neg]
           ·rfl
           ·exact fun h=>HGR.o h.1
  ·obtain rfl:k=ds.length:=by omega
   have hq:decide ((ds.length:Int) < (ds.length:Int))=false:=by simp
   have HND:=qh (show R=none by rw[←HRR.o,HE.o,List.drop_length];rfl);go_wp2_with fail;refine bodyPost_ret (v:=.tuple #[.int .i64 0,.bool true]) (by simp[results,Tryz.results66,go_sem]) rfl ?_;exact⟨by rw[HND.o];rfl,HB.o⟩
end
end
def Ux (i:Nat) (g:Int):List Ev:=[⟨1,i,0,0,0,0,0,0⟩,⟨2,i,0,0,1,0,0,0⟩,⟨3,i,0,0,0,0,g,3⟩,⟨2,i,0,0,2,0,i,0⟩,⟨3,i,0,0,0,0,0,1⟩,⟨4,i,0,0,0,0,0,0⟩,⟨5,i,0,0,0,0,0,0⟩]
def xV (bend:Int) (i:Nat):Int:=if (i:Int)=bend then i - 2 else i - 1
def ZC (bend:Int):Nat->List Ev
 |0=>[]
 |n+1=>ZC bend n++Ux (n+1) (xV bend (n+1))
def yQ (bend:Int) (k:Nat):St:=⟨(k+1:Nat),0,3,(7*k:Nat),(7*k+6:Nat),(7*k+5:Nat),[⟨0,1,0,0,3,xV bend (k+1),(7*k+1:Nat),(7*k+2:Nat)⟩,⟨0,2,0,(k+1:Nat),1,0,(7*k+3:Nat),(7*k+4:Nat)⟩],5⟩
def jm (bend:Int) (n:Nat):Au:=(List.range n).map (yQ bend)
section
variable {bend:Int}
theorem vU:∀n,(ZC bend n).length=7*n
 |0=>rfl
 |n+1=>by simp[ZC,vU n,Ux];omega
theorem jl (n:Nat):(jm bend n).length=n:=by simp[jm]
theorem ze {n k:Nat} (h:k < n):(jm bend n)[k]?=some (yQ bend k):=by simp[jm,h]
theorem ZM {n:Nat} {s:St} (h:s ∈ jm bend n):∃k,k < n/\s=yQ bend k:=by
 obtain⟨k,hk,rfl⟩:=List.mem_map.1 h;exact⟨k,List.mem_range.1 hk,rfl⟩
theorem qbp {A:Au} {s s':St}:(A++[s]).set A.length s'=A++[s']:=by simp
theorem Xb:∀n,Rc (ZC bend n) (jm bend n)
 |0=>.nil
 |n+1=>by
  have h0:=Xb n;have hl:=vU (bend:=bend) n;have hA:=jl (bend:=bend) n;have hno:¬uw ((n+1:Nat):Int) (jm bend n):=by
   rintro⟨s,hs,he⟩;obtain⟨k,hk,rfl⟩:=ZM hs;have he:((k+1:Nat):Int)=((n+1:Nat):Int):=he;omega
  have hnb:¬yI 0 (jm bend n):=by
   rintro⟨s,hs,-,he⟩;obtain⟨k,hk,rfl⟩:=ZM hs;exact he rfl
  have e:jm bend (n+1)=jm bend n++[yQ bend n]:=by simp[jm,List.range_succ]
  rw[e];generalize jm bend n=A at *;obtain⟨g,hg⟩:∃g,xV bend (n+1)=g:=⟨_,rfl⟩
  unfold ZC yQ;rw[hg];generalize ZC bend n=l at *;have at_:∀s:St,(A++[s])[A.length]?=some s:=fun s=>by simp
  have f1:Rc (l++[⟨1,(n+1:Nat),0,0,0,0,0,0⟩]) (A++[Qq ⟨1,(n+1:Nat),0,0,0,0,0,0⟩ (7*n)]):=by
   have:=Rc.snoc h0 (qdy.begin (n:=l.length) (e:=⟨1,(n+1:Nat),0,0,0,0,0,0⟩) rfl hno hnb)
   rwa [hl] at this
  have mv:∀(l':List Ev) (m:Nat) (s s':St) (e:Ev),l'.length=m->Rc l' (A++[s])->e.kind≠1->s.id=e.tx->jC m e s=some s'->Rc (l'++[e]) (A++[s']):=fun l' m s s' e hm0 hf hk hi hm=>by
   subst hm0;have:=Rc.snoc hf (qdy.move (n:=l'.length) A.length s s' hk (at_ s) hi hm)
   rwa [qbp] at this
  have f2:=mv _ (7*n+1) _ _ ⟨2,(n+1:Nat),0,0,1,0,0,0⟩ (by simp[hl]) f1 (by show(2:Int)≠1;decide) rfl rfl;have f3:=mv _ (7*n+2) _ _ ⟨3,(n+1:Nat),0,0,0,0,g,3⟩ (by simp[hl]) f2 (by show(3:Int)≠1;decide) rfl rfl;have f4:=mv _ (7*n+3) _ _ ⟨2,(n+1:Nat),0,0,2,0,(n+1:Nat),0⟩ (by simp[hl]) f3 (by show(2:Int)≠1;decide) rfl rfl;have f5:=mv _ (7*n+4) _ _ ⟨3,(n+1:Nat),0,0,0,0,0,1⟩ (by simp[hl]) f4 (by show(3:Int)≠1;decide) rfl rfl;have f6:=mv _ (7*n+5) _ _ ⟨4,(n+1:Nat),0,0,0,0,0,0⟩ (by simp[hl]) f5 (by show(4:Int)≠1;decide) rfl rfl;have f7:=mv _ (7*n+6) _ _ ⟨5,(n+1:Nat),0,0,0,0,0,0⟩ (by simp[hl]) f6 (by show(5:Int)≠1;decide) rfl rfl;simp only[List.append_assoc,List.cons_append,List.nil_append] at f7;exact f7
theorem JZ (k:Nat):zg (yQ bend k)=[(0,xV bend (k+1))]:=by simp[zg,xQ,yO,yQ,upd]
theorem MA (k:Nat):ja (yQ bend k)=[(0,((k+1:Nat):Int))]:=by simp[ja,xO,yQ,upd]
theorem byGo {n:Nat} {v:Int} {A:Au} (hA:∀k,k < n->A[k]?=some (yQ bend k)):(List.range n).foldl (by1 A 0 v) none=if 1<=v/\v<=n then some (v.toNat - 1) else none:=by
 induction n with
 |zero=>simp;omega
 |succ n ih=>
  rw[List.range_succ,List.foldl_append,ih fun k hk=>hA k (by omega)];simp only[List.foldl_cons,List.foldl_nil,by1,hA n (Nat.lt_succ_self n),MA];have hm:Jr (yQ bend n)=true:=by simp[Jr,yQ]
  rw[hm];by_cases e:v=(n+1:Nat)
  ·subst e
   simp[fnd];omega
  ·have e2:¬((n:Int)+1=v):=by omega
   simp[fnd,e2]
   split <;> split <;> first|rfl|omega
theorem qfj {n:Nat} {v:Int}:Re (jm bend n) 0 v=if 1<=v/\v<=n then some (v.toNat - 1) else none:=by
 unfold Re;rw[jl];exact byGo fun k hk=>ze hk
theorem qdg (n:Nat):yY (jm bend n)=List.replicate n true:=by
 refine List.ext_getElem (by simp[yY,jm]) fun i h1 h2=>?_;simp[yY,jm,yQ]
theorem qbn {n j:Nat}:(List.replicate n true).set j true=List.replicate n true:=by
 refine List.ext_getElem (by simp) fun i h1 h2=>?_;simp[List.getElem_set]
theorem RY {A:Au} {i n:Nat} (p:Int×Int):Zi A i (List.replicate n true) p=List.replicate n true:=by
 unfold Zi
 split
 ·split
  ·rfl
  ·exact qbn
 ·rfl
theorem UZ {A:Au} {i n:Nat}:∀m:Mi,Yc A i m (List.replicate n true)=List.replicate n true
 |[]=>rfl
 |p::m=>by
  unfold Yc;rw[List.foldl_cons,RY];exact UZ m
theorem Ry {lev:Int} {A:Au} {n i:Nat}:Zf lev A (List.replicate n true) i=List.replicate n true:=by
 unfold Zf
 split
 ·split
  ·exact UZ _
  ·rfl
 ·rfl
theorem qaj {lev:Int} {A:Au} {n:Nat}:XX lev A (List.replicate n true)=List.replicate n true:=by
 unfold XX;generalize List.range A.length=r
 induction r with
 |nil=>rfl
 |cons i r ih=>rw[List.foldl_cons,Ry];exact ih
theorem KB {lev:Int} {A:Au} {n:Nat}:∀k,Yo lev A k (List.replicate n true)=List.replicate n true
 |0=>rfl
 |k+1=>by rw[Yo,qaj];exact KB k
theorem vm {lev:Int} (n:Nat):xd lev (jm bend n)=List.replicate n true:=by unfold xd;rw[qdg];exact KB _
theorem qeQ {n k:Nat} (hk:k < n) (hb:bend≠1\/k≠0):yx [0] (jm bend n) (List.replicate n true) k (zg (yQ bend k)) 0 [] (yQ bend k).deeds=none:=by
 have hg:xV bend (k+1)=0\/∃j:Nat,j < k/\xV bend (k+1)=(j+1:Nat):=by
  unfold xV
  split
  ·rcases Nat.lt_trichotomy k 1 with h|h|h
   ·exfalso;omega
   ·left;omega
   ·right;exact⟨k - 2,by omega,by omega⟩
  ·rcases Nat.eq_zero_or_pos k with h|h
   ·left;omega
   ·right;exact⟨k - 1,by omega,by omega⟩
 rw[JZ];simp only[yQ,yx,fnd];rw[if_neg (by decide),if_neg (by decide)];have hcond:xV bend (k+1)=0\/(match Re (jm bend n) 0 (xV bend (k+1)) with
   |some j=>decide (j≠k)&&(List.replicate n true).getD j false
   |none=>false)=true:=by
  rcases hg with h|⟨j,hj,h⟩
  ·exact .inl h
  ·right
   rw[h,qfj,if_pos (by omega)];have e:((j+1:Nat):Int).toNat - 1=j:=by omega
   simp[e,List.getD_eq_getElem?_getD,show j < n by omega,show j≠k by omega]
 simp only[if_true,Option.getD_some,List.getD_cons_zero,Int.toNat_zero];rw[if_pos ⟨trivial,hcond⟩]
theorem qdc {i j:Nat}:rly (yQ bend i) (yQ bend j)=decide (i < j):=by
 unfold rly yQ;simp only;by_cases h:i < j
 ·simp [h];omega
 ·simp [h];omega
end
section
variable {bend:Int} {n i j:Nat}
theorem qaM {f:Int->Bool}:uK (ja (yQ bend i)) (zg (yQ bend j)) f=(decide (xV bend (j+1)=((i+1:Nat):Int))&&f 0):=by
 rw[MA,JZ];simp[uK,fnd];rfl
theorem Vx {f:Int->Bool}:uK (zg (yQ bend i)) (zg (yQ bend j)) f=(decide (xV bend (j+1)=xV bend (i+1))&&f 0):=by
 rw[JZ,JZ];simp[uK,fnd];rfl
theorem Vv:(fnd 0 (ja (yQ bend j))).isSome=true:=by rw[MA];rfl
theorem MD (hb:¬(1<=bend/\bend<=n)) (hj:j < n) {f:Int->Bool} (h:uK (ja (yQ bend i)) (zg (yQ bend j)) f=true):i < j:=by
 rw[qaM] at h;simp at h;have:=h.1;unfold xV at this
 split at this <;> omega
theorem qeU (hb:¬(1<=bend/\bend<=n)) (hi:i < n) (hj:j < n) {f:Int->Bool} (h:uK (zg (yQ bend i)) (zg (yQ bend j)) f=true):i=j:=by
 rw[Vx] at h;simp at h;have:=h.1;unfold xV at this
 split at this <;> split at this <;> omega
theorem qeS {k:Nat} (hk:bend=(k+2:Nat)):vg true (yQ bend (k+1)) (yQ bend k)=true:=by
 unfold vg;rw[Vx,Vv];have:xV bend (k+1)=xV bend (k+1+1):=by
  unfold xV;rw[if_neg (by omega),if_pos (by omega)];omega
 simp[this]
end
abbrev Pr:=Int×Int
def NY (x y:Pr):Prop:=x.1 < y.1\/(x.1=y.1/\x.2 < y.2)
instance (x y:Pr):Decidable (NY x y):=inferInstanceAs (Decidable (_\/_))
def WH (l:List Pr):Prop:=l.Pairwise NY
def zE (l:List Int):Prop:=l.Pairwise (· < ·)
theorem Jn (x:Pr):¬NY x x:=by unfold NY;omega
theorem UW {x y z:Pr} (h:NY x y) (k:NY y z):NY x z:=by unfold NY at *;omega
theorem qai {x y:Pr} (h:x≠y):NY x y\/NY y x:=by
 unfold NY;have:x.1≠y.1\/x.2≠y.2:=by
  rcases Int.lt_trichotomy x.1 y.1 with h1|h1|h1
  ·exact .inl (by omega)
  ·refine .inr fun h2=>h (Prod.ext h1 h2)
  ·exact .inl (by omega)
 omega
theorem Jg {α:Type} {r:α->α->Prop} (hi:∀x,¬r x x) (ht:∀{x y z},r x y->r y z->r x z):∀{l l':List α},l.Pairwise r->l'.Pairwise r->(∀x,x ∈ l↔x ∈ l')->l=l'
 |[],[],_,_,_=>rfl
 |[],y::l',_,_,h=>absurd ((h y).2 (by simp)) (by simp)
 |x::l,[],_,_,h=>absurd ((h x).1 (by simp)) (by simp)
 |x::l,y::l',h1,h2,h=>by
  obtain⟨a1,a2⟩:=List.pairwise_cons.1 h1;obtain⟨b1,b2⟩:=List.pairwise_cons.1 h2;have e:x=y:=by
   rcases List.mem_cons.1 ((h x).1 (by simp)) with e|e
   ·exact e
   ·rcases List.mem_cons.1 ((h y).2 (by simp)) with e'|e'
    ·exact e'.symm
    ·exact absurd (ht (a1 y e') (b1 x e)) (hi x)
  subst e;have:l=l':=Jg hi ht a2 b2 fun z=>by
   constructor
   ·intro hz
    rcases List.mem_cons.1 ((h z).1 (by simp[hz])) with e|e
    ·subst e;exact absurd (a1 z hz) (hi z)
    ·exact e
   ·intro hz
    rcases List.mem_cons.1 ((h z).2 (by simp[hz])) with e|e
    ·subst e;exact absurd (b1 z hz) (hi z)
    ·exact e
  rw[this]
theorem WH.ext {l l':List Pr} (h1:WH l) (h2:WH l') (h:∀x,x ∈ l↔x ∈ l'):l=l':=Jg Jn UW h1 h2 h
theorem zE.ext {l l':List Int} (h1:zE l) (h2:zE l') (h:∀x,x ∈ l↔x ∈ l'):l=l':=Jg (fun _=>Int.lt_irrefl _) Int.lt_trans h1 h2 h
theorem zE.nodup {l:List Int} (h:zE l):l.Nodup:=h.imp (fun h=>by omega)
theorem WH.nodup {l:List Pr} (h:WH l):l.Nodup:=h.imp (fun {a b} (h:NY a b) (e:a=b)=>Jn b (by rw[e] at h;exact h))
def yL (n:Int):List Int->List Int
 |[]=>[n]
 |y::r=>if y=n then y::r else if n < y then n::y::r else y::yL n r
theorem xa {n x:Int}:∀{l:List Int},x ∈ yL n l↔x=n\/x ∈ l
 |[]=>by simp[yL]
 |y::r=>by
  unfold yL
  split
  ·rename_i h;subst h;simp
  ·split
   ·simp
   ·simp [xa (l:=r)]
    constructor
    ·rintro (h|h|h) <;> simp[h]
    ·rintro (h|h|h) <;> simp[h]
theorem jR {n:Int}:∀{l:List Int},zE l->zE (yL n l)
 |[],_=>by simp[yL,zE]
 |y::r,h=>by
  obtain⟨h1,h2⟩:=List.pairwise_cons.1 h;unfold yL
  split
  ·exact h
  ·split
   ·rename_i h3
    refine List.pairwise_cons.2 ⟨fun z hz=>?_,h⟩;rcases List.mem_cons.1 hz with rfl|hz
    ·exact h3
    ·have:=h1 z hz;omega
   ·refine List.pairwise_cons.2 ⟨fun z hz=>?_,jR h2⟩
    rcases xa.1 hz with rfl|hz
    ·omega
    ·exact h1 z hz
theorem Zn {n:Int} {l:List Int} (h:zE l) (hm:n ∈ l):yL n l=l:=(jR h).ext h fun x=>by rw[xa];constructor;(rintro(rfl|h) <;> assumption);exact .inr
theorem zj {n:Int}:∀{l:List Int},(yL n l).length<=l.length+1
 |[]=>by simp[yL]
 |y::r=>by
  unfold yL;have:=zj (n:=n) (l:=r)
  split
  ·simp
  ·split <;> simp <;> omega
def Qh (p:Pr):List Pr->List Pr
 |[]=>[p]
 |y::r=>if y=p then y::r else if NY p y then p::y::r else y::Qh p r
theorem vh {p x:Pr}:∀{l:List Pr},x ∈ Qh p l↔x=p\/x ∈ l
 |[]=>by simp[Qh]
 |y::r=>by
  unfold Qh
  split
  ·rename_i h;subst h;simp
  ·split
   ·simp
   ·simp only[List.mem_cons,vh (l:=r)]
    constructor
    ·rintro (h|h|h) <;> simp[h]
    ·rintro (h|h|h) <;> simp[h]
theorem Qn {p:Pr}:∀{l:List Pr},WH l->WH (Qh p l)
 |[],_=>by simp[Qh,WH]
 |y::r,h=>by
  obtain⟨h1,h2⟩:=List.pairwise_cons.1 h;unfold Qh
  split
  ·exact h
  ·rename_i hne
   split
   ·rename_i h3
    refine List.pairwise_cons.2 ⟨fun z hz=>?_,h⟩;rcases List.mem_cons.1 hz with rfl|hz
    ·exact h3
    ·exact UW h3 (h1 z hz)
   ·rename_i h3
    refine List.pairwise_cons.2 ⟨fun z hz=>?_,Qn h2⟩;rcases vh.1 hz with rfl|hz
    ·rcases qai hne with h|h
     ·exact h
     ·exact absurd h h3
    ·exact h1 z hz
theorem Zk {p:Pr}:∀{l:List Pr},(Qh p l).length<=l.length+1
 |[]=>by simp[Qh]
 |y::r=>by
  unfold Qh;have:=Zk (p:=p) (l:=r)
  split
  ·simp
  ·split <;> simp <;> omega
def YB (l:List Pr):List Pr:=l.foldl (fun m p=>Qh p m) []
theorem Kl (x:Pr):∀(l m:List Pr),x ∈ l.foldl (fun m p=>Qh p m) m↔x ∈ m\/x ∈ l
 |[],m=>by simp
 |p::l,m=>by
  rw[List.foldl_cons,Kl x l,vh,List.mem_cons];constructor
  ·rintro ((h|h)|h) <;> simp[h]
  ·rintro (h|h|h) <;> simp[h]
theorem RU {x:Pr} {l:List Pr}:x ∈ YB l↔x ∈ l:=by rw[YB,Kl];simp
theorem WQ:∀(l m:List Pr),WH m->WH (l.foldl (fun m p=>Qh p m) m)
 |[],_,h=>h
 |_::l,_,h=>WQ l _ (Qn h)
theorem Ro (l:List Pr):WH (YB l):=WQ l [] List.Pairwise.nil
theorem Zl:∀(l m:List Pr),(l.foldl (fun m p=>Qh p m) m).length<=m.length+l.length
 |[],m=>by simp
 |p::l,m=>by
  have:=Zl l (Qh p m);have:=Zk (p:=p) (l:=m);simp only[List.foldl_cons,List.length_cons];omega
theorem Ut (l:List Pr):(YB l).length<=l.length:=by have:=Zl l [];simpa[YB] using this
def row (l:List Pr) (a:Int):List Int:=(l.filter fun p=>p.1==a).map (·.2)
theorem xG {l:List Pr} {a b:Int}:b ∈ row l a↔(a,b) ∈ l:=by
 unfold row;simp only[List.mem_map,List.mem_filter,beq_iff_eq];constructor
 ·rintro ⟨⟨x,y⟩,⟨h,rfl⟩,rfl⟩;exact h
 ·exact fun h=>⟨(a,b),⟨h,rfl⟩,rfl⟩
theorem QX {l:List Pr} (h:WH l) (a:Int):zE (row l a):=by
 unfold row zE;rw[List.pairwise_map];refine List.Pairwise.imp_of_mem ?_ (h.filter _);intro x y hx hy hp;have h1:=(List.mem_filter.1 hx).2;have h2:=(List.mem_filter.1 hy).2;simp only[beq_iff_eq] at h1 h2;unfold NY at hp;omega
theorem Ur {l:List Pr} (h:WH l) (a b:Int):row (Qh (a,b) l) a=yL b (row l a):=
 (QX (Qn h) a).ext (jR (QX h a)) fun x=>by
  rw[xG,vh,xa,xG];simp
theorem Jf {l:List Pr} (h:WH l) (a b:Int) {c:Int} (hc:c≠a):row (Qh (a,b) l) c=row l c:=
 (QX (Qn h) c).ext (QX h c) fun x=>by
  rw[xG,vh,xG];simp[hc]
theorem Nf (l:List Pr) (a:Int):(row l a).length<=l.length:=by
 unfold row;rw[List.length_map];exact List.length_filter_le _ _
inductive Tc (l:List Pr):Int->Int->Prop
 |one {a b:Int}:(a,b) ∈ l->Tc l a b
 |more {a b c:Int}:Tc l a b->(b,c) ∈ l->Tc l a c
theorem Tc.trans {l:List Pr} {a b c:Int} (h:Tc l a b) (k:Tc l b c):Tc l a c:=by
 induction k with
 |one k=>exact .more h k
 |more _ k ih=>exact .more ih k
theorem Tc.head {l:List Pr} {a b:Int} (h:Tc l a b):∃c,(a,c) ∈ l:=by
 induction h with
 |one h=>exact⟨_,h⟩
 |more _ _ ih=>exact ih
theorem uu {α:Type} [DecidableEq α]:∀{l m:List α},l.Nodup->(∀x ∈ l,x ∈ m)->l.length<=m.length
 |[],_,_,_=>by simp
 |x::l,m,h,hm=>by
  obtain⟨h1,h2⟩:=List.nodup_cons.1 h;have:=uu (l:=l) (m:=m.erase x) h2 fun y hy=>(List.mem_erase_of_ne (by rintro rfl;exact h1 hy)).2 (hm y (by simp[hy]));rw[List.length_erase_of_mem (hm x (by simp))] at this;have:=List.length_pos_of_mem (hm x (by simp));simp only[List.length_cons];omega
abbrev jX:=Int×Int×Int
def tlt (x y:jX):Prop:=x.1 < y.1\/(x.1=y.1/\(x.2.1 < y.2.1\/(x.2.1=y.2.1/\x.2.2 < y.2.2)))
instance (x y:jX):Decidable (tlt x y):=inferInstanceAs (Decidable (_\/_))
def KY (l:List jX):Prop:=l.Pairwise tlt
theorem MT {x y z:jX} (h:tlt x y) (k:tlt y z):tlt x z:=by unfold tlt at *;omega
theorem MU {x y:jX} (h:x≠y):tlt x y\/tlt y x:=by
 unfold tlt;have:x.1≠y.1\/x.2.1≠y.2.1\/x.2.2≠y.2.2:=by
  refine Classical.byContradiction fun hn=>h ?_;obtain⟨x1,x2,x3⟩:=x;obtain⟨y1,y2,y3⟩:=y;simp only[not_or,Decidable.not_not] at hn;obtain⟨rfl,rfl,rfl⟩:=hn;rfl
 omega
def vJ (p:jX):List jX->List jX
 |[]=>[p]
 |y::r=>if y=p then y::r else if tlt p y then p::y::r else y::vJ p r
theorem yh {p x:jX}:∀{l:List jX},x ∈ vJ p l↔x=p\/x ∈ l
 |[]=>by simp[vJ]
 |y::r=>by
  unfold vJ
  split
  ·rename_i h;subst h;simp
  ·split
   ·simp
   ·simp only[List.mem_cons,yh (l:=r)]
    constructor
    ·rintro (h|h|h) <;> simp[h]
    ·rintro (h|h|h) <;> simp[h]
theorem uY {p:jX}:∀{l:List jX},KY l->KY (vJ p l)
 |[],_=>by simp[vJ,KY]
 |y::r,h=>by
  obtain⟨h1,h2⟩:=List.pairwise_cons.1 h;unfold vJ
  split
  ·exact h
  ·rename_i hne
   split
   ·rename_i h3
    refine List.pairwise_cons.2 ⟨fun z hz=>?_,h⟩;rcases List.mem_cons.1 hz with rfl|hz
    ·exact h3
    ·exact MT h3 (h1 z hz)
   ·rename_i h3
    refine List.pairwise_cons.2 ⟨fun z hz=>?_,uY h2⟩;rcases yh.1 hz with rfl|hz
    ·rcases MU hne with h|h
     ·exact h
     ·exact absurd h h3
    ·exact h1 z hz
theorem Zj {p:jX}:∀{l:List jX},(vJ p l).length<=l.length+1
 |[]=>by simp[vJ]
 |y::r=>by
  unfold vJ;have:=Zj (p:=p) (l:=r)
  split
  ·simp
  ·split <;> simp <;> omega
def xF (E:List jX):List Pr:=YB (E.map fun e=>(e.1,e.2.1))
theorem um {E:List jX} {a b:Int}:(a,b) ∈ xF E↔∃k,(a,b,k) ∈ E:=by
 unfold xF;rw[RU,List.mem_map];constructor
 ·rintro ⟨⟨x,y,k⟩,h,e⟩
  simp only[Prod.mk.injEq] at e;obtain⟨rfl,rfl⟩:=e;exact⟨k,h⟩
 ·rintro ⟨k,h⟩
  exact⟨_,h,rfl⟩
theorem vA (E:List jX):WH (xF E):=Ro _
theorem Jt (E:List jX):(xF E).length<=E.length:=by
 have:=Ut (E.map fun e=>(e.1,e.2.1));simpa[xF] using this
theorem NW (a b k:Int) (E:List jX):xF (vJ (a,b,k) E)=Qh (a,b) (xF E):=
 (vA _).ext (Qn (vA _)) fun⟨x,y⟩=>by
  rw[um,vh,um];constructor
  ·rintro ⟨q,hq⟩
   rcases yh.1 hq with e|hq
   ·simp only[Prod.mk.injEq] at e;exact .inl (by rw[e.1,e.2.1])
   ·exact .inr ⟨q,hq⟩
  ·rintro (e|⟨q,hq⟩)
   ·simp only[Prod.mk.injEq] at e;exact⟨k,yh.2 (.inl (by rw[e.1,e.2]))⟩
   ·exact ⟨q,yh.2 (.inr hq)⟩
def zb (E:List jX) (a b:Int):List Int:=(E.filter fun e=>e.1==a&&e.2.1==b).map (·.2.2)
theorem zi {E:List jX} {a b k:Int}:k ∈ zb E a b↔(a,b,k) ∈ E:=by
 unfold zb;simp only[List.mem_map,List.mem_filter,Bool.and_eq_true,beq_iff_eq];constructor
 ·rintro ⟨⟨x,y,q⟩,⟨h,rfl,rfl⟩,rfl⟩;exact h
 ·exact fun h=>⟨(a,b,k),⟨h,rfl,rfl⟩,rfl⟩
theorem jQ {E:List jX} (h:KY E) (a b:Int):zE (zb E a b):=by
 unfold zb zE;rw[List.pairwise_map];refine List.Pairwise.imp_of_mem ?_ (h.filter _);intro x y hx hy hp;have h1:=(List.mem_filter.1 hx).2;have h2:=(List.mem_filter.1 hy).2;simp only[Bool.and_eq_true,beq_iff_eq] at h1 h2;unfold tlt at hp;omega
theorem Ju (E:List jX) (a b:Int):(zb E a b).length<=E.length:=by
 unfold zb;rw[List.length_map];exact List.length_filter_le _ _
theorem Qu {E:List jX} (h:KY E) (a b k:Int):zb (vJ (a,b,k) E) a b=yL k (zb E a b):=
 (jQ (uY h) a b).ext (jR (jQ h a b)) fun x=>by
  rw[zi,yh,xa,zi];simp
theorem jZ {E:List jX} (h:KY E) (a b k:Int) {c d:Int} (hc:c≠a\/d≠b):zb (vJ (a,b,k) E) c d=zb E c d:=
 (jQ (uY h) c d).ext (jQ h c d) fun x=>by
  rw[zi,yh,zi];constructor
  ·rintro (e|e)
   ·simp only[Prod.mk.injEq] at e;omega
   ·exact e
  ·exact .inr
theorem qat {E:List jX} {a b:Int} (h:b ∉ row (xF E) a):zb E a b=[]:=by
 rw[List.eq_nil_iff_forall_not_mem];exact fun k hk=>h (xG.2 (um.2 ⟨k,zi.1 hk⟩))
theorem XV (E:List jX) (a b k:Int):row (xF (vJ (a,b,k) E)) a=yL b (row (xF E) a):=by rw[NW,Ur (vA E)]
theorem Xm (E:List jX) (a b k:Int) {c:Int} (hc:c≠a):row (xF (vJ (a,b,k) E)) c=row (xF E) c:=by rw[NW,Jf (vA E) a b hc]
structure UE (N:List Int) (E:List jX):Prop where
 srtN:zE N
 srtE:KY E
 sub:∀e ∈ E,e.1 ∈ N/\e.2.1 ∈ N
theorem UE.nil:UE [] []:=⟨List.Pairwise.nil,List.Pairwise.nil,fun _ h=>by simp at h⟩
theorem UE.node {N:List Int} {E:List jX} (h:UE N E) (a:Int):UE (yL a N) E:=⟨jR h.srtN,h.srtE,fun e he=>⟨xa.2 (.inr (h.sub e he).1),xa.2 (.inr (h.sub e he).2)⟩⟩
theorem UE.pair {N:List Int} {E:List jX} (h:UE N E) {a b:Int} (hp:(a,b) ∈ xF E):a ∈ N/\b ∈ N:=by
 obtain⟨k,hk⟩:=um.1 hp;exact h.sub _ hk
def Wk (P:List Pr) (k:Int):Nat->Int->Prop
 |0,a=>a=k
 |n+1,a=>∃b,(a,b) ∈ P/\Wk P k n b
def xL (P:List Pr) (k:Int) (n:Nat) (a:Int):Prop:=1<=n/\Wk P k n a/\∀m,1<=m->m < n->¬Wk P k m a
section
variable {P:List Pr} {k a b:Int} {n m:Nat}
theorem Wk.tc:∀{n:Nat} {a:Int},Wk P k (n+1) a->Tc P a k
 |0,a,⟨b,h,e⟩=>by
  have e:b=k:=e;subst e;exact .one h
 |n+1,a,⟨b,h,h2⟩=>by
  have:=Wk.tc h2;exact(Tc.one h).trans this
theorem Wk.snoc:∀{n:Nat} {a b c:Int},Wk P b n a->(b,c) ∈ P->Wk P c (n+1) a
 |0,a,b,c,h,hc=>by
  have h:a=b:=h;subst h;exact⟨c,hc,rfl⟩
 |n+1,a,b,c,⟨d,hd,h⟩,hc=>⟨d,hd,Wk.snoc h hc⟩
theorem qbb {a k:Int} (h:Tc P a k):∃n,1<=n/\Wk P k n a:=by
 induction h with
 |one h=>exact⟨1,Nat.le_refl _,_,h,rfl⟩
 |more _ h ih=>
  obtain⟨n,hn,hw⟩:=ih;exact⟨n+1,by omega,hw.snoc h⟩
theorem MV:Tc P a k↔∃n,1<=n/\Wk P k n a:=by
 refine⟨qbb,?_⟩;rintro⟨n,hn,hw⟩;obtain⟨m,rfl⟩:∃m,n=m+1:=⟨n - 1,by omega⟩
 exact hw.tc
theorem JV (hn:1<=n) (h:Wk P k n a):∃m,m<=n/\xL P k m a:=by
 induction n using Nat.strongRecOn with
 |ind n ih=>
  by_cases hm:∃m,1<=m/\m < n/\Wk P k m a
  ·obtain ⟨m,h1,h2,h3⟩:=hm
   obtain⟨q,hq,hd⟩:=ih m h2 h1 h3;exact⟨q,by omega,hd⟩
  ·exact ⟨n,Nat.le_refl _,hn,h,fun m h1 h2 h3=>hm ⟨m,h1,h2,h3⟩⟩
theorem Za:Tc P a k↔∃n,xL P k n a:=by
 rw[MV];constructor
 ·rintro ⟨n,hn,hw⟩
  obtain⟨m,-,hd⟩:=JV hn hw;exact⟨m,hd⟩
 ·rintro ⟨n,hd⟩
  exact⟨n,hd.1,hd.2.1⟩
theorem xL.uniq (h:xL P k n a) (h':xL P k m a):n=m:=by
 rcases Nat.lt_trichotomy n m with hl|hl|hl
 ·exact absurd h.2.1 (h'.2.2 n h.1 hl)
 ·exact hl
 ·exact absurd h'.2.1 (h.2.2 m h'.1 hl)
theorem JU:xL P k 1 a↔(a,k) ∈ P:=by
 constructor
 ·rintro ⟨-,⟨b,h,e⟩,-⟩
  have e:b=k:=e;subst e;exact h
 ·exact fun h=>⟨Nat.le_refl _,⟨k,h,rfl⟩,fun m h1 h2=>by omega⟩
theorem YR (hn:1<=n):xL P k (n+1) a↔(∃b,(a,b) ∈ P/\b≠k/\xL P k n b)/\∀m,1<=m->m<=n->¬xL P k m a:=by
 constructor
 ·rintro ⟨h1,⟨b,hb,hw⟩,h2⟩
  have h3:∀m,1<=m->m<=n->¬xL P k m a:=fun m hm hmn hd=>h2 m hm (by omega) hd.2.1;have hbk:b≠k:=by
   rintro rfl;exact h2 1 (Nat.le_refl _) (by omega) ⟨b,hb,rfl⟩
  refine⟨⟨b,hb,hbk,hn,hw,fun m hm hmn hwm=>?_⟩,h3⟩;exact h2 (m+1) (by omega) (by omega) ⟨b,hb,hwm⟩
 ·rintro ⟨⟨b,hb,-,hd⟩,h⟩
  refine⟨by omega,⟨b,hb,hd.2.1⟩,fun m hm hmn hw=>?_⟩;obtain⟨q,hq,hq2⟩:=JV hm hw;exact h q hq2.1 (by omega) hq2
theorem xL.next (h:xL P k (n+1) a) (hn:1<=n):∃b,(a,b) ∈ P/\b≠k/\xL P k n b:=((YR hn).1 h).1
theorem xL.head (h:xL P k n a):∃b,(a,b) ∈ P:=by
 obtain⟨m,rfl⟩:∃m,n=m+1:=⟨n - 1,by have:=h.1;omega⟩
 obtain⟨b,hb,-⟩:=h.2.1;exact⟨b,hb⟩
theorem Vu:∀{n:Nat} {a:Int},xL P k n a->∃l:List Int,l.length=n/\l.Nodup/\(∀x ∈ l,∃b,(x,b) ∈ P)/\∀x ∈ l,∃m,m<=n/\xL P k m x
 |0,a,h=>absurd h.1 (by omega)
 |1,a,h=>⟨[a],rfl,by simp,fun x hx=>by simp at hx;subst hx;exact h.head,fun x hx=>by simp at hx;subst hx;exact⟨1,Nat.le_refl _,h⟩⟩
 |n+2,a,h=>by
  obtain⟨b,hb,hbk,hd⟩:=h.next (by omega)
  obtain⟨l,h1,h2,h3,h4⟩:=Vu hd;refine⟨a::l,by simp[h1],List.nodup_cons.2 ⟨fun ha=>?_,h2⟩,fun x hx=>?_,fun x hx=>?_⟩
  ·obtain ⟨m,hm,hdm⟩:=h4 a ha
   have:=h.uniq hdm;omega
  ·rcases List.mem_cons.1 hx with rfl|hx
   ·exact ⟨b,hb⟩
   ·exact h3 x hx
  ·rcases List.mem_cons.1 hx with rfl|hx
   ·exact ⟨n+2,Nat.le_refl _,h⟩
   ·obtain ⟨m,hm,hdm⟩:=h4 x hx
    exact⟨m,by omega,hdm⟩
theorem xL.le {N:List Int} (h:xL P k n a) (hN:∀x ∈ P,x.1 ∈ N):n<=N.length:=by
 obtain⟨l,h1,h2,h3,-⟩:=Vu h;rw[←h1];exact uu h2 fun x hx=>by
  obtain⟨b,hb⟩:=h3 x hx;exact hN _ hb
end
def QQ (P:List Pr) (k:Int):Nat->Int->List Int->Prop
 |0,_,l=>l=[]
 |1,_,l=>l=[]
 |n+2,a,l=>∃b r,l=b::r/\(a,b) ∈ P/\b≠k/\xL P k (n+1) b/\(∀c,c < b->(a,c) ∈ P->¬(c≠k/\xL P k (n+1) c))/\QQ P k (n+1) b r
def qdu (P:List Pr) (N:List Int) (c:List Int):Prop:=
 (c=[]/\∀k ∈ N,¬Tc P k k)\/∃k n l,k ∈ N/\(∀j ∈ N,j < k->¬Tc P j j)/\xL P k n k/\QQ P k n k l/\c=k::l
section
attribute [local irreducible] xE
def Uw (lev st:Int):Bool:=if lev=1\/lev=2 then decide (st=3\/st=2) else decide (lev=3)
theorem qcZ (lev:Int) (s:St):YS lev s=Uw lev s.status:=rfl
theorem Xu (lev:Int) (hl:lev=1\/lev=2\/lev=3) (i th st be fi tr:Int) (a:Option Addr) (n c:Nat) (w:World):
  Calls Tryz.prog 61 #[.agg #[.int .i64 i,.int .i64 th,.int .i64 st,.int .i64 be,.int .i64 fi,.int .i64 tr,.slice a n c],.int .i64 lev] w fun e w'=>e=.returned (.bool (Uw lev st))/\Below w.heap.size w w':=by
 have b0:Below w.heap.size w (w.alloc (.cells #[.int .i64 i,.int .i64 th,.int .i64 st,.int .i64 be,.int .i64 fi,.int .i64 tr,.slice a n c] 49)):=(Below.refl _ w).alloc (Nat.le_refl _) _;go_enter Tryz.func61,Tryz.ntmps61;rcases hl with rfl|rfl|rfl
 ·by_cases h3:st=3
  ·subst h3
   go_wp2_with fail;go_ret;exact⟨rfl,b0⟩
  ·have q3:(st==3)=false:=by simpa using h3
   go_wp2_with fail;go_ret;refine⟨?_,b0⟩;simp[Uw,h3];rfl
 ·by_cases h3:st=3
  ·subst h3
   go_wp2_with fail;go_ret;exact⟨rfl,b0⟩
  ·have q3:(st==3)=false:=by simpa using h3
   go_wp2_with fail;go_ret;refine⟨?_,b0⟩;simp[Uw,h3];rfl
 ·go_wp2_with fail
  go_ret;exact⟨rfl,b0⟩
theorem UP (i th st be fi tr:Int) (a:Option Addr) (n c:Nat) (i2 th2 st2 be2 fi2 tr2:Int) (a2:Option Addr) (n2 c2:Nat) (w:World):
  Calls Tryz.prog 118 #[.agg #[.int .i64 i,.int .i64 th,.int .i64 st,.int .i64 be,.int .i64 fi,.int .i64 tr,.slice a n c],.agg #[.int .i64 i2,.int .i64 th2,.int .i64 st2,.int .i64 be2,.int .i64 fi2,.int .i64 tr2,.slice a2 n2 c2]] w fun e w'=>e=.returned (.bool (decide (0<=fi)&&decide (fi < be2)))/\Below w.heap.size w w':=by
 have b0:Below w.heap.size w ((w.alloc (.cells #[.int .i64 i,.int .i64 th,.int .i64 st,.int .i64 be,.int .i64 fi,.int .i64 tr,.slice a n c] 49)).alloc (.cells #[.int .i64 i2,.int .i64 th2,.int .i64 st2,.int .i64 be2,.int .i64 fi2,.int .i64 tr2,.slice a2 n2 c2] 49)):=((Below.refl _ w).alloc (Nat.le_refl _) _).alloc (by simp) _;go_enter Tryz.func118,Tryz.ntmps118;by_cases h:0<=fi
 ·have q:decide (0<=fi)=true:=by simpa using h
  go_wp2_with fail;go_ret;refine⟨?_,b0⟩;simp[h]
 ·have q:decide (0<=fi)=false:=by simpa using h
  go_wp2_with fail;go_ret;refine⟨?_,b0⟩;simp[h]
end
def qeG:Go.Shelf.Ren:=⟨fun|23=>112|n=>n,fun|22=>30|3=>3|4=>4|0=>0|n=>n,fun|n=>n⟩
theorem qhh:Go.Proofs.Lays2.n23 Tryz.prog qeG:={
 mixed:=by kernel_rfl
 f23:=Tryz.func112.trans (congrArg some (by kernel_rfl))
 t0:=Tryz.underlying0
 a0:=Tryz.isAgg0
 z0:=Tryz.sizeOf0
 v0:=Tryz.zeroValue0
 t3:=Tryz.underlying3
 a3:=Tryz.isAgg3
 z3:=Tryz.sizeOf3
 v3:=Tryz.zeroValue3
 t4:=Tryz.underlying4
 a4:=Tryz.isAgg4
 z4:=Tryz.sizeOf4
 v4:=Tryz.zeroValue4
 t22:=Tryz.underlying30
 a22:=Tryz.isAgg30
 z22:=Tryz.sizeOf30
 v22:=Tryz.zeroValue30
 i3:=by kernel_rfl}
def Xj (u:Int×Bool):List Value:=[.int .i64 u.1,.bool u.2]
theorem WO (u:Int×Bool):(Xj u).length=2:=rfl
theorem JD:(Tryz.prog.info? 87).map (fun i=>(i.zero,i.size,i.bytes))=some (some (.agg #[.int .i64 0,.bool false]),2,16):=by kernel_rfl
theorem Ja (u:Int×Bool):∀x ∈ Xj u,x.oneCell'=true:=by intro x hx;simp[Xj] at hx;rcases hx with rfl|rfl <;> rfl
section
attribute [local irreducible] xE
def KX (w:World) (r:Option Au) (e:Ending) (w':World):Prop:=match r with
 |some A=>∃v,e=.returned (.tuple #[v,.nilIface])/\ue w' w.heap.size v A/\Below w.heap.size w w'
 |none=>(∃t x,e=.returned (.tuple #[.slice none 0 0,.iface t x]))/\Below w.heap.size w w'
theorem Xw:∀{l:List Ev} {A A':Au} {n m:Nat},zr A n l=some A'->(A.length<=m/\∀s ∈ A,s.deeds.length<=m)->A'.length<=m+l.length/\∀s ∈ A',s.deeds.length<=m+l.length
 |[],A,A',n,m,h,hb=>by
  simp only[zr,Option.some.injEq] at h;subst h;exact hb
 |e::l,A,A',n,m,h,hb=>by
  simp only[zr] at h;cases hs:jP A n e with
  |none=>rw[hs] at h;cases h
  |some A1=>
   rw[hs] at h;have:=Xw (l:=l) h (Zb hs hb);simp only[List.length_cons];rw[show m+(l.length+1)=m+1+l.length by omega];exact this
theorem XL {os:List Ob} {es:List Ev} (A:Au) (h:xg os es=some A):A.length<=400/\∀s ∈ A,s.deeds.length<=400:=by
 unfold xg at h
 split at h
 ·rename_i hh
  have hl:es.length<=400:=by
   unfold yz at hh;simp only[Bool.and_eq_true,decide_eq_true_eq] at hh;exact hh.1.1.2
  have:=Xw (m:=0) h ⟨by simp,fun s hs=>(nomatch hs)⟩;exact⟨by omega,fun s hs=>by have:=this.2 s hs;omega⟩
 ·cases h
theorem qeo (ov vv:Value) (os:List Ob) (es:List Ev) (w:World) (ho:Sl w w.heap.size 2 ov os.length (os.flatMap Ob.cells)) (he:Sl w w.heap.size 8 vv es.length (es.flatMap Ev.cells)) (hod:∀o ∈ os,dI o.kind) (hed:∀e ∈ es,dI e.ret) (hW:xu w) (hG:jy w):
  Calls Tryz.prog 13 #[.agg #[ov,vv]] w (KX w (xg os es)):=by
 obtain⟨ao,co,rfl,mo⟩:=ho.ex;obtain⟨ae,ce,rfl,me⟩:=he.ex;have b0:Below w.heap.size w (w.alloc (.cells #[.slice ao os.length co,.slice ae es.length ce] 25)):=(Below.refl _ w).alloc (Nat.le_refl _) _;have hz0:w.heap.size < (w.alloc (.cells #[.slice ao os.length co,.slice ae es.length ce] 25)).heap.size:=by simp
 have hT:=qei (.slice ao os.length co) (.slice ae es.length ce) os es _ ((ho.below b0).more b0.size) ((he.below b0).more b0.size) hod hed (hW.below b0) (hG.below b0);unfold Xh at hT;have hbd:=XL (os:=os) (es:=es);generalize xg os es=R at *;have hT:=qh hT;have B0:=qh b0;clear ho he hod hed hW b0 hG;go_enter Tryz.func13,Tryz.ntmps13;go_wp2_with fail;generalize w.alloc (.cells #[.slice ao os.length co,.slice ae es.length ce] 25)=W at *;cases R with
 |none=>
  refine(hT.o).mono ?_;rintro e W1 ⟨⟨te,xe,rfl⟩,b1⟩;have B1:=qh (B0.o.trans (b1.mono B0.o.size));clear b1 hT;go_wp2;refine bodyPost_ret (v:=.tuple #[.slice none 0 0,.iface te xe]) (by simp[results,Tryz.results13,go_sem]) rfl ?_;exact⟨⟨_,_,rfl⟩,B1.o⟩
 |some A=>
  obtain⟨hA,hdl⟩:=hbd A rfl;clear hbd;refine(hT.o).mono ?_;rintro e W1 ⟨bA,rfl,hA1,b1⟩;have hz1:=b1.size;have hTx:=qh (qfq W1 hA1 (by omega) fun s hs=>by have:=hdl s hs;omega);have B1:=qh (B0.o.trans (b1.mono B0.o.size));clear b1 hA1 hT hdl;go_wp2_with fail;refine(hTx.o).mono ?_;rintro e W2 ⟨v,rfl,ht,b2⟩;have HT:=qh (ht.base (show w.heap.size<=W1.heap.size by omega));have B2:=qh (B1.o.trans (b2.mono (by omega)));clear hTx b2 ht;obtain⟨rs,hv,r⟩:=HT.o;obtain⟨a,c,rfl⟩:=qj.slv hv;clear hv r;go_wp2;refine bodyPost_ret (v:=.tuple #[.slice a rs.length c,.nilIface]) (by simp[results,Tryz.results13,go_sem]) rfl ?_;exact⟨_,rfl,HT.o,B2.o⟩
end
def qaS (A:Au):Prop:=∀s ∈ A,∀d ∈ s.deeds,d.op=1\/d.op=2
theorem Nv {n:Nat} {e:Ev} {s s':St} (hm:xN n e s=some s') (h:∀d ∈ s'.deeds,d.op=1\/d.op=2):∀d ∈ s.deeds,d.op=1\/d.op=2:=by
 rcases yM hm with⟨-,-,rfl⟩|⟨-,-,d,hd,-,rfl⟩|⟨-,-,rfl⟩|⟨-,-,rfl⟩|⟨-,-,rfl⟩|⟨-,-,rfl⟩
 ·exact fun d hd=>h d (by simp[QG,hd])
 ·have e1:jw e.ret e.val n s={s with stand:=1,deeds:=s.deeds.dropLast++[Zc d e.ret e.val n]}:=by unfold jw;rw[hd]
  rw[e1] at h;have hl:=Wu hd;intro x hx;rw[hl] at hx;rcases List.mem_append.1 hx with hx|hx
  ·exact h x (by simp[hx])
  ·rw [List.mem_singleton.1 hx]
   exact h (Zc d e.ret e.val n) (by simp)
 ·exact h
 ·exact h
 ·exact h
 ·exact h
theorem qaS.back {A A':Au} {n:Nat} {e:Ev} (hs:jP A n e=some A') (h:qaS A'):qaS A:=by
 rcases zR hs with⟨-,-,-,rfl⟩|⟨k,s,s',-,hk,-,hm,rfl⟩
 ·exact fun s hs=>h s (by simp[hs])
 ·intro t ht
  obtain⟨j,hj⟩:=List.mem_iff_getElem?.1 ht;by_cases e:k=j
  ·subst e
   rw[hk] at hj;obtain rfl:=Option.some.inj hj;exact Nv hm (h s' (vF hk))
  ·exact h t (List.mem_iff_getElem?.2 ⟨j,by rw[List.getElem?_set_ne e];exact hj⟩)
theorem qbQ {n:Nat} {e:Ev} {s s':St} (hm:xN n e s=some s') (h:∀d ∈ s.deeds,d.op=1\/d.op=2):jC n e s=some s':=by
 rcases yM hm with⟨h1,h2,rfl⟩|⟨h1,h2,d,hd,hf,rfl⟩|⟨h1,h2,rfl⟩|⟨h1,h2,rfl⟩|⟨h1,h2,rfl⟩|⟨h1,h2,rfl⟩
 ·simp [jC,h1,h2,QG]
 ·have hop:=h d (List.mem_of_getLast? hd)
  have hr:Vp d.op e.ret:=by
   rcases hop with e1|e1 <;> rw[e1] at hf ⊢ <;> simp[Qc,jc] at hf <;> simp[Vp,hf]
  unfold jC;rw[if_neg (by omega),if_pos h1,if_pos h2,hd];simp only;rw[if_pos hr];unfold jw;rw[hd];rfl
 ·simp [jC,h1,h2,Rk]
 ·simp [jC,h1,h2,Zz]
 ·simp [jC,h1,h2,Zz]
 ·simp [jC,h1,h2,NA]
theorem JL:∀(m:Nat) {es:List Ev} {A:Au},es.length=m->zr [] 0 es=some A->qaS A->Rc es A
 |0,es,A,hm,h,_=>by
  obtain rfl:=List.length_eq_zero_iff.1 hm;simp only[zr,Option.some.injEq] at h;subst h;exact .nil
 |m+1,es,A,hm,h,hr=>by
  have hne:es≠[]:=by rintro rfl;simp at hm
  obtain⟨l,e,rfl⟩:∃l e,es=l++[e]:=⟨es.dropLast,es.getLast hne,(List.dropLast_concat_getLast hne).symm⟩
  rw[vd] at h;cases h0:zr [] 0 l with
  |none=>rw[h0] at h;cases h
  |some A0=>
   rw[h0] at h;simp only[Option.bind_some,Nat.zero_add] at h;have hr0:=hr.back h;have hf:=JL m (by simpa using hm) h0 hr0;refine .snoc hf ?_;rcases zR h with⟨hk,h1,h2,rfl⟩|⟨k,s,s',hk,hs,hi,hmv,rfl⟩
   ·exact .begin hk h1 h2
   ·exact .move k s s' hk hs hi (qbQ hmv (hr0 s (List.mem_of_getElem? hs)))
theorem qaB {os:List Ob} {es:List Ev} {A:Au} (h:xg os es=some A) (hr:qaS A):Rc es A:=by
 unfold xg at h
 split at h
 ·exact JL _ rfl h hr
 ·cases h
