/- Parts of the proof. Conditions: those of each theorem, as typed. -/
import Derived.Test.YtcpfbphcldocpaaGreatDoorQW21
import Derived.Test.YtcpfbphcldocpaaGreatDoorQW20
import Derived.Test.YtcpfbphcldocpaaGreatDoorQW13
import Derived.LaidEql
set_option linter.unusedVariables false
set_option linter.unusedSimpArgs false
set_option linter.unusedSectionVars false
set_option maxRecDepth 100000
set_option maxHeartbeats 4000000
namespace Go.Proofs.YtcpfbphcldocpaaGreatDoor
open Go.Maps Go.RowKit
section
attribute [local irreducible] xE
structure vY (w:World) (B bG m:Nat) (g:Gm) (σ0:List Int) (tv mv fv:Value):Prop where
 game:YX w B bG g σ0 tv mv fv
 few:g.txs.length<=12
 msk:∀x ∈ g.masks,x < 4096
 len:g.masks.length=g.txs.length
 dds:∀s ∈ g.txs,∀d ∈ s.deeds,DdR m d
 m8:m<=8
 pow:vu w
 wrd:yR w
 err:uO 16 w
 bud:uO 1 w
section
variable {w w':World} {B bG m:Nat} {g:Gm} {σ0:List Int} {tv mv fv:Value}
theorem vY.below (h:vY w B bG m g σ0 tv mv fv) (hb:Below w.heap.size w w'):vY w' B bG m g σ0 tv mv fv:=
 ⟨h.game.below hb,h.few,h.msk,h.len,h.dds,h.m8,h.pow.below hb,h.wrd.below hb,h.err.below hb,h.bud.below hb⟩
theorem vY.turns (h:vY w B bG m g σ0 tv mv fv) {n:Nd} (hn:QI g m n) {sv:Value} (hs:js w 0 sv n.2):
  Calls Tryz.prog 101 #[.pointer (some ⟨bG,0,none⟩),.agg #[.int .i64 (n.1:Nat),sv]] w fun e w'=>∃v',e=.returned v'/\zU w' w.heap.size v' (g.turns n)/\Below w.heap.size w w':=by
 obtain⟨p,σ⟩:=n;have hl:σ.length=m:=hn.len;exact qeh (m:=m) h.game h.few hs hn.bits h.msk h.len (by rw[hl];exact h.dds) (by have:=h.m8;omega) h.err
def vY.key (h:vY w B bG m g σ0 tv mv fv) {n:Nd} (hn:QI g m n):XH m:=⟨n,Nat.lt_of_lt_of_le hn.bits (ut h.few).2,hn.len,h.m8,hn.val⟩
theorem vY.pair (h:vY w B bG m g σ0 tv mv fv) {n:Nd} (hn:QI g m n) {sv:Value} (hs:js w 0 sv n.2):
  Calls Tryz.prog 97 #[.agg #[.int .i64 (n.1:Nat),sv]] w fun e w'=>e=.returned (.agg #[.int .i64 (n.1:Nat),.string (uv n.2)])/\Below w.heap.size w w':=
 qbL h.pow h.wrd n.1 sv n.2 (qj.sl (qj.base hs (Nat.zero_le _))) (by have:=hn.len;have:=h.m8;omega) hn.val
theorem vY.deedv (h:vY w B bG m g σ0 tv mv fv):∀s ∈ g.txs,∀d ∈ s.deeds,-1000000000<=d.val/\d.val<=1000000000:=fun s hs d hd=>by
 have:=(h.dds s hs d hd).op;omega
end
def uC (w:World) (rs:List NR) (ns:List Nd):Prop:=rs.length=ns.length/\∀(k:Nat) (r:NR) (n:Nd),rs[k]?=some r->ns[k]?=some n->zG w r n
theorem uC.below {w w':World} {rs:List NR} {ns:List Nd} (h:uC w rs ns) (hb:Below w.heap.size w w'):uC w' rs ns:=⟨h.1,fun k r n hr hn=>(h.2 k r n hr hn).below hb⟩
open Classical in
def WD (g:Gm) (m:Nat) (M:XH m->Option Value) (l:List Nd):Prop:=∀k:XH m,(k.1 ∈ l->M k=some (.bool (decide (g.Ends k.1))))/\(k.1 ∉ l->M k=none)
theorem qem {w:World} {B bG m:Nat} {g:Gm} {σ0:List Int} {tv mv fv ov:Value} {orows:List NR} {ord:List Nd} {n0:Nd} (h:vY w B bG m g σ0 tv mv fv) (ho:Sl w w.heap.size 2 ov orows.length (orows.flatMap NR.cells)) (hN:uC w orows ord) (hb:MM g m n0 ord ord.length) (hol:orows.length<=65536):
  Calls Tryz.prog 103 #[.pointer (some ⟨bG,0,none⟩),ov] w fun e w'=>∃bl M,e=.returned (.map (some bl))/\xI vI w' bl M/\WD g m M ord/\Below w.heap.size w w':=by
 classical
 have hmk:∀X:World,Sem.run Tryz.prog (Instr.makeMap 222 none) X=.ok (.map (some X.heap.size)) (X.alloc (.map #[] 0)):=fun X=>by kernel_rfl
 obtain⟨ats,cts,htv⟩:∃a c,tv=.slice a g.txs.length c:=by
  obtain⟨rs0,tx0,hl0,-⟩:=h.game.txs;obtain⟨a,c,e⟩:=qj.slv tx0;exact⟨a,c,by rw[e,hl0]⟩
 subst htv;have h12:=h.few;obtain⟨ao,co,rfl,mo⟩:=ho.ex;have b0:Below w.heap.size w (w.alloc (.map #[] 0)):=(Below.refl _ w).alloc (Nat.le_refl _) _;have rm:xI (vI (m:=m)) (w.alloc (.map #[] 0)) w.heap.size (fun _=>none):=xI.made (qy w (.map #[] 0));have HO:=qh ho;have H:=qh h;have HN:=qh hN;have HB:=qh hb;have B0:=qh b0;have RM:=qh rm;clear ho h hN hb b0 rm;go_enter Tryz.func103,Tryz.ntmps103;go_wp2_with fail;generalize w.alloc (.map #[] 0)=W at *
 go_loopw [6] (fun p wr=>∃(j:Nat) (M:XH m->Option Value),j<=orows.length/\p=.int .i64 ((j:Int) - 1)/\xI vI wr w.heap.size M/\WD g m M (ord.drop j)/\Below w.heap.size w wr) (fun p _=>(intOf p+1).toNat)
 case atStart=>
  refine⟨orows.length,_,Nat.le_refl _,by go_num,RM.o,fun k=>⟨fun hk=>?_,fun _=>rfl⟩,B0.o⟩;rw[HN.o.1,List.drop_length] at hk;cases hk
 case round=>
  obtain⟨j,M,hj,rfl,qm,ql,qb⟩:=hrel;have hsz:=qb.size;have QM:=qh qm;have QL:=qh ql;have QB:=qh qb;clear qm ql qb RM B0;by_cases hlt:0 < j
  ·obtain ⟨i,rfl⟩:∃i,j=i+1:=⟨j - 1,by omega⟩
   have e1:((i+1:Nat):Int) - 1=(i:Int):=by omega
   rw[e1];have hil:i < orows.length:=by omega
   obtain⟨b,off,r,rfl,hbb,hrx,hc⟩:=((HO.o.below QB.o).more hsz).atF NR.len rfl hil;obtain⟨n,hn⟩:∃n,ord[i]?=some n:=⟨_,List.getElem?_eq_getElem (by have:=HN.o.1;omega)⟩
   have hni:=HN.o.2 i r n hrx hn;obtain⟨as1,cs1,hsv⟩:=hni.slv;obtain⟨hp1,hos⟩:=hni;obtain⟨rp,rv⟩:=r;simp only at hp1 hsv hos;subst hp1 hsv;have hok:=HB.o.size hn;have c0:wr.cell? ⟨b,off+i*2,none⟩=some (.int .i64 (n.1:Nat)):=hc 0 (by decide);have c1:wr.cell? ⟨b,off+i*2+1,none⟩=some (.slice as1 n.2.length cs1):=hc 1 (by decide);have b3:Below wr.heap.size wr (wr.alloc (.cells #[.int .i64 (n.1:Nat),.slice as1 n.2.length cs1] 206)):=(Below.refl _ wr).alloc (Nat.le_refl _) _;have r3:=qy wr (.cells #[.int .i64 (n.1:Nat),.slice as1 n.2.length cs1] 206);have hz3:=qh (show(wr.alloc (.cells #[.int .i64 (n.1:Nat),.slice as1 n.2.length cs1] 206)).heap.size=wr.heap.size+1 by simp);have HOS:=qh hos;have HNN:=qh hn;clear hc hrx hn hos;go_wp2_with fail;generalize wr.alloc (.cells #[.int .i64 (n.1:Nat),.slice as1 n.2.length cs1] 206)=W3 at *;have BW3:=qh (QB.o.trans (b3.mono hsz));have H3:=qh (H.o.below BW3.o);have AC:=qh (qfg (w:=W3.drew) (n:=g.txs.length) H3.o.game.row h12);have RNn:=qh r3;have z:=qa r3;have z0:=z 0;have z1:=z 1;simp at z0 z1;have zl:=qd r3;clear z r3 c0 c1 hbb;refine qI (W3.heap.size) [0,1,0,3,0,0] (.fin [0,1,2,3,4,5]) (by kernel_rfl) ?_;simp only[xi,qP,qA,sD,sE,sF,sG]
   repeat first|(refine qz fun K hK=>?_;go_simp;refine hK _ _ ?_;clear hK K)|(apply qC;(intro w2 hw2;have hk1:=hw2.cell;have hk3:=hw2.1;clear hw2;go_simp;with_reducible rfl);simp only[Act.put,sA,sB,sC])
   refine qG (fun K hK=>?_);go_simp;refine AC.o.mono ?_;rintro e w4 ⟨rfl,rfl⟩;refine hK _ _ (RN.KeepsN.refl _ _) ?_;clear hK K
   repeat first|(refine qz fun K hK=>?_;go_simp;refine hK _ _ ?_;clear hK K)|refine qu ?_
   have B3:=qh (QB.o.trans ((b3.drew).mono hsz));have H4:=qh (H.o.below B3.o);have TC:=qh (H4.o.turns hok (qj.below HOS.o B3.o));have hz4:wr.heap.size<=W3.drew.heap.size:=b3.size;have RN4:=qh (show W3.drew.heap[wr.heap.size]?=_ from RNn.o);have QM4:=qh (QM.o.below b3.drew QM.o.lt);clear AC BW3 H3 b3;go_wp2_with fail;generalize W3.drew=W4 at *;refine TC.o.mono ?_;rintro e W5 ⟨tv5,rfl,T5,b5⟩;obtain⟨trs,o5,htl,htc⟩:=T5;obtain⟨at5,ct5,rfl⟩:=qj.slv o5;have BW5:=qh (B3.o.trans (b5.mono (Nat.le_trans hsz hz4)));have RN5:=qh (qp RN4.o b5 (qd RN4.o));have QM5:=qh (QM4.o.below b5 QM4.o.lt);have O5:=qh o5;have HTL:=qh htl;have HTC:=qh htc;have htlm:trs.length<=30:=by rw[htl];have:=jD g n g.txs.length;unfold Gm.turns;omega
   clear o5 htl htc b5 TC;obtain⟨bb0,hbb0⟩:∃bb0:Bool,(((n.1:Nat):Int)==((2 ^ g.txs.length - 1:Nat):Int))=bb0:=⟨_,rfl⟩
   have hall:bb0=true↔n.1=g.all:=by
    rw[←hbb0,beq_iff_eq];show _↔n.1=2 ^ g.txs.length - 1;constructor
    ·intro h;exact Int.ofNat.inj h
    ·intro h;rw[h]
   rw[hbb0];have HAL:=qh hall;clear hall hbb0;go_wp2_with fail;generalize wr.heap.size=bn7 at *
   go_loopw [8,32] (fun x y wx=>∃(q:Nat) (b:Bool),q<=trs.length/\x=.bool b/\y=.int .i64 q/\(b=true↔n.1=g.all\/∃t ∈ (g.turns n).take q,g.Ends t.dest)/\Below W5.heap.size W5 wx) (fun _ y _=>trs.length - (intOf y).toNat)
   case atStart=>exact⟨0,bb0,by omega,rfl,by go_num,by rw[HAL.o];simp,Below.refl _ _⟩
   case round=>
    obtain⟨q,b,hq5,rfl,rfl,hbt,qb5⟩:=hrel;have hsz5:=qb5.size;have HBT:=qh hbt;have QB5:=qh qb5;clear hbt qb5;by_cases hlt5:q < trs.length
    ·obtain ⟨b',off',r,rfl,hbb',hrx,hc⟩:=(qj.sl (qj.below O5.o QB5.o)).atF Xg.len rfl hlt5
     obtain⟨t,ht⟩:∃t,(g.turns n)[q]?=some t:=⟨_,List.getElem?_eq_getElem (by have:=HTL.o;omega)⟩
     obtain⟨te1,te2,te3,tos⟩:=HTC.o q r t hrx ht;obtain⟨i1,co1,p1,sv1⟩:=r;simp only at te1 te2 te3 tos;subst te1 te2 te3;obtain⟨a1,c1,hsv1⟩:=qj.slv tos;subst hsv1;have d0:wr.cell? ⟨b',off'+q*4,none⟩=some (.int .i64 t.id):=hc 0 (by decide);have d1:wr.cell? ⟨b',off'+q*4+1,none⟩=some (.bool t.com):=hc 1 (by decide);have d2:wr.cell? ⟨b',off'+q*4+2,none⟩=some (.int .i64 (t.dest.1:Nat)):=hc 2 (by decide);have d3:wr.cell? ⟨b',off'+q*4+3,none⟩=some (.slice a1 t.dest.2.length c1):=hc 3 (by decide);have HT:=qh ht;have TOS:=qh tos;have TQ:=qh (show(g.turns n).take (q+1)=(g.turns n).take q++[t] by rw[List.take_add_one,ht];rfl);clear hc hrx ht tos hbb';have b6:Below wr.heap.size wr (wr.alloc (.cells #[.int .i64 t.id,.bool t.com,.int .i64 (t.dest.1:Nat),.slice a1 t.dest.2.length c1] 220)):=(Below.refl _ wr).alloc (Nat.le_refl _) _;have r6:=qy wr (.cells #[.int .i64 t.id,.bool t.com,.int .i64 (t.dest.1:Nat),.slice a1 t.dest.2.length c1] 220);have B6:=qh (QB5.o.trans (b6.mono hsz5));cases b with
     |true=>
      go_wp2_with fail;generalize wr.alloc (.cells #[.int .i64 t.id,.bool t.com,.int .i64 (t.dest.1:Nat),.slice a1 t.dest.2.length c1] 220)=W6 at *;refine⟨⟨q+1,true,by omega,rfl,by go_num,?_,B6.o⟩,by simp[intOf];omega⟩;refine⟨fun _=>?_,fun _=>rfl⟩;rw[TQ.o];rcases HBT.o.1 rfl with h1|⟨u,hu,h2⟩
      ·exact .inl h1
      ·exact .inr ⟨u,List.mem_append_left _ hu,h2⟩
     |false=>
      go_wp2_with fail;generalize wr.alloc (.cells #[.int .i64 t.id,.bool t.com,.int .i64 (t.dest.1:Nat),.slice a1 t.dest.2.length c1] 220)=W6 at *;have BW6:=qh (BW5.o.trans (B6.o.mono BW5.o.size));have H6:=qh (H.o.below BW6.o);have htok:QI g m t.dest:=ZI hok H.o.deedv (List.mem_of_getElem? HT.o);have PC:=qh (H6.o.pair htok (qj.below TOS.o B6.o));have hin:t.dest ∈ ord.drop (i+1):=by
       obtain⟨j',hj1,hj2⟩:=HB.o.later HNN.o (List.mem_of_getElem? HT.o);refine List.mem_iff_getElem?.2 ⟨j' - (i+1),?_⟩;rw[List.getElem?_drop,show i+1+(j' - (i+1))=j' by omega];exact hj2
      have hMk:=(QL.o (H6.o.key htok)).1 hin;refine PC.o.mono ?_;rintro e W7 ⟨rfl,b7⟩;have B7:=qh (B6.o.trans (b7.mono B6.o.size));have QM7:=QM5.o.below (B7.o) QM5.o.lt;have hlk:Sem.run Tryz.prog (Instr.lookup 222 (.map (some w.heap.size)) (.agg #[.int .i64 (t.dest.1:Nat),.string (uv t.dest.2)]) false) W7=.ok (.bool (decide (g.Ends t.dest))) W7:=
       (QM7.look (kap m) Tryz.underlying222 (zv:=.bool false) (by kernel_rfl) (H6.o.key htok) hMk).1
      have hb2:decide (g.Ends t.dest)=true↔n.1=g.all\/∃u ∈ (g.turns n).take (q+1),g.Ends u.dest:=by
       rw[TQ.o,decide_eq_true_iff];constructor
       ·intro h1;exact .inr ⟨t,by simp,h1⟩
       ·rintro (h1|⟨u,hu,h2⟩)
        ·have:=HBT.o.2 (.inl h1);cases this
        ·rcases List.mem_append.1 hu with hu|hu
         ·have:=HBT.o.2 (.inr ⟨u,hu,h2⟩);cases this
         ·rw [List.mem_singleton] at hu;rw[←hu];exact h2
      have HB2:=qh hb2;clear hb2 hMk hin htok PC b7 QM7;generalize decide (g.Ends t.dest)=bE at *;go_wp2_with fail;exact⟨⟨q+1,bE,by omega,rfl,by go_num,HB2.o,B7.o⟩,by simp[intOf];omega⟩
    ·obtain rfl:q=trs.length:=by omega
     have hq6:decide ((trs.length:Int) < (trs.length:Int))=false:=by simp
     have hEn:b=true↔g.Ends n:=by
      rw[HBT.o,KM,HTL.o,List.take_length]
     have HEN:=qh hEn;clear hEn;have rw7:=qp RN5.o QB5.o (qd RN5.o);have z:=qa rw7;have z0:=z 0;have z1:=z 1;simp at z0 z1;have zl:=qd rw7;have BWr:=qh (BW5.o.trans (QB5.o.mono BW5.o.size));have Hr:=qh (H.o.below BWr.o);have PC:=qh (Hr.o.pair hok (qj.below HOS.o BWr.o));have QMr:=qh (QM5.o.below QB5.o QM5.o.lt);clear z rw7;go_wp2_with fail;refine PC.o.mono ?_;rintro e W8 ⟨rfl,b8⟩;obtain⟨W9,hrun,hM9,ht9⟩:=(QMr.o.below b8 QMr.o.lt).store (kap m) (t:=222) Tryz.underlying222 (Hr.o.key hok) (.bool b);have hrun:(Instr.mapUpdate 222 (.map (some w.heap.size)) (.agg #[.int .i64 (n.1:Nat),.string (uv n.2)]) (.bool b)).run Tryz.prog W8=.ok () W9:=hrun;have B9:=qh ((BWr.o.trans (b8.mono BWr.o.size)).trans (Below.turned ht9 (Nat.le_refl _)));have HM9:=qh hM9;clear hM9 ht9 b8 PC;go_wp2_with fail;have hbe:b=decide (g.Ends n):=Bool.eq_iff_iff.2 (HEN.o.trans decide_eq_true_iff.symm);have hdr:ord.drop i=n::ord.drop (i+1):=by
      have hil2:i < ord.length:=by have:=HN.o.1;omega
      rw[List.drop_eq_getElem_cons hil2];have:=HNN.o;rw[List.getElem?_eq_getElem hil2] at this;rw[Option.some.inj this]
     refine⟨⟨i,_,by omega,by go_num,HM9.o,fun k=>?_,B9.o⟩,by simp[intOf];try omega⟩;rw[hdr];by_cases hkn:k.1=n
     ·have hke:k=Hr.o.key hok:=Subtype.ext hkn
      refine⟨fun _=>?_,fun hx=>absurd (List.mem_cons.2 (.inl hkn)) hx⟩;rw[hke,zS,hbe];rfl
     ·have hke:k≠Hr.o.key hok:=fun e=>hkn (by rw[e];rfl)
      rw[uL hke];refine⟨fun hx=>?_,fun hx=>?_⟩
      ·rcases List.mem_cons.1 hx with hx|hx
       ·exact absurd hx hkn
       ·exact (QL.o k).1 hx
      ·exact (QL.o k).2 fun hy=>hx (List.mem_cons_of_mem _ hy)
  ·obtain rfl:j=0:=by omega
   have hq:decide ((0:Int)<=((0:Nat):Int) - 1)=false:=by simp
   go_wp2_with fail;go_ret;exact⟨_,M,rfl,QM.o,by simpa using QL.o,QB.o⟩
end
section
attribute [local irreducible] xE
def qbX:Value->Nat
 |.slice _ n _=>n
 |_=>0
theorem qel {w:World} {B bG m bl:Nat} {g:Gm} {σ0:List Int} {tv mv fv:Value} {ord:List Nd} {M:XH m->Option Value} (h:vY w B bG m g σ0 tv mv fv) (hM:xI vI w bl M) (hL:WD g m M ord) (hb:MM g m (0,σ0) ord ord.length) (hE:g.Ends (0,σ0)):
  Calls Tryz.prog 104 #[.pointer (some ⟨bG,0,none⟩),.map (some bl)] w fun e w'=>(∃a n c,e=.returned (.slice a n c))/\Below w.heap.size w w':=by
 classical
 obtain⟨ats,cts,htv⟩:∃a c,tv=.slice a g.txs.length c:=by
  obtain⟨rs0,tx0,hl0,-⟩:=h.game.txs;obtain⟨a,c,e⟩:=qj.slv tx0;exact⟨a,c,by rw[e,hl0]⟩
 subst htv;obtain⟨af,cf,hfv⟩:=qj.slv h.game.first
 subst hfv;have h12:=h.few;have y3:=qa h.game.row 3;simp at y3;have yl:=qd h.game.row;have hfs:=h.game.first
 have H:=qh h;have HMM:=qh hM;have HLL:=qh hL;have HB:=qh hb;have HF:=qh (qj.base hfs (Nat.zero_le _));have HE:=qh hE;clear h hM hL hb hfs hE;go_enter Tryz.func104,Tryz.ntmps104;go_wp2_with fail;have r1:=qh (qy w (.cells #[.int .i64 0,.slice af σ0.length cf] 206));have b1:=qh (show Below w.heap.size w (w.alloc (.cells #[.int .i64 0,.slice af σ0.length cf] 206)) from(Below.refl _ w).alloc (Nat.le_refl _) _);generalize w.alloc (.cells #[.int .i64 0,.slice af σ0.length cf] 206)=W at *
 go_loopw [5,6] (fun x y wr=>∃(c:Nd) (bn:Nat) (ls:List (Int×Bool)) (a:Option Addr) (cc:Nat),y=.pointer (some ⟨bn,0,none⟩)/\wr.heap[bn]?=some (.cells #[.int .i64 (c.1:Nat),.slice a c.2.length cc] 206 (0,0))/\w.heap.size<=bn/\js wr 0 (.slice a c.2.length cc) c.2/\c ∈ ord/\g.Ends c/\qj Xj 87 2 wr w.heap.size x ls/\ls.length=g.rank c/\Below w.heap.size w wr) (fun x _ _=>g.txs.length+1 - qbX x)
 case atStart=>exact⟨(0,σ0),w.heap.size,[],af,cf,rfl,r1.o,Nat.le_refl _,qj.below HF.o b1.o,List.mem_of_getElem? HB.o.hd,HE.o,qj.nil _ _,by simp[Gm.rank],b1.o⟩
 case round=>
  obtain⟨c,bn,ls,a,cc,rfl,qr,qn,qs,qm,qe,ql,qk,qb⟩:=hrel;have hsz:=qb.size;have hrk:=qdQ (g:=g) (n:=c);obtain⟨al,cl,rfl,-⟩:=(qj.sl ql).ex;have hok:QI g m c:=HB.o.ok c qm;have x0:=qa qr 0;have x1:=qa qr 1;simp at x0 x1;have xl:=qd qr;have H1:=qh (H.o.below qb);have AC:=qh (qfg (w:=wr.drew) (n:=g.txs.length) H1.o.game.row h12);have QR:=qh qr;have QS:=qh qs;have QM:=qh qm;have QE:=qh qe;have QL:=qh ql;have QK:=qh qk;have QB:=qh qb;clear qr qs qm qe ql qk qb y3 yl r1 b1;go_wp2_with fail;refine qI (wr.heap.size) [0,1,0,3,0] (.fin [0,1,2,3,4]) (by kernel_rfl) ?_;simp only[xi,qP,qA,sD,sE,sF,sG]
  repeat first|(refine qz fun K hK=>?_;go_simp;refine hK _ _ ?_;clear hK K)|(apply qC;(intro w2 hw2;have hk1:=hw2.cell;have hk3:=hw2.1;clear hw2;go_simp;with_reducible rfl);simp only[Act.put,sA,sB,sC])
  refine qG (fun K hK=>?_);go_simp;refine AC.o.mono ?_;rintro e w4 ⟨rfl,rfl⟩;refine hK _ _ (RN.KeepsN.refl _ _) ?_;clear hK K
  repeat first|(refine qz fun K hK=>?_;go_simp;refine hK _ _ ?_;clear hK K)|refine qu ?_
  by_cases hall:c.1=g.all
  ·have hq:(((c.1:Nat):Int) !=((2 ^ g.txs.length - 1:Nat):Int))=false:=by
    rw[hall];simp[Gm.all]
   rw[hq];go_wp2_with fail;go_ret;exact⟨⟨_,_,_,rfl⟩,QB.o.drew⟩
  ·have hq:(((c.1:Nat):Int) !=((2 ^ g.txs.length - 1:Nat):Int))=true:=by
    refine bne_iff_ne.2 fun e=>hall ?_;exact Int.ofNat.inj e
   rw[hq];have HQ:Hid (∃t ∈ g.turns c,g.Ends t.dest):=qh ((KM.1 QE.o).resolve_left hall);have B4:=qh QB.o.drew;have H4:=qh (H.o.below B4.o);have TC:=qh (H4.o.turns hok (qj.drew QS.o));have R4:=qh (show wr.drew.heap[bn]?=_ from QR.o);have QL4:=qh QL.o.drew;have hz4:wr.heap.size<=wr.drew.heap.size:=Nat.le_refl _;clear hq hall AC;go_wp2_with fail;generalize wr.drew=W4 at *;refine TC.o.mono ?_;rintro e W5 ⟨tv5,rfl,T5,b5⟩;obtain⟨trs,o5,htl,htc⟩:=T5;obtain⟨at5,ct5,rfl⟩:=qj.slv o5;have BW5:=qh (B4.o.trans (b5.mono (Nat.le_trans hsz hz4)));have R5:=qh (qp R4.o b5 (qd R4.o));have QL5:=qh (qj.below QL4.o b5);have O5:=qh o5;have HTL:=qh htl;have HTC:=qh htc;have htlm:trs.length<=30:=by rw[htl];have:=jD g c g.txs.length;unfold Gm.turns;omega
   clear o5 htl htc b5 TC;go_wp2_with fail
   go_loopw [5,23] (fun x y wx=>∃(q:Nat),q<=trs.length/\x=.slice al ls.length cl/\y=.int .i64 q/\(∀t ∈ (g.turns c).take q,¬g.Ends t.dest)/\Below W5.heap.size W5 wx) (fun _ y _=>trs.length - (intOf y).toNat)
   case atStart=>exact⟨0,by omega,rfl,by go_num,by simp,Below.refl _ _⟩
   case round=>
    obtain⟨q,hq5,rfl,rfl,hbt,qb5⟩:=hrel;have hsz5:=qb5.size;have HBT:=qh hbt;have QB5:=qh qb5;clear hbt qb5;by_cases hlt5:q < trs.length
    ·obtain ⟨b',off',r,rfl,hbb',hrx,hc⟩:=(qj.sl (qj.below O5.o QB5.o)).atF Xg.len rfl hlt5
     obtain⟨t,ht⟩:∃t,(g.turns c)[q]?=some t:=⟨_,List.getElem?_eq_getElem (by have:=HTL.o;omega)⟩
     obtain⟨te1,te2,te3,tos⟩:=HTC.o q r t hrx ht;obtain⟨i1,co1,p1,sv1⟩:=r;simp only at te1 te2 te3 tos;subst te1 te2 te3;obtain⟨a1,c1,hsv1⟩:=qj.slv tos;subst hsv1;have d0:wr.cell? ⟨b',off'+q*4,none⟩=some (.int .i64 t.id):=hc 0 (by decide);have d1:wr.cell? ⟨b',off'+q*4+1,none⟩=some (.bool t.com):=hc 1 (by decide);have d2:wr.cell? ⟨b',off'+q*4+2,none⟩=some (.int .i64 (t.dest.1:Nat)):=hc 2 (by decide);have d3:wr.cell? ⟨b',off'+q*4+3,none⟩=some (.slice a1 t.dest.2.length c1):=hc 3 (by decide);have HT:=qh ht;have TOS:=qh tos;have TQ:=qh (show(g.turns c).take (q+1)=(g.turns c).take q++[t] by rw[List.take_add_one,ht];rfl);clear hc hrx ht tos hbb';have b6:Below wr.heap.size wr (wr.alloc (.cells #[.int .i64 t.id,.bool t.com,.int .i64 (t.dest.1:Nat),.slice a1 t.dest.2.length c1] 220)):=(Below.refl _ wr).alloc (Nat.le_refl _) _;have r6:=qy wr (.cells #[.int .i64 t.id,.bool t.com,.int .i64 (t.dest.1:Nat),.slice a1 t.dest.2.length c1] 220);have B6:=qh (QB5.o.trans (b6.mono hsz5));go_wp2_with fail;generalize wr.alloc (.cells #[.int .i64 t.id,.bool t.com,.int .i64 (t.dest.1:Nat),.slice a1 t.dest.2.length c1] 220)=W6 at *;have BW6:=qh (BW5.o.trans (B6.o.mono BW5.o.size));have H6:=qh (H.o.below BW6.o);have htok:QI g m t.dest:=ZI hok H.o.deedv (List.mem_of_getElem? HT.o);have PC:=qh (H6.o.pair htok (qj.below TOS.o B6.o));have hin:t.dest ∈ ord:=by
      obtain⟨i,hi⟩:=List.mem_iff_getElem?.1 QM.o;obtain⟨j',-,hj2⟩:=HB.o.later hi (List.mem_of_getElem? HT.o);exact List.mem_of_getElem? hj2
     have hMk:=(HLL.o (H6.o.key htok)).1 hin;have R6:=qh r6;refine PC.o.mono ?_;rintro e W7 ⟨rfl,b7⟩;have B7:=qh (B6.o.trans (b7.mono B6.o.size));have BW7:=qh (BW5.o.trans (B7.o.mono BW5.o.size));have QM7:=HMM.o.below BW7.o HMM.o.lt;have hlk:Sem.run Tryz.prog (Instr.lookup 222 (.map (some bl)) (.agg #[.int .i64 (t.dest.1:Nat),.string (uv t.dest.2)]) false) W7=.ok (.bool (decide (g.Ends t.dest))) W7:=
      (QM7.look (kap m) Tryz.underlying222 (zv:=.bool false) (by kernel_rfl) (H6.o.key htok) hMk).1
     have HIN:=qh hin;have r7:=qp R6.o b7 (qd R6.o);have R7:=qh r7;clear hin hMk PC QM7 r6;by_cases hEt:g.Ends t.dest
     ·rw [decide_eq_true hEt] at hlk
      have z:=qa r7;have z0:=z 0;have z1:=z 1;have z2:=z 2;have z3:=z 3;simp at z0 z1 z2 z3;have zl7:=qd r7;have QL7:=qj.below QL5.o B7.o;have hB7:w.heap.size<=W7.heap.size:=BW7.o.size;have RN7:=qh (qp R5.o B7.o (qd R5.o));have hll:ls.length<=12:=by have:=QK.o;omega
      have hrank:=QW (List.mem_of_getElem? HT.o);clear z r7 b7;go_wp2_with (at_builtin;refine qN rfl _ _ _ rfl _ 16 Tryz.underlying28 JD rfl QL7 (t.id,t.com) hB7 (by rfl) (by rfl) (by first|rfl|simp) rfl (Ja _) (by first|omega|(simp only[List.length_append,List.length_cons,List.length_nil,List.length_replicate];omega)) (by first|omega|(simp only[List.length_append,List.length_cons,List.length_nil,List.length_replicate];omega)) ?_;refine qK.halt ?_)
      refine qK.go ?_;intro g8 c8 w8 o8 G8;have rt8:=qL R7.o G8 (qj.neT QL7 R7.o (by decide));have rn8:=qL RN7.o G8 (qj.neT QL7 RN7.o (by decide));have B8:=qh (BW7.o.trans (G8.below hB7 fun j hj=>(qj.lt QL7 j hj).1));have TOS8:=qh (qj.grwT (qj.below TOS.o B7.o) QL7 (by decide) G8);have z:=qa rt8;have z2:=z 2;have z3:=z 3;have y:=qa rn8;have y0:=y 0;have y1:=y 1;simp at z2 z3 y0 y1;have zl8:=qd rt8;have yl8:=qd rn8;have yf:=fun j=>qB rn8 j;have rF:=qq (qq rn8 0 (.int .i64 (t.dest.1:Nat))) 1 (.slice a1 t.dest.2.length c1);have oF:=qj.other (j:=1) (qj.other (j:=0) o8 (qj.neT o8 rn8 (by decide)) (.int .i64 (t.dest.1:Nat))) (qj.neT o8 rn8 (by decide)) (.slice a1 t.dest.2.length c1);have tF:=qj.other (j:=1) (qj.other (j:=0) TOS8.o (qj.neT TOS8.o rn8 (by decide)) (.int .i64 (t.dest.1:Nat))) (qj.neT TOS8.o rn8 (by decide)) (.slice a1 t.dest.2.length c1);have bF:=(B8.o.setCell (p:=⟨bn,0,none⟩) qn (.int .i64 (t.dest.1:Nat))).setCell (p:=⟨bn,1,none⟩) qn (.slice a1 t.dest.2.length c1);have zF:((w8.setCell ⟨bn,0,none⟩ (.int .i64 (t.dest.1:Nat))).setCell ⟨bn,1,none⟩ (.slice a1 t.dest.2.length c1)).heap.size=w8.heap.size:=by simp
      have RF:=qh rF;have OF:=qh oF;have TF:=qh tF;have BF:=qh bF;clear z y rt8 rn8 o8 G8 rF oF tF bF QL7;have ZF:=qh zF;clear zF;go_wp2_with fail;refine⟨⟨t.dest,_,ls++[(t.id,t.com)],a1,c1,rfl,qV (by simp),?_,qj.alloc TF.o _,HIN.o,hEt,qj.alloc OF.o _,by rw[hrank,←QK.o];simp,BF.o.alloc BF.o.size _⟩,?_⟩
      ·have:=BF.o.size;simpa using this
      ·have:=QK.o;simp only[qbX];omega
     ·rw [decide_eq_false hEt] at hlk
      go_wp2_with fail;refine⟨⟨q+1,by omega,rfl,by go_num,fun u hu=>?_,B7.o⟩,by simp[intOf];omega⟩;rw[TQ.o] at hu;rcases List.mem_append.1 hu with hu|hu
      ·exact HBT.o u hu
      ·rw [List.mem_singleton] at hu;rw[hu];exact hEt
    ·obtain rfl:q=trs.length:=by omega
     obtain⟨t,ht,hE2⟩:=HQ.o;exfalso;refine HBT.o t ?_ hE2;rw[HTL.o,List.take_length];exact ht
end
section
attribute [local irreducible] xE
def WG (g:Gm) (n0:Nd) (R:List Nd):Prop:=n0 ∈ R/\∀n ∈ R,∀t ∈ g.turns n,t.dest ∈ R
def qdw (w:World) (g:Gm) (n0:Nd) (most:Nat) (ev:Value) (e:Ending) (w':World):Prop:=∃(y:Bool) (a:Option Addr) (n c:Nat) (k:Int) (er:Value),e=.returned (.tuple #[.agg #[.bool y,.slice a n c,.int .i64 k],er])/\(er=.nilIface/\(y=true↔g.Ends n0)\/er=ev/\∀R,WG g n0 R->most < R.length)/\Below w.heap.size w w'
def Rch (g:Gm) (n0:Nd) (ord:List Nd):Prop:=∀R,WG g n0 R->∀n ∈ ord,n ∈ R
theorem Rch.put {g:Gm} {n0 c:Nd} {ord:List Nd} {t:Tn} (h:Rch g n0 ord) (hc:c ∈ ord) (ht:t ∈ g.turns c):Rch g n0 (ord++[t.dest]):=fun R hR n hn=>by
 rcases List.mem_append.1 hn with hn|hn
 ·exact h R hR n hn
 ·obtain rfl:=List.mem_singleton.1 hn
  exact hR.2 c (h R hR c hc) t ht
theorem Rch.full {g:Gm} {n0 c:Nd} {ord:List Nd} {t:Tn} {most:Nat} (h:Rch g n0 ord) (hn:ord.Nodup) (hc:c ∈ ord) (ht:t ∈ g.turns c) (hno:t.dest ∉ ord) (hl:ord.length=most):∀R,WG g n0 R->most < R.length:=fun R hR=>by
 have h1:=h.put hc ht R hR;have hnd:(ord++[t.dest]).Nodup:=List.nodup_append.2 ⟨hn,by simp,fun a ha b hb=>by
  obtain rfl:=List.mem_singleton.1 hb;rintro rfl;exact hno ha⟩
 have:=List.Nodup.length_le_of_subset hnd h1;simp at this;omega
theorem qbP {lev:Int} {l:List St} {b:St} (h:l.length<=12):Kj lev l b < 4096:=Nat.lt_of_lt_of_le (Js _ _) (ut h).2
def qOf (b13 b14:Nat) (w:World):Nat:=qbX ((w.cell? ⟨b14,0,none⟩).getD .nilIface) - (qbX ((w.cell? ⟨b13,0,none⟩).getD .nilIface) - (intOf ((w.cell? ⟨b13,1,none⟩).getD .nilIface)).toNat)
theorem qfz {m B b12 b13 b14 bS bm most n:Nat} {cv qv ov:Value} {L:List (XH m)} {rows orows:List NR} {w:World} (h:zW m w B b12 b13 b14 bS bm most cv qv ov L rows orows n):qOf b13 b14 w=orows.length - (rows.length - n):=by
 obtain⟨a,c,rfl⟩:=qj.slv h.own;obtain⟨a',c',rfl⟩:=qj.slv h.que.own;have y:=qa h.ord 0;have z0:=qa h.que.row 0;have z1:=qa h.que.row 1;unfold qOf;rw[y,z0,z1];simp[qbX,intOf]
theorem zG.kdS {w w':World} {r:NR} {n:Nd} (h:zG w r n) (hk:Kd SeT w w'):zG w' r n:=h.kd hk (by unfold SeT;decide)
theorem uC.kdS {w w':World} {rs:List NR} {ns:List Nd} (h:uC w rs ns) (hk:Kd SeT w w'):uC w' rs ns:=⟨h.1,fun k r n hr hn=>(h.2 k r n hr hn).kdS hk⟩
theorem uC.snoc {w:World} {rs:List NR} {ns:List Nd} {r:NR} {n:Nd} (h:uC w rs ns) (hr:zG w r n):uC w (rs++[r]) (ns++[n]):=by
 refine⟨by simp[h.1],fun k r' n' h1 h2=>?_⟩;have hl:=h.1;rcases Nat.lt_trichotomy k ns.length with hk|hk|hk
 ·rw [List.getElem?_append_left (by omega)] at h1 h2
  exact h.2 k r' n' h1 h2
 ·subst hk
  rw[List.getElem?_append_right (by omega)] at h1 h2;simp[hl] at h1 h2;subst h1 h2;exact hr
 ·rw [List.getElem?_eq_none (by simp;omega)] at h2
  cases h2
section
variable {m B b12 b13 b14 bS bm most n:Nat} {cv qv ov:Value} {L:List (XH m)} {rows orows:List NR} {w w':World}
theorem zW.qty (h:zW m w B b12 b13 b14 bS bm most cv qv ov L rows orows n):∀j,QS b13 qv j->∃cs t,w.heap[j]?=some (.cells cs t (0,0))/\(t=204\/t=206):=by
 rintro j (rfl|hj)
 ·exact ⟨_,_,h.que.row,.inl rfl⟩
 ·obtain ⟨cs,hcs⟩:=qj.keepObj h.que.own j hj;exact⟨cs,_,hcs,.inr rfl⟩
theorem zW.nty (h:zW m w B b12 b13 b14 bS bm most cv qv ov L rows orows n) {j:Nat} {cs:Array Value} {t:TypeId} {fz:Nat×Nat} (hj:w.heap[j]?=some (.cells cs t fz)) (ht:t≠204/\t≠206):¬QS b13 qv j:=fun hS=>by
 obtain⟨cs',t',h1,h2⟩:=h.qty j hS;rw[hj] at h1;simp only[Option.some.injEq,Obj.cells.injEq] at h1;obtain⟨-,rfl,-⟩:=h1;rcases h2 with h2|h2
 ·exact ht.1 h2
 ·exact ht.2 h2
theorem zW.queTurn (h:zW m w B b12 b13 b14 bS bm most cv qv ov L rows orows n) (hB:B<=w.heap.size) {qv':Value} {rows':List NR} {n':Nat} (hq:jK w' B b13 qv' rows' n') (hf:Fr (QS b13 qv) w w') (ho:∀k,qv'.ownBlock=some k->qv.ownBlock=some k):
  zW m w' B b12 b13 b14 bS bm most cv qv' ov L rows' orows n'/\Kd SeT w w'/\Below B w w':=by
 refine⟨⟨hf.row h.var (h.nty h.var (by decide)),h.set.fr hf fun j hj=>?_,hq,hf.row h.ord (h.nty h.ord (by decide)),qj.fr h.own hf fun j hj=>?_,fun k hk=>h.dis k (ho k hk),h.hB⟩,hf.kd fun j cs t fz hS hj=>?_,hf.toBelow hB fun j hj=>?_⟩
 ·rcases hj with rfl|rfl|hj
  ·exact h.nty h.set.row (by decide)
  ·intro hS
   obtain⟨cs',t',h1,-⟩:=h.qty _ hS;obtain⟨M,hM,-⟩:=h.set.map;obtain⟨es,cl,hes⟩:=hM.isMap;rw[hes] at h1;cases h1
  ·obtain ⟨cs,hcs⟩:=qj.keepObj h.set.came j hj
   exact h.nty hcs (by decide)
 ·rintro (rfl|hq')
  ·exact qj.neT h.own h.que.row (by decide) hj
  ·exact h.dis j hq' hj
 ·obtain ⟨cs',t',h1,h2⟩:=h.qty j hS
  rw[hj] at h1;simp only[Option.some.injEq,Obj.cells.injEq] at h1;obtain⟨-,rfl,-⟩:=h1;rcases h2 with h2|h2
  ·exact .inr (.inr (.inl h2))
  ·exact .inr (.inr (.inr (.inl h2)))
 ·rintro (rfl|hq')
  ·have:=h.que.hB;omega
  ·have:=(qj.lt h.que.own j hq').1;omega
end
theorem qbU {m:Nat} {w:World} {B bS bm most:Nat} {cv:Value} {L:List (XH m)} (h:uN m w B bS bm most cv L):
  Calls Tryz.prog 102 #[.pointer (some ⟨bS,0,none⟩)] w fun e w'=>e=.returned (.int .i64 L.length)/\w'=w:=by
 obtain⟨a,c,rfl,-⟩:=(qj.sl h.came).ex;have y:=qa h.row 2;simp at y;have yl:=qd h.row;go_enter Tryz.func102,Tryz.ntmps102;go_wp2;go_ret;exact⟨rfl,rfl⟩
theorem vY.put {w:World} {B bG m B2 b12 b13 b14 bS bm most n:Nat} {g:Gm} {σ0:List Int} {tv mv fv:Value} (h:vY w B bG m g σ0 tv mv fv) {cv qv ov:Value} {L:List (XH m)} {rows orows:List NR} (hM:zW m w B2 b12 b13 b14 bS bm most cv qv ov L rows orows n) (hB:B2<=w.heap.size) (hl:L.length<=most) (hm:most<=65536) (hr:rows.length<=65536) (hor:orows.length<=65536)
  {t0:TypeId} {v0:Value} (hev:w.cell? ⟨1,0,none⟩=some (.iface t0 v0)) {d:Nd} (hn:QI g m d) {a:Option Addr} {c:Nat} (hs:js w 0 (.slice a d.2.length c) d.2):
  Calls Tryz.prog 95 #[.agg #[.int .i64 (d.1:Nat),.slice a d.2.length c],.pointer (some ⟨b12,0,none⟩),.pointer (some ⟨b13,0,none⟩),.pointer (some ⟨b14,0,none⟩)] w (MJ m w B2 b12 b13 b14 bS bm most qv ov L rows orows n (h.key hn) ⟨d.1,.slice a d.2.length c⟩ (.iface t0 v0)):=
 qfc hM hB hl hm hr hor (h.key hn) hs h.pow h.wrd hev h.bud.1
theorem Wa {w:World} {B bG m:Nat} {g:Gm} {σ0:List Int} {tv mv fv:Value} (h:vY w B bG m g σ0 tv mv fv) {d:Nd} (hn:QI g m d) {L:List (XH m)}:h.key hn ∈ L↔d ∈ L.map (·.1):=by
 constructor
 ·intro hk;exact List.mem_map.2 ⟨_,hk,rfl⟩
 ·intro hk
  obtain⟨k,hk,e⟩:=List.mem_map.1 hk;have:k=h.key hn:=Subtype.ext e;rw[←this];exact hk
def TrF (w:World) (B:Nat) (v:Value) (rs:List Xg) (ts:List Tn):Prop:=qj Xg.cells 220 4 w B v rs/\rs.length=ts.length/\∀(k:Nat) (r:Xg) (t:Tn),rs[k]?=some r->ts[k]?=some t->vV w r t
theorem TrF.below {w w':World} {B:Nat} {v:Value} {rs:List Xg} {ts:List Tn} (h:TrF w B v rs ts) (hb:Below w.heap.size w w'):TrF w' B v rs ts:=⟨qj.below h.1 hb,h.2.1,fun k r t hr ht=>(h.2.2 k r t hr ht).below hb⟩
theorem TrF.kdS {w w':World} {B:Nat} {v:Value} {rs:List Xg} {ts:List Tn} (h:TrF w B v rs ts) (hk:Kd SeT w w'):TrF w' B v rs ts:=
 ⟨qj.kd h.1 hk (by unfold SeT;decide),h.2.1,fun k r t hr ht=>let x:=h.2.2 k r t hr ht;⟨x.1,x.2.1,x.2.2.1,qj.kd x.2.2.2 hk (by unfold SeT;decide)⟩⟩
def Zr (m:Nat) (W1:World) (b12 most:Nat) (ord:List Nd) (q:Nat) (wr:World):Prop:=∃n cv qv ov L rows orows,zW m wr W1.heap.size b12 (b12+1) (b12+1+1) (W1.heap.size+1) W1.heap.size most cv qv ov L rows orows n/\L.map (·.1)=ord/\uC wr orows ord/\uC wr (rows.drop n) (ord.drop q)/\ord.length<=most/\rows.length<=orows.length/\q<=ord.length/\Below W1.heap.size W1 wr
theorem Zr.qOf {m b12 most q:Nat} {W1 wr:World} {ord:List Nd} (h:Zr m W1 b12 most ord q wr):qOf (b12+1) (b12+1+1) wr=q:=by
 obtain⟨n,cv,qv,ov,L,rows,orows,h1,h2,h3,h4,h5,h6,h7,h8⟩:=h;rw[qfz h1,h3.1];have:=h4.1;simp only[List.length_drop] at this;omega
theorem qbr (lev:Int) (hl:lev=1\/lev=2\/lev=3) (most:Nat) (hmo:1<=most/\most<=65536) (ov vv:Value) (os:List Ob) (es:List Ev) (A:Au) (w:World) (ho:Sl w w.heap.size 2 ov os.length (os.flatMap Ob.cells)) (he:Sl w w.heap.size 8 vv es.length (es.flatMap Ev.cells)) (hne:os≠[]) (hr:Ra os) (hel:es.length<=400) (hes:∀e ∈ es,qfa os.length e) (hW:yR w) (hF:Rc es A) (hA:A.length<=12)
  (hP:vu w) (hEa:uO 16 w) {t0:TypeId} {v0:Value} (hEb:1 < w.heap.size/\w.cell? ⟨1,0,none⟩=some (.iface t0 v0)) (hdd:∀s ∈ A,∀d ∈ s.deeds,DdR os.length d) (hTb:UB w ov vv A) (hX:WX w):
  Calls Tryz.prog 58 #[.chan none,.agg #[ov,vv],.int .i64 lev,.int .i64 most] w (qdw w (Wj lev A) (0,os.map (·.init)) most (.iface t0 v0)):=by
 classical
 obtain⟨ao,co,rfl,mo⟩:=ho.ex;obtain⟨ae,ce,rfl,me⟩:=he.ex;obtain⟨hm1,hm2⟩:=hmo;have q1:decide (lev < 1)=false:=by simp;omega
 have q2:decide (lev > 3)=false:=by simp;omega
 have q2':decide (3 < lev)=false:=by simp;omega
 have q3:decide ((most:Int) < 1)=false:=by simp;omega
 have q4:decide ((most:Int) > 65536)=false:=by simp;omega
 have q4':decide (65536 < (most:Int))=false:=by simp;omega
 have b0:Below w.heap.size w ((w.alloc (.cells #[.slice ao os.length co,.slice ae es.length ce] 25)).alloc (.cells #[.bool false,.slice none 0 0,.int .i64 0] 71)):=((Below.refl _ w).alloc (Nat.le_refl _) _).alloc (by simp) _;have r0:((w.alloc (.cells #[.slice ao os.length co,.slice ae es.length ce] 25)).alloc (.cells #[.bool false,.slice none 0 0,.int .i64 0] 71)).heap[w.heap.size]?=some (.cells #[.slice ao os.length co,.slice ae es.length ce] 25 (0,0)):=qD (qy w _);have r8:((w.alloc (.cells #[.slice ao os.length co,.slice ae es.length ce] 25)).alloc (.cells #[.bool false,.slice none 0 0,.int .i64 0] 71)).heap[w.heap.size+1]?=some (.cells #[.bool false,.slice none 0 0,.int .i64 0] 71 (0,0)):=qV (by simp);have hz0:=qh (show((w.alloc (.cells #[.slice ao os.length co,.slice ae es.length ce] 25)).alloc (.cells #[.bool false,.slice none 0 0,.int .i64 0] 71)).heap.size=w.heap.size+2 by simp);have HL:=qh hl;have HDD:=qh hdd;have HP:=qh hP;have HWd:=qh hW;have HEa:=qh hEa;have HEb:=qh hEb;have HRr:=qh hr;have HF:=qh hF;have hol:=hr.1;go_enter Tryz.func58,Tryz.ntmps58;go_wp2_with fail;generalize (w.alloc (.cells #[.slice ao os.length co,.slice ae es.length ce] 25)).alloc (.cells #[.bool false,.slice none 0 0,.int .i64 0] 71)=W at *;have BC:=qh (qeV lev hl (.slice ao os.length co) (.slice ae es.length ce) os es A W ((ho.below b0).more b0.size) ((he.below b0).more b0.size) hne hr hel hes (hW.below b0) hF hA (hTb.below b0) (hX.below b0));have y:=qa r0;have y0:=y 0;have y1:=y 1;simp at y0 y1;have yl:=qd r0;have R8:=qh r8;have B0:=qh b0;clear y r0 r8 b0 ho he hes hW hF hP hEa hEb hdd hl hr hne hel hTb hX;go_wp2_with fail;refine BC.o.mono ?_;rintro e W1 ⟨bG,tv,mv,fv,rfl,G1,b1⟩;have hz1:=b1.size;have B1:=qh (B0.o.trans (b1.mono B0.o.size));have R81:=qh (qp R8.o b1 (qd R8.o));have hfl:(A.filter (YS lev)).length<=12:=Nat.le_trans (List.length_filter_le _ _) hA;have GE:vY W1 W.heap.size bG os.length (Wj lev A) (os.map (·.init)) tv mv fv:=by
  refine⟨G1,hfl,fun x hx=>?_,by simp[Wj],fun s hs d hd=>HDD.o s (List.mem_filter.1 hs).1 d hd,hol,HP.o.below B1.o,HWd.o.below B1.o,HEa.o.below B1.o,uO.below ⟨HEb.o.1,t0,v0,HEb.o.2⟩ B1.o⟩;obtain⟨s,-,rfl⟩:=List.mem_map.1 hx;exact qbP hfl
 have hn0:QI (Wj lev A) os.length (0,os.map (·.init)):=⟨Nat.two_pow_pos _,by simp,fun x hx=>by
  obtain⟨o,ho,rfl⟩:=List.mem_map.1 hx;exact(HRr.o.2 o ho).2⟩
 obtain⟨af,cf,hfv⟩:=qj.slv G1.first
 rw[List.length_map] at hfv;subst hfv;have HGE:=qh GE;have HN0:=qh hn0;have hev1:=qh (qx B1.o HEb.o.1 HEb.o.2);have MC:=qh (qgQ os.length most W1 (by omega));clear GE hn0 b1 G1 y0 y1 yl BC R8 B0;generalize hgg:Wj lev A=g at *;have HGG:=qh hgg;go_wp2_with fail;refine MC.o.mono ?_;rintro e W2 ⟨rfl,S2,b2⟩;have hz2:=b2.size;have b5:Below W2.heap.size W2 (((W2.alloc (.cells #[.pointer (some ⟨W1.heap.size+1,0,none⟩)] 198)).alloc (.cells #[.slice none 0 0,.int .i64 0] 204)).alloc (.cells #[.slice none 0 0] 202)):=(((Below.refl _ W2).alloc (Nat.le_refl _) _).alloc (by simp) _).alloc (by simp;omega) _;have r12:(((W2.alloc (.cells #[.pointer (some ⟨W1.heap.size+1,0,none⟩)] 198)).alloc (.cells #[.slice none 0 0,.int .i64 0] 204)).alloc (.cells #[.slice none 0 0] 202)).heap[W2.heap.size]?=some (.cells #[.pointer (some ⟨W1.heap.size+1,0,none⟩)] 198 (0,0)):=qD (qD (qy W2 _));have r13:(((W2.alloc (.cells #[.pointer (some ⟨W1.heap.size+1,0,none⟩)] 198)).alloc (.cells #[.slice none 0 0,.int .i64 0] 204)).alloc (.cells #[.slice none 0 0] 202)).heap[W2.heap.size+1]?=some (.cells #[.slice none 0 0,.int .i64 0] 204 (0,0)):=qD (qV (by simp));have r14:(((W2.alloc (.cells #[.pointer (some ⟨W1.heap.size+1,0,none⟩)] 198)).alloc (.cells #[.slice none 0 0,.int .i64 0] 204)).alloc (.cells #[.slice none 0 0] 202)).heap[W2.heap.size+1+1]?=some (.cells #[.slice none 0 0] 202 (0,0)):=qV (by simp);have B5:=qh (b2.trans (b5.mono hz2));have hg5:=qp HGE.o.game.row B5.o (qd HGE.o.game.row);have yg:=qa hg5 3;simp only[List.getElem?_toArray,List.getElem?_cons_succ,List.getElem?_cons_zero] at yg;have ygl:=qd hg5;have M5:=qh (show zW os.length (((W2.alloc (.cells #[.pointer (some ⟨W1.heap.size+1,0,none⟩)] 198)).alloc (.cells #[.slice none 0 0,.int .i64 0] 204)).alloc (.cells #[.slice none 0 0] 202)) W1.heap.size W2.heap.size (W2.heap.size+1) (W2.heap.size+1+1) (W1.heap.size+1) W1.heap.size most (.slice none 0 0) (.slice none 0 0) (.slice none 0 0) [] [] [] 0 from
  ⟨r12,S2.below b5,⟨r13,qj.nil _ _,Nat.le_refl _,by omega⟩,r14,qj.nil _ _,(fun k e=>by cases e),⟨hz2,by omega⟩⟩)
 have henter:∀args w,(callFunc 95 args).run Tryz.prog w=.ok (.enter 95 args) w:=enters_of Tryz.func95 (by kernel_rfl) rfl;have GE5:=qh (HGE.o.below B5.o);have PC0:=(qfc M5.o (B5.o.size) (by simp) (by omega) (by simp) (by simp) (HGE.o.key HN0.o) (qj.base GE5.o.game.first (Nat.zero_le _) |> fun h=>by have:=h;rw[show (HGE.o.key HN0.o).1.2.length=os.length by simp[vY.key]];exact this) GE5.o.pow GE5.o.wrd (qx B5.o (by have:=B1.o.size;have:=HEb.o.1;omega) hev1.o) (by have:=B1.o.size;have:=HEb.o.1;have:=B5.o.size;omega))
 rw[show (HGE.o.key HN0.o).1.2.length=os.length from by simp[vY.key]] at PC0;have PC:=qh PC0;clear r12 r13 r14 S2 b2 b5 hg5 MC PC0;go_wp2_with fail;refine PC.o.mono ?_;rintro e W6 (⟨hk,-⟩|⟨-,hfull,-⟩|⟨-,-,rfl,⟨cv6,qv6,ov6,M6⟩,kd6,bel6⟩)
 ·cases hk
 ·simp at hfull;omega
 have M6:=qh M6;have B6:=qh (show Below W1.heap.size W1 W6 from B5.o.trans bel6);have R86:=qh (qp R81.o B6.o (qd R81.o));have GE6:=qh (HGE.o.below B6.o);have hN6:zG W6 ⟨0,.slice af os.length cf⟩ (0,os.map (·.init)):=⟨rfl,by have:=qj.base GE6.o.game.first (Nat.zero_le _);exact this⟩
 have HN6:=qh hN6;clear PC kd6 bel6 M5 yg ygl GE5 hN6 hz2 B5;generalize hb12:W2.heap.size=b12 at *;go_wp2_with fail
 go_loopw [] (fun wr=>∃(ord:List Nd) (q:Nat),Zr os.length W1 b12 most ord q wr/\MM g os.length (0,os.map (·.init)) ord q/\Rch g (0,os.map (·.init)) ord) (fun wr=>most+1 - qOf (b12+1) (b12+1+1) wr)
 case atStart=>
  refine⟨[(0,os.map (·.init))],0,⟨0,cv6,qv6,ov6,_,_,_,M6.o,rfl,?_,?_,by simp;omega,by simp,by simp,B6.o⟩,MM.start HN0.o,fun R hR n hn=>by obtain rfl:=List.mem_singleton.1 hn;exact hR.1⟩
  ·exact uC.snoc (rs:=[]) (ns:=[]) ⟨rfl,fun k r n h=>by simp at h⟩ HN6.o
  ·exact uC.snoc (rs:=[]) (ns:=[]) ⟨rfl,fun k r n h=>by simp at h⟩ HN6.o
 case round=>
  obtain⟨ord,q,hI,hBf,hRc⟩:=hrel;obtain⟨n,cv,qv,ov,L,rows,orows,h1,h2,h3,h4,h5,h6,h7,h8⟩:=hI;have hqo:qOf (b12+1) (b12+1+1) wr=q:=Zr.qOf ⟨n,cv,qv,ov,L,rows,orows,h1,h2,h3,h4,h5,h6,h7,h8⟩;have hsz:=h8.size;have hol2:orows.length<=65536:=by have:=h3.1;omega
  have hrl2:rows.length<=70000:=by omega
  have M1:=qh h1;have HL2:=qh h2;have N3:=qh h3;have N4:=qh h4;have BF:=qh hBf;have RC:=qh hRc;have B8:=qh h8;have HQO:=qh hqo;have h41:=h4.1;have hle:=h1.que.le;clear h1 h2 h3 h4 hBf hRc h8 hqo M6 B6 R86 GE6 HN6;simp only[List.length_drop] at h41;by_cases hlt:q < ord.length
  ·have hnr:n < rows.length:=by omega
   obtain⟨r,hr⟩:∃r,rows[n]?=some r:=⟨_,List.getElem?_eq_getElem hnr⟩
   obtain⟨c,hc⟩:∃c,ord[q]?=some c:=⟨_,List.getElem?_eq_getElem hlt⟩
   have hni:=N4.o.2 0 r c (by rw[List.getElem?_drop];exact hr) (by rw[List.getElem?_drop];exact hc);obtain⟨a1,c1,hsv⟩:=hni.slv;have TC:=qh (qfM M1.o.que hsz hrl2 hr hsv);obtain⟨hp1,hos⟩:=hni;obtain⟨rp,rv⟩:=r;simp only at hp1 hsv hos;subst hp1 hsv;have HOS:=qh hos;have HC:=qh hc;have hok:QI g os.length c:=BF.o.ok c (List.mem_of_getElem? hc);clear hr hc hos;go_wp2_with fail;refine TC.o.mono ?_;rintro e W7 ⟨rfl,qv',rows',n',Q7,hdrop,hlen,F7,own7⟩;obtain⟨M7,kd7,bel7⟩:=M1.o.queTurn hsz Q7 F7 own7;have b8:Below W7.heap.size W7 (W7.alloc (.cells #[.int .i64 (c.1:Nat),.slice a1 c.2.length c1] 206)):=(Below.refl _ W7).alloc (Nat.le_refl _) _;have r8:=qy W7 (.cells #[.int .i64 (c.1:Nat),.slice a1 c.2.length c1] 206);have B78:=qh ((B8.o.trans bel7).trans (b8.mono (Nat.le_trans hsz bel7.size)));have M8:=qh (M7.below b8);have OS8:=qh (qj.below (qj.kd HOS.o kd7 (by unfold SeT;decide)) b8);have N38:=qh ((N3.o.kdS kd7).below b8);have hd1:ord.drop (q+1)=(ord.drop q).drop 1:=by rw[List.drop_drop]
   have N48:Hid (uC (W7.alloc (.cells #[.int .i64 (c.1:Nat),.slice a1 c.2.length c1] 206)) (rows'.drop n') (ord.drop (q+1))):=qh (by
    have h:=(N4.o.kdS kd7).below b8;rw[hdrop];refine⟨by have:=h.1;simp only[List.length_drop] at this ⊢;omega,fun k r d h1 h2=>h.2 (k+1) r d ?_ ?_⟩
    ·rw [List.getElem?_drop] at h1 ⊢;rw[←h1];congr 1;omega
    ·rw [List.getElem?_drop] at h2 ⊢;rw[←h2];congr 1;omega)
   have hlen':rows'.length<=orows.length:=Nat.le_trans hlen h6;have z:=qa r8;have z0:=z 0;have z1:=z 1;have zl:=qd r8;clear z r8 M7 kd7 bel7 F7 own7 Q7 TC hd1 hdrop b8;go_wp2_with fail;generalize W7.alloc (.cells #[.int .i64 (c.1:Nat),.slice a1 c.2.length c1] 206)=W8 at *;refine(qdX W8).mono ?_;rintro e W8' ⟨rfl,rfl⟩;simp at z0 z1;have G8:=qh (HGE.o.below B78.o);have UC:=qh (G8.o.turns hok OS8.o);go_wp2_with fail;refine UC.o.mono ?_;rintro e W9 ⟨tv5,rfl,T5,b9⟩;obtain⟨trs,o5,htl,htc⟩:=T5;obtain⟨at5,ct5,rfl⟩:=qj.slv o5;have T9:Hid (TrF W9 W8'.heap.size (.slice at5 trs.length ct5) trs (g.turns c)):=qh ⟨o5,htl,htc⟩;have htlm:trs.length<=30:=by rw[htl];have:=jD g c g.txs.length;have:=HGE.o.few;unfold Gm.turns;omega
   have B9:=qh (B78.o.trans (b9.mono B78.o.size));have M9:=qh (M8.o.below b9);have N39:=qh (N38.o.below b9);have N49:=qh (N48.o.below b9);have HTL:=qh htl;clear o5 htl htc b9 UC z0 z1 zl;go_wp2_with fail
   go_loopw [78] (fun y wx=>∃(k:Nat) (ord':List Nd),k<=trs.length/\y=.int .i64 k/\Zr os.length W1 b12 most ord' (q+1) wx/\(Bmd g os.length (0,os.map (·.init)) ord' q k c/\Rch g (0,os.map (·.init)) ord')/\TrF wx W8'.heap.size (.slice at5 trs.length ct5) trs (g.turns c)) (fun y _=>trs.length - (intOf y).toNat)
   case atStart=>exact⟨0,ord,by omega,by go_num,⟨n',cv,qv',ov,L,rows',orows,M9.o,HL2.o,N39.o,N49.o,h5,hlen',by omega,B9.o⟩,⟨BF.o.take HC.o,RC.o⟩,T9.o⟩
   case round=>
    obtain⟨k,ord',hk3,rfl,⟨n2,cv2,qv2,ov2,L2,rows2,orows2,i1,i2,i3,i4,i5,i6,i7,i8⟩,⟨hBm,hRm⟩,hT⟩:=hrel;clear M9 N39 N49 B9 T9;have hsz9:=i8.size;have hor2:orows2.length<=65536:=by have:=i3.1;omega
    have hL2l:L2.length<=most:=by
     have:L2.length=ord'.length:=by rw[←i2];simp
     omega
    have J1:=qh i1;have J2:=qh i2;have J3:=qh i3;have J4:=qh i4;have J8:=qh i8;have BM:=qh hBm;have RM:=qh hRm;have TT:=qh hT;clear i1 i2 i3 i4 i8 hBm hRm hT;by_cases hlt3:k < trs.length
    ·obtain ⟨b',off',r,rfl,hbb',hrx,hc⟩:=(qj.sl TT.o.1).atF Xg.len rfl hlt3
     obtain⟨t,ht⟩:∃t,(g.turns c)[k]?=some t:=⟨_,List.getElem?_eq_getElem (by have:=HTL.o;omega)⟩
     obtain⟨te1,te2,te3,tos⟩:=TT.o.2.2 k r t hrx ht;obtain⟨ti,tc,tp,tv1⟩:=r;simp only at te1 te2 te3 tos;subst te1 te2 te3;obtain⟨a2,c2,hsv2⟩:=qj.slv tos;subst hsv2;have d0:wr.cell? ⟨b',off'+k*4,none⟩=some (.int .i64 t.id):=hc 0 (by decide);have d1:wr.cell? ⟨b',off'+k*4+1,none⟩=some (.bool t.com):=hc 1 (by decide);have d2:wr.cell? ⟨b',off'+k*4+2,none⟩=some (.int .i64 (t.dest.1:Nat)):=hc 2 (by decide);have d3:wr.cell? ⟨b',off'+k*4+3,none⟩=some (.slice a2 t.dest.2.length c2):=hc 3 (by decide);have HT:=qh ht;have TOS:=qh tos;clear hc hrx ht tos hbb';have b6:Below wr.heap.size wr (wr.alloc (.cells #[.int .i64 t.id,.bool t.com,.int .i64 (t.dest.1:Nat),.slice a2 t.dest.2.length c2] 220)):=(Below.refl _ wr).alloc (Nat.le_refl _) _;have B10:=qh (J8.o.trans (b6.mono hsz9));have M10:=qh (J1.o.below b6);have N10:=qh (J3.o.below b6);have O10:=qh (J4.o.below b6);have T10:=qh (TT.o.below b6);have S10:=qh (qj.below TOS.o b6);have G10:=qh (HGE.o.below B10.o);have htok:QI g os.length t.dest:=ZI hok HGE.o.deedv (List.mem_of_getElem? HT.o);have hev10:(wr.alloc (.cells #[.int .i64 t.id,.bool t.com,.int .i64 (t.dest.1:Nat),.slice a2 t.dest.2.length c2] 220)).cell? ⟨1,0,none⟩=some (.iface t0 v0):=qx B10.o (by have:=B1.o.size;have:=HEb.o.1;omega) hev1.o;have PC:=qh (G10.o.put M10.o (by have:=B10.o.size;exact this) hL2l hm2 (by omega) hor2 hev10 htok S10.o);have HEV:=qh hev10;clear hev10 b6;go_wp2_with fail;generalize wr.alloc (.cells #[.int .i64 t.id,.bool t.com,.int .i64 (t.dest.1:Nat),.slice a2 t.dest.2.length c2] 220)=W10 at *;refine PC.o.mono ?_;rintro e W11 (⟨hkin,rfl,b11⟩|⟨hkno,hfullL,rfl,b11⟩|⟨hkin,hlm,rfl,⟨cv3,qv3,ov3,M11⟩,kd11,bel11⟩)
     ·have hin:t.dest ∈ ord':=by have:=(Wa G10.o htok).1 hkin;rw[J2.o] at this;exact this
      have F1:=qh (show Zr os.length W1 b12 most ord' (q+1) W11 from⟨n2,cv2,qv2,ov2,L2,rows2,orows2,M10.o.below b11,J2.o,N10.o.below b11,O10.o.below b11,i5,i6,i7,B10.o.trans (b11.mono B10.o.size)⟩);have F2:=qh (BM.o.old HT.o hin);have F3:=qh (T10.o.below b11);clear PC;go_wp2_with fail;exact⟨⟨k+1,ord',by omega,by go_num,F1.o,⟨F2.o,RM.o⟩,F3.o⟩,by simp[intOf];omega⟩
     ·have hbud:=qh (RM.o.full BM.o.nd (List.mem_of_getElem? BM.o.cur) (List.mem_of_getElem? HT.o) (fun hx=>hkno ((Wa G10.o htok).2 (by rw[J2.o];exact hx))) (show ord'.length=most by rw[←J2.o];simpa using hfullL))
      have B11:=qh (B10.o.trans (b11.mono B10.o.size));have R11:=qh (qp R81.o B11.o (qd R81.o));have y:=qa R11.o;have u0:=y 0;have u1:=y 1;have u2:=y 2;simp at u0 u1 u2;have uf:=fun j=>qB R11.o j;have ul:=qd R11.o;have rT:=qq (qq (qq R11.o 0 (.bool false)) 1 (.slice none 0 0)) 2 (.int .i64 0);have cc:=qa rT;have cc0:=cc 0;have cc1:=cc 1;have cc2:=cc 2;simp at cc0 cc1 cc2;have hB1:=B1.o.size;clear y cc rT PC;go_wp2_with fail;refine bodyPost_ret (v:=.tuple #[.agg #[.bool false,.slice none 0 0,.int .i64 0],.iface t0 v0]) ?hres rfl ?_
      case hres=>simp[results,Tryz.results58,go_sem,cc0,cc1,cc2]
      exact⟨false,none,0,0,0,_,rfl,.inr ⟨rfl,by rw[HGG.o];exact hbud.o⟩,(((B1.o.trans (B11.o.mono hB1)).setCell (p:=⟨w.heap.size+1,0,none⟩) (Nat.le_succ _) _).setCell (p:=⟨w.heap.size+1,1,none⟩) (Nat.le_succ _) _).setCell (p:=⟨w.heap.size+1,2,none⟩) (Nat.le_succ _) _⟩
     ·have hnin:t.dest ∉ ord':=fun hx=>hkin ((Wa G10.o htok).2 (by rw[J2.o];exact hx))
      have hni11:zG W11 ⟨t.dest.1,.slice a2 t.dest.2.length c2⟩ t.dest:=zG.kdS ⟨rfl,S10.o⟩ kd11;have hL2e:L2.length=ord'.length:=by rw[←J2.o];simp
      have hle2:=J1.o.que.le;have F1:=qh (show Zr os.length W1 b12 most (ord'++[t.dest]) (q+1) W11 from⟨n2,cv3,qv3,ov3,L2++[_],rows2++[_],orows2++[_],M11,by rw[List.map_append,J2.o];rfl,(N10.o.kdS kd11).snoc hni11,
       by rw[List.drop_append_of_le_length hle2,List.drop_append_of_le_length i7];exact(O10.o.kdS kd11).snoc hni11,by simp;omega,by simp;omega,by simp;omega,B10.o.trans bel11⟩)
      have F2:=qh (BM.o.put HGE.o.deedv HT.o hnin);have F4:=qh (RM.o.put (List.mem_of_getElem? BM.o.cur) (List.mem_of_getElem? HT.o));have F3:=qh (T10.o.kdS kd11);clear PC M11 kd11 bel11;go_wp2_with fail;exact⟨⟨k+1,_,by omega,by go_num,F1.o,⟨F2.o,F4.o⟩,F3.o⟩,by simp[intOf];omega⟩
    ·obtain rfl:k=trs.length:=by omega
     have hq3:decide ((trs.length:Int) < (trs.length:Int))=false:=by simp
     have SI:=qh (show Zr os.length W1 b12 most ord' (q+1) wr from⟨n2,cv2,qv2,ov2,L2,rows2,orows2,J1.o,J2.o,J3.o,J4.o,i5,i6,i7,J8.o⟩);have BD:=qh (BM.o.done (by have:=HTL.o;omega));go_wp2_with fail;refine⟨⟨ord',q+1,SI.o,BD.o,RM.o⟩,?_⟩;rw[SI.o.qOf,HQO.o];omega
  ·have hn:n=rows.length:=by omega
   have TC:=qh (Na M1.o.que hn hrl2);go_wp2_with fail;refine TC.o.mono ?_;rintro e W7 ⟨rfl,b7⟩;have b8':Below wr.heap.size wr (W7.alloc (.cells #[.int .i64 0,.slice none 0 0] 206)):=b7.alloc b7.size _;have M8:=qh (M1.o.below b8');have B9:=qh (B8.o.trans (b8'.mono hsz));have N9:=qh (N3.o.below b8');have x0:=qa M8.o.var 0;simp at x0;have xl:=qd M8.o.var;have LC:=qh (qbU M8.o.set);clear b7 b8' TC;go_wp2_with fail;generalize W7.alloc (.cells #[.int .i64 0,.slice none 0 0] 206)=W8 at *;refine LC.o.mono ?_;rintro e W8' ⟨rfl,rfl⟩;have b9:Below W8'.heap.size W8' (W8'.alloc (.cells #[.bool false,.slice none 0 0,.int .i64 L.length] 71)):=(Below.refl _ W8').alloc (Nat.le_refl _) _;have r22:=qh (qy W8' (.cells #[.bool false,.slice none 0 0,.int .i64 L.length] 71));have M10:=qh (M8.o.below b9);have B10:=qh (B9.o.trans (b9.mono B9.o.size));have N10:=qh (N9.o.below b9);have G10:=qh (HGE.o.below B10.o);have R10:=qh (qp R81.o B10.o (qd R81.o));have x1:=qa M10.o.ord 0;simp at x1;have xl1:=qd M10.o.ord;have hfull:MM g os.length (0,os.map (·.init)) ord ord.length:=by
    have:q=ord.length:=by omega
    rw[←this];exact BF.o
   obtain⟨aov,cov,hov⟩:=qj.slv M10.o.own;subst hov;have EC:=qh (qem G10.o (qj.sl M10.o.own) N10.o hfull hol2);clear b9 LC x0 xl;go_wp2_with fail;generalize W8'.alloc (.cells #[.bool false,.slice none 0 0,.int .i64 L.length] 71)=W10 at *;have HZ22:=qh (show W1.heap.size<=W8'.heap.size from B9.o.size);generalize W8'.heap.size=b22 at *;refine EC.o.mono ?_;rintro e W11 ⟨bl,M,rfl,RM,LD,b11⟩;have B11:=qh (B10.o.trans (b11.mono B10.o.size));have G11:=qh (HGE.o.below B11.o);have R11:=qh (qp R10.o b11 (qd R10.o));have r22':=qh (qp r22.o b11 (qd r22.o));have hs11:js W11 0 (.slice af os.length cf) (os.map (·.init)):=qj.base G11.o.game.first (Nat.zero_le _)
   have PC:Calls Tryz.prog 97 #[.agg #[.int .i64 0,.slice af os.length cf]] W11 fun e w'=>e=.returned (.agg #[.int .i64 0,.string (uv (os.map (·.init)))])/\Below W11.heap.size W11 w':=G11.o.pair HN0.o hs11;have PC:=qh PC;have yg:=qa G11.o.game.row 3;simp only[List.getElem?_toArray,List.getElem?_cons_succ,List.getElem?_cons_zero] at yg;have ygl:=qd G11.o.game.row;have hMk:=(LD (HGE.o.key HN0.o)).1 (List.mem_of_getElem? hfull.hd);have HRM:=qh RM;have HLD:=qh LD;have HFU:=qh hfull;clear EC hs11 RM LD b11 hfull x1 xl1;go_wp2_with fail;refine PC.o.mono ?_;rintro e W12 ⟨rfl,b12'⟩;have B12:=qh (B11.o.trans (b12'.mono B11.o.size));have G12:=qh (HGE.o.below B12.o);have R12:=qh (qp R11.o b12' (qd R11.o));have RM12:=HRM.o.below b12' HRM.o.lt;have r22b:=qh (qp r22'.o b12' (qd r22'.o));have hlk:Sem.run Tryz.prog (Instr.lookup 222 (.map (some bl)) (.agg #[.int .i64 0,.string (uv (os.map (·.init)))]) false) W12=.ok (.bool (decide (g.Ends (0,os.map (·.init))))) W12:=by
    have:=(RM12.look (kap os.length) Tryz.underlying222 (zv:=.bool false) (by kernel_rfl) (HGE.o.key HN0.o) hMk).1;simp only[Option.getD_some] at this;exact this
   by_cases hEE:g.Ends (0,os.map (·.init))
   case neg=>
    rw[decide_eq_false hEE] at hlk;have z:=qa r22b.o;have z0:=z 0;have z1:=z 1;have z2:=z 2;simp at z0 z1 z2;have zl:=qd r22b.o;have y:=qa R12.o;have u0:=y 0;have u1:=y 1;have u2:=y 2;simp at u0 u1 u2;have uf:=fun j=>qB R12.o j;have ul:=qd R12.o;clear PC b12' yg ygl hMk RM12 z y;go_wp2_with fail;have rT:=qq (qq (qq R12.o 0 (.bool false)) 1 (.slice none 0 0)) 2 (.int .i64 L.length);have c:=qa rT;have c0:=c 0;have c1:=c 1;have c2:=c 2;simp at c0 c1 c2;have hB1:=B1.o.size;refine bodyPost_ret (v:=.tuple #[.agg #[.bool false,.slice none 0 0,.int .i64 L.length],.nilIface]) ?hres rfl ?_
    case hres=>simp[results,Tryz.results58,go_sem,c0,c1,c2]
    exact⟨false,none,0,0,_,_,rfl,.inl ⟨rfl,by rw[HGG.o];simp[hEE]⟩,(((B1.o.trans (B12.o.mono hB1)).setCell (p:=⟨w.heap.size+1,0,none⟩) (Nat.le_succ _) _).setCell (p:=⟨w.heap.size+1,1,none⟩) (Nat.le_succ _) _).setCell (p:=⟨w.heap.size+1,2,none⟩) (Nat.le_succ _) _⟩
   rw[decide_eq_true hEE] at hlk;have LC:=qh (qel G12.o RM12 HLD.o HFU.o hEE);clear PC b12' yg ygl hMk RM12;go_wp2_with fail;refine LC.o.mono ?_;rintro e W13 ⟨⟨a13,n13,c13,rfl⟩,b13⟩;have r22c:=qp r22b.o b13 (qd r22b.o);have R13:=qh (qp R12.o b13 (qd R12.o));have B13:=qh (B12.o.trans (b13.mono B12.o.size));have z:=qa r22c;have z0:=z 0;have z1:=z 1;have z2:=z 2;simp at z0 z1 z2;have zl:=qd r22c;have zf:=fun j=>qB r22c j;have ne8:b22≠w.heap.size+1:=by have:=B9.o.size;have:=hz0.o;have:=HZ22.o;omega
   have rF:=qq (qq r22c 0 (.bool true)) 1 (.slice a13 n13 c13);have r8F:=qJ (j:=1) (v:=.slice a13 n13 c13) (qJ (j:=0) (v:=.bool true) R13.o ne8) ne8;have RF:=qh rF;have R8F:=qh r8F;have y:=qa R13.o;have u0:=y 0;have u1:=y 1;have u2:=y 2;simp at u0 u1 u2;have uf:=fun j=>qB R13.o j;have ul:=qd R13.o;clear z y b13 LC;go_wp2_with fail;have rT:=qq (qq (qq R8F.o 0 (.bool true)) 1 (.slice a13 n13 c13)) 2 (.int .i64 L.length);have c:=qa rT;have c0:=c 0;have c1:=c 1;have c2:=c 2;simp at c0 c1 c2;have hB1:=B1.o.size;have hb22:w.heap.size<=b22:=by have:=HZ22.o;omega
   refine bodyPost_ret (v:=.tuple #[.agg #[.bool true,.slice a13 n13 c13,.int .i64 L.length],.nilIface]) ?hres rfl ?_
   case hres=>simp[results,Tryz.results58,go_sem,c0,c1,c2]
   exact⟨true,a13,n13,c13,_,_,rfl,.inl ⟨rfl,by rw[HGG.o];simp[hEE]⟩,(((((B1.o.trans (B13.o.mono hB1)).setCell (p:=⟨b22,0,none⟩) hb22 _).setCell (p:=⟨b22,1,none⟩) hb22 _).setCell (p:=⟨w.heap.size+1,0,none⟩) (Nat.le_succ _) _).setCell (p:=⟨w.heap.size+1,1,none⟩) (Nat.le_succ _) _).setCell (p:=⟨w.heap.size+1,2,none⟩) (Nat.le_succ _) _⟩
end
section
attribute [local irreducible] xE
theorem qgH (lev:Int) (hl:lev=1\/lev=2\/lev=3) (most:Nat) (hmo:1<=most/\most<=65536) (ov vv:Value) (os:List Ob) (es:List Ev) (A:Au) (w:World) (ho:Sl w w.heap.size 2 ov os.length (os.flatMap Ob.cells)) (he:Sl w w.heap.size 8 vv es.length (es.flatMap Ev.cells)) (hne:os≠[]) (hr:Ra os) (hel:es.length<=400) (hes:∀e ∈ es,qfa os.length e) (hW:yR w) (hF:Rc es A) (hA:A.length<=12)
  (hP:vu w) (hEa:uO 16 w) {t0:TypeId} {v0:Value} (hEb:1 < w.heap.size/\w.cell? ⟨1,0,none⟩=some (.iface t0 v0)) (hdd:∀s ∈ A,∀d ∈ s.deeds,DdR os.length d) (hTb:UB w ov vv A) (hX:WX w):
  Calls Tryz.prog 22 #[.agg #[ov,vv],.int .i64 lev,.int .i64 most] w (qdw w (Wj lev A) (0,os.map (·.init)) most (.iface t0 v0)):=by
 obtain⟨ao,co,rfl,mo⟩:=ho.ex;obtain⟨ae,ce,rfl,me⟩:=he.ex;have b0:Below w.heap.size w ((w.alloc (.cells #[.slice ao os.length co,.slice ae es.length ce] 25)).alloc (.cells #[.bool false,.slice none 0 0,.int .i64 0] 71)):=((Below.refl _ w).alloc (Nat.le_refl _) _).alloc (by simp) _;have r0:((w.alloc (.cells #[.slice ao os.length co,.slice ae es.length ce] 25)).alloc (.cells #[.bool false,.slice none 0 0,.int .i64 0] 71)).heap[w.heap.size]?=some (.cells #[.slice ao os.length co,.slice ae es.length ce] 25 (0,0)):=qD (qy w _);have r8:((w.alloc (.cells #[.slice ao os.length co,.slice ae es.length ce] 25)).alloc (.cells #[.bool false,.slice none 0 0,.int .i64 0] 71)).heap[w.heap.size+1]?=some (.cells #[.bool false,.slice none 0 0,.int .i64 0] 71 (0,0)):=qV (by simp);go_enter Tryz.func22,Tryz.ntmps22;go_wp2_with fail;generalize (w.alloc (.cells #[.slice ao os.length co,.slice ae es.length ce] 25)).alloc (.cells #[.bool false,.slice none 0 0,.int .i64 0] 71)=W at *;have SC:=qh (qbr lev hl most hmo (.slice ao os.length co) (.slice ae es.length ce) os es A W ((ho.below b0).more b0.size) ((he.below b0).more b0.size) hne hr hel hes (hW.below b0) hF hA (hP.below b0) (hEa.below b0) ⟨by have:=b0.size;have:=hEb.1;omega,qx b0 hEb.1 hEb.2⟩ hdd (hTb.below b0) (hX.below b0));have y:=qa r0;have y0:=y 0;have y1:=y 1;simp at y0 y1;have yl:=qd r0;have R8:=qh r8;have B0:=qh b0;clear y r0 r8 b0 ho he hne hr hel hes hW hF hA hP hEa hEb hdd hl hTb hX;go_wp2_with fail;refine SC.o.mono ?_;rintro e W1 ⟨yb,a,n,c,k,er,rfl,hres,b1⟩;have r8:=qp R8.o b1 (qd R8.o);have y:=qa r8;have u0:=y 0;have u1:=y 1;have u2:=y 2;simp at u0 u1 u2;have uf:=fun j=>qB r8 j;have ul:=qd r8;have rT:=qq (qq (qq r8 0 (.bool yb)) 1 (.slice a n c)) 2 (.int .i64 k);have cc:=qa rT;have cc0:=cc 0;have cc1:=cc 1;have cc2:=cc 2;simp at cc0 cc1 cc2;have BB:=qh (B0.o.trans (b1.mono B0.o.size));clear y cc rT r8 SC b1;go_wp2_with fail;refine bodyPost_ret (v:=.tuple #[.agg #[.bool yb,.slice a n c,.int .i64 k],er]) ?hres rfl ?_
 case hres=>simp[results,Tryz.results22,go_sem,cc0,cc1,cc2]
 exact⟨yb,a,n,c,k,er,rfl,hres,((BB.o.setCell (p:=⟨w.heap.size+1,0,none⟩) (Nat.le_succ _) _).setCell (p:=⟨w.heap.size+1,1,none⟩) (Nat.le_succ _) _).setCell (p:=⟨w.heap.size+1,2,none⟩) (Nat.le_succ _) _⟩
end
section
attribute [local irreducible] xE
def Wy (w:World) (g0 g1:Nat):Prop:=∃(a0 a1:Addr) (c0 c1:Array Value) (t0 t1:TypeId),(g0 < w.heap.size/\w.cell? ⟨g0,0,none⟩=some (.iface 356 (.pointer (some a0))))/\(g1 < w.heap.size/\w.cell? ⟨g1,0,none⟩=some (.iface 356 (.pointer (some a1))))/\a0≠a1/\w.heap[a0.block]?=some (.cells c0 t0 (0,0))/\w.heap[a1.block]?=some (.cells c1 t1 (0,0))
theorem Wy.below {w w':World} {g0 g1:Nat} (h:Wy w g0 g1) (hb:Below w.heap.size w w'):Wy w' g0 g1:=by
 obtain⟨a0,a1,c0,c1,t0,t1,⟨h1,h2⟩,⟨h3,h4⟩,h5,h6,h7⟩:=h;have:=hb.size;exact⟨a0,a1,c0,c1,t0,t1,⟨by omega,qx hb h1 h2⟩,⟨by omega,qx hb h3 h4⟩,h5,qp h6 hb (qd h6),qp h7 hb (qd h7)⟩
structure GlW (w:World):Prop where
 f:GlF w
 wa:yR w
 pow:vu w
 ea:uO 16 w
 two:Wy w 0 1
theorem GlW.below {w w':World} (h:GlW w) (hb:Below w.heap.size w w'):GlW w':=⟨h.f.below hb,h.wa.below hb,h.pow.below hb,h.ea.below hb,h.two.below hb⟩
theorem Mw:(Tryz.prog.info? 356).map (·.comparable)=some true:=by kernel_rfl
theorem Mv:(Tryz.prog.info? 370).map (·.size)=some 1:=by kernel_rfl
theorem qge (a:Addr) (X:World):Sem.run Tryz.prog (binOp .eql 34 (.iface 356 (.pointer (some a))) (.iface 356 (.pointer (some a)))) X=.ok (.bool true) X:=by
 obtain⟨i,hi,hcmp⟩:=Option.map_eq_some_iff.1 Mw;obtain⟨j,hj,hjs⟩:=Option.map_eq_some_iff.1 Mv;exact run_eql_iface_ptr_same (P:=Tryz.prog) X a Tryz.underlying34 Tryz.underlying356 hi hcmp hj
theorem qgd {a b:Addr} {X:World} {ca cb:Array Value} {ta tb:TypeId} (hne:a≠b) (ha:X.heap[a.block]?=some (.cells ca ta (0,0))) (hb:X.heap[b.block]?=some (.cells cb tb (0,0))):Sem.run Tryz.prog (binOp .eql 34 (.iface 356 (.pointer (some a))) (.iface 356 (.pointer (some b)))) X=.ok (.bool false) X:=by
 obtain⟨i,hi,hcmp⟩:=Option.map_eq_some_iff.1 Mw;obtain⟨j,hj,hjs⟩:=Option.map_eq_some_iff.1 Mv;exact run_eql_iface_ptr_other (P:=Tryz.prog) X Tryz.underlying34 Tryz.underlying356 hi hcmp hj (by rw[hjs];decide) hne ha hb
theorem qeA (a:Addr) (X:World):Sem.run Tryz.prog (binOp .eql 34 .nilIface (.iface 356 (.pointer (some a)))) X=.ok (.bool false) X:=
 run_eql_iface_nil_left (P:=Tryz.prog) X _ _ Tryz.underlying34
theorem qdB (l:Int):0<=(wrap64 (l.tmod 30+30)).tmod 30/\(wrap64 (l.tmod 30+30)).tmod 30 < 30:=by
 have h1:-30 < l.tmod 30/\l.tmod 30 < 30:=by
  rcases Int.le_total 0 l with h|h
  ·rw [Int.tmod_eq_emod_of_nonneg h];omega
  ·have h2:0<=-l:=by omega
   have h3:(-l).tmod 30=-(l.tmod 30):=Int.neg_tmod ..;rw[Int.tmod_eq_emod_of_nonneg h2] at h3;omega
 have e1:wrap64 (l.tmod 30+30)=l.tmod 30+30:=by unfold wrap64;omega
 rw[e1,Int.tmod_eq_emod_of_nonneg (by omega)];omega
theorem qdL {w:World} {ov vv:Value} {bend:Int} {m:Nat} (hm:m < 30) (hG:GlW w) (h:Xk w ov vv [⟨1,0⟩] (ZC bend m)) {a0:Addr} (hc:w.cell? ⟨0,0,none⟩=some (.iface 356 (.pointer (some a0)))):
  Calls Tryz.prog 22 #[.agg #[ov,vv],.int .i64 2,.int .i64 10] w fun e w'=>∃(y:Bool) (a:Option Addr) (n c:Nat) (k:Int) (er:Value),e=.returned (.tuple #[.agg #[.bool y,.slice a n c,.int .i64 k],er])/\(∀X,Below w.heap.size w X->Sem.run Tryz.prog (binOp .eql 34 er (.iface 356 (.pointer (some a0)))) X=.ok (.bool (decide (12 < m))) X)/\(er=.nilIface\/∃p,er=.iface 356 (.pointer (some p)))/\Below w.heap.size w w':=by
 obtain⟨b0,b1,c0,c1,t0,t1,⟨h1,h2⟩,⟨h3,h4⟩,h5,h6,h7⟩:=hG.two;rw[hc] at h2;obtain rfl:b0=a0:=by simpa using h2.symm
 have hT:=h.toT;have hTb:UB w ov vv (jm bend m):=fun W hW=>by
  have:=hT.hT W hW;rw[KO (by omega)] at this;exact this
 by_cases hm2:12 < m
 ·refine (MX (lev:=2) 10 (by omega) (.inr (.inl rfl)) h.ho h.he hTb (by rw[jl];exact hm2) h1 hc).mono ?_
  rintro e w' ⟨rfl,hb⟩;exact⟨false,none,0,0,0,_,rfl,fun X _=>by rw[decide_eq_true hm2];exact qge _ X,.inr ⟨_,rfl⟩,hb⟩
 ·have hev:∀e ∈ ZC bend m,qfa 1 e:=fun e he=>by
   obtain⟨i,i1,i2,i3⟩:=ME he;have hg:=KS (bend:=bend) i1 (by omega);unfold Ux at i3;simp only[List.mem_cons,List.not_mem_nil,or_false] at i3;have tx:∀e ∈ Ux i (xV bend i),e.tx=i:=by intro e he;simp[Ux] at he;rcases he with rfl|rfl|rfl|rfl|rfl|rfl|rfl <;> rfl
   refine⟨by rw[tx e (by simp[Ux,i3])];omega,?_⟩;rcases i3 with rfl|rfl|rfl|rfl|rfl|rfl|rfl
   ·exact .inl ⟨0,by omega,by omega,rfl⟩
   ·exact .inr (.inl ⟨0,by omega,by omega,rfl⟩)
   ·exact .inr (.inr (.inr (.inr (.inl ⟨_,hg.1,hg.2,rfl⟩))))
   ·exact .inr (.inr (.inl ⟨0,i,by omega,by omega,by omega,by omega,rfl⟩))
   ·exact .inr (.inr (.inr (.inl rfl)))
   ·exact .inr (.inr (.inr (.inr (.inr ⟨4,.inl rfl,rfl⟩))))
   ·exact .inr (.inr (.inr (.inr (.inr ⟨5,.inr (.inl rfl),rfl⟩))))
  have hdd:∀s ∈ jm bend m,∀d ∈ s.deeds,DdR 1 d:=fun s hs d hd=>by
   obtain⟨k,hk,rfl⟩:=ZM hs;simp[yQ] at hd;rcases hd with rfl|rfl
   ·exact ⟨⟨by simp,by simp⟩,.inl ⟨rfl,rfl⟩,rfl⟩
   ·exact ⟨⟨by simp,by simp⟩,.inr ⟨rfl,by simp only;omega,by simp only;omega⟩,rfl⟩
  refine(qgH 2 (.inr (.inl rfl)) 10 (by omega) ov vv [⟨1,0⟩] (ZC bend m) (jm bend m) w h.ho h.he (by simp) ⟨by simp,fun o ho=>by simp at ho;subst ho;exact⟨rfl,by simp,by simp⟩⟩ (by rw[vU];omega) hev hG.wa (Xb m) (by rw[jl];omega) hG.pow hG.ea ⟨h3,h4⟩ hdd hTb ⟨h.wd,h.er.g⟩).mono ?_;rintro e w' ⟨y,a,n,c,k,er,rfl,her,hb⟩;refine⟨y,a,n,c,k,er,rfl,fun X hX=>?_,her.elim (fun h=>.inl h.1) (fun h=>.inr ⟨_,h.1⟩),hb⟩;rw[decide_eq_false hm2];rcases her with⟨rfl,-⟩|⟨rfl,-⟩
  ·exact qeA _ X
  ·exact qgd h5.symm (qp h7 hX (qd h7)) (qp h6 hX (qd h6))
end
section
attribute [local irreducible] xE
theorem qdh (bend:Int) (k:Nat):ZC bend (k+1)=ZC bend k++[⟨1,((k:Int)+1),0,0,0,0,0,0⟩,⟨2,((k:Int)+1),0,0,1,0,0,0⟩,⟨3,((k:Int)+1),0,0,0,0,xV bend (k+1),3⟩]++[⟨2,((k:Int)+1),0,0,2,0,((k:Int)+1),0⟩,⟨3,((k:Int)+1),0,0,0,0,0,1⟩,⟨4,((k:Int)+1),0,0,0,0,0,0⟩,⟨5,((k:Int)+1),0,0,0,0,0,0⟩]:=by
 rw[ZC,List.append_assoc];rfl
theorem qca (n bend:Int) (w:World) (hG:GlW w) (hn:dI n) (hbd:dI bend):Calls Tryz.prog 5 #[.int .i64 n,.int .i64 bend] w fun e w'=>e=.returned (.bool true)/\Below w.heap.size w w':=by
 have hwn:=qdB n;obtain⟨m,hm⟩:∃m:Nat,(wrap64 (n.tmod 30+30)).tmod 30=m:=⟨((wrap64 (n.tmod 30+30)).tmod 30).toNat,by omega⟩
 have hm30:m < 30:=by omega
 have HG:=qh hG;clear hG hwn;go_enter Tryz.func5,Tryz.ntmps5;go_wp2_with fail;refine(qas w HG.o.f).mono ?_;rintro e W1 ⟨rfl,b1⟩;have B1:=qh b1;clear b1;go_wp2_with fail;have HM:=qh hm;clear hm;have hz1:=B1.o.size
 go_loopw [6,7] (fun v q wr=>∃k:Nat,k<=m/\q=.int .i64 ((k:Int)+1)/\qj Ev.cells 69 8 wr W1.heap.size v (ZC bend k)/\Below W1.heap.size W1 wr) (fun _ q _=>m+1 - (intOf q).toNat)
 case atStart=>exact⟨0,by omega,rfl,qj.nil _ _,Below.refl _ _⟩
 case round=>
  obtain⟨k,hk,rfl,hO,hB⟩:=hrel;have HB:=qh hB;by_cases hlt:k < m
  ·obtain ⟨i,hi⟩:∃i:Int,(k:Int)+1=i:=⟨_,rfl⟩
   rw[hi];have HI:=qh hi;have hlen:(ZC bend k).length=7*k:=vU k;obtain⟨av,cv,e1⟩:=qj.sli hO;rw[hlen] at e1;subst e1;obtain⟨g,hg⟩:∃g,xV bend (k+1)=g:=⟨_,rfl⟩
   obtain⟨LE,hLE⟩:∃L,ZC bend k=L:=⟨_,rfl⟩
   rw[hLE] at hO hlen;have HO:=qh hO;have HLN:=qh (show LE.length<=7*k by omega);have HSC:=qh (show ZC bend (k+1)=LE++[⟨1,i,0,0,0,0,0,0⟩,⟨2,i,0,0,1,0,0,0⟩,⟨3,i,0,0,0,0,g,3⟩]++[⟨2,i,0,0,2,0,i,0⟩,⟨3,i,0,0,0,0,0,1⟩,⟨4,i,0,0,0,0,0,0⟩,⟨5,i,0,0,0,0,0,0⟩] by rw[←hLE,←hg,←hi];exact qdh bend k);have hleq:decide (i<=(m:Int))=true:=by simp;omega
   have hki:wrap64 (i+1)=i+1:=by unfold wrap64;omega
   have hwr:=hB.size;have HLN2:=qh hlen;by_cases hbe:i=bend
   case' pos=>
    have hq:(i==bend)=true:=by simpa using hbe
    have hgv:wrap64 (i - 2)=g:=by
     have:g=i - 2:=by rw[←hg];unfold xV;rw[if_pos (by omega)];omega
     rw[this];unfold wrap64;omega
    clear hO hB hlen hg hLE hbe hi
   case' neg=>
    have hq:(i==bend)=false:=by simpa using hbe
    have hgv:wrap64 (i - 1)=g:=by
     have:g=i - 1:=by rw[←hg];unfold xV;rw[if_neg (by omega)];omega
     rw[this];unfold wrap64;omega
    clear hO hB hlen hg hLE hbe hi
   all_goals
    have blP:Below wr.heap.size wr (wr.alloc (.cells #[.int .i64 1,.int .i64 i,.int .i64 0,.int .i64 0,.int .i64 0,.int .i64 0,.int .i64 0,.int .i64 0,.int .i64 2,.int .i64 i,.int .i64 0,.int .i64 0,.int .i64 1,.int .i64 0,.int .i64 0,.int .i64 0,.int .i64 3,.int .i64 i,.int .i64 0,.int .i64 0,.int .i64 0,.int .i64 0,.int .i64 g,.int .i64 3] 69)):=(Below.refl _ wr).alloc (Nat.le_refl _) _;have llP:=qj.lit (f:=Ev.cells) (e:=69) (sz:=8) wr wr.heap.size (Nat.le_refl _) [⟨1,i,0,0,0,0,0,0⟩,⟨2,i,0,0,1,0,0,0⟩,⟨3,i,0,0,0,0,g,3⟩] Ev.len (by simp);simp[Ev.cells] at llP;have BLP:=qh (HB.o.trans (blP.mono HB.o.size));have OOP:=qh (qj.below HO.o blP);have LLP:=qh llP;have hxP:=BLP.o.size;have hnP:(LE).length+([⟨1,i,0,0,0,0,0,0⟩,⟨2,i,0,0,1,0,0,0⟩,⟨3,i,0,0,0,0,g,3⟩]:List Ev).length<=9223372036854775807:=by have:=HLN.o;simp only[List.length_cons,List.length_nil];omega
    have hbP:((LE).length+([⟨1,i,0,0,0,0,0,0⟩,⟨2,i,0,0,1,0,0,0⟩,⟨3,i,0,0,0,0,g,3⟩]:List Ev).length)*64<=140737488355328:=by have:=HLN.o;simp only[List.length_cons,List.length_nil];omega
    clear blP llP;go_wp2_with (at_builtin;refine xU rfl _ _ _ rfl _ 64 Tryz.underlying23 ud rfl OOP.o [⟨1,i,0,0,0,0,0,0⟩,⟨2,i,0,0,1,0,0,0⟩,⟨3,i,0,0,0,0,g,3⟩] rfl (qj.sl LLP.o) hxP rfl rfl Ev.len ua hnP hbP ?_;refine qK.halt ?_)
    refine qK.go ?_;intro vP YP oP GP;have BP:=qh (BLP.o.trans (GP.below hxP fun j hj=>(qj.lt OOP.o j hj).1));obtain⟨aP,cP,eP⟩:∃a c,vP=.slice a (7*k+3) c:=by obtain⟨a,c,h⟩:=qj.sli oP;rw[List.length_append,HLN2.o] at h;exact⟨a,c,h⟩
    subst eP;obtain⟨LP,hLP⟩:∃L,LE++[⟨1,i,0,0,0,0,0,0⟩,⟨2,i,0,0,1,0,0,0⟩,⟨3,i,0,0,0,0,g,3⟩]=L:=⟨_,rfl⟩
    have OP:=qh (show qj Ev.cells 69 8 YP W1.heap.size (.slice aP (7*k+3) cP) LP by rw[←hLP];exact oP);have HLP:=qh (show LP.length<=7*k+3 by rw[←hLP,List.length_append,HLN2.o];exact Nat.le_refl _);have HLP2:=qh (show LP.length=7*k+3 by rw[←hLP,List.length_append,HLN2.o];rfl);have HLP3:=qh hLP;clear oP GP hLP hnP hbP;have blQ:Below YP.heap.size YP (YP.alloc (.cells #[.int .i64 2,.int .i64 i,.int .i64 0,.int .i64 0,.int .i64 2,.int .i64 0,.int .i64 i,.int .i64 0,.int .i64 3,.int .i64 i,.int .i64 0,.int .i64 0,.int .i64 0,.int .i64 0,.int .i64 0,.int .i64 1,.int .i64 4,.int .i64 i,.int .i64 0,.int .i64 0,.int .i64 0,.int .i64 0,.int .i64 0,.int .i64 0,.int .i64 5,.int .i64 i,.int .i64 0,.int .i64 0,.int .i64 0,.int .i64 0,.int .i64 0,.int .i64 0] 69)):=(Below.refl _ YP).alloc (Nat.le_refl _) _;have llQ:=qj.lit (f:=Ev.cells) (e:=69) (sz:=8) YP YP.heap.size (Nat.le_refl _) [⟨2,i,0,0,2,0,i,0⟩,⟨3,i,0,0,0,0,0,1⟩,⟨4,i,0,0,0,0,0,0⟩,⟨5,i,0,0,0,0,0,0⟩] Ev.len (by simp);simp[Ev.cells] at llQ;have BLQ:=qh (BP.o.trans (blQ.mono BP.o.size));have OOQ:=qh (qj.below OP.o blQ);have LLQ:=qh llQ;have hxQ:=BLQ.o.size;have hnQ:(LP).length+([⟨2,i,0,0,2,0,i,0⟩,⟨3,i,0,0,0,0,0,1⟩,⟨4,i,0,0,0,0,0,0⟩,⟨5,i,0,0,0,0,0,0⟩]:List Ev).length<=9223372036854775807:=by have:=HLP.o;simp only[List.length_cons,List.length_nil];omega
    have hbQ:((LP).length+([⟨2,i,0,0,2,0,i,0⟩,⟨3,i,0,0,0,0,0,1⟩,⟨4,i,0,0,0,0,0,0⟩,⟨5,i,0,0,0,0,0,0⟩]:List Ev).length)*64<=140737488355328:=by have:=HLP.o;simp only[List.length_cons,List.length_nil];omega
    clear blQ llQ;go_wp2_with (at_builtin;refine xU rfl _ _ _ rfl _ 64 Tryz.underlying23 ud rfl OOQ.o [⟨2,i,0,0,2,0,i,0⟩,⟨3,i,0,0,0,0,0,1⟩,⟨4,i,0,0,0,0,0,0⟩,⟨5,i,0,0,0,0,0,0⟩] rfl (qj.sl LLQ.o) hxQ rfl rfl Ev.len ua hnQ hbQ ?_;refine qK.halt ?_)
    refine qK.go ?_;intro vQ YQ oQ GQ;have BQ:=qh (BLQ.o.trans (GQ.below hxQ fun j hj=>(qj.lt OOQ.o j hj).1));obtain⟨aQ,cQ,eQ⟩:∃a c,vQ=.slice a (7*k+7) c:=by obtain⟨a,c,h⟩:=qj.sli oQ;rw[List.length_append,HLP2.o] at h;exact⟨a,c,h⟩
    subst eQ;have OQ:=qh (show qj Ev.cells 69 8 YQ W1.heap.size (.slice aQ (7*k+7) cQ) (ZC bend (k+1)) by rw[HSC.o,HLP3.o];exact oQ);clear oQ GQ hnQ hbQ;go_wp2_with fail;go_roundw
    case rel=>exact⟨k+1,by omega,by have:=HI.o;rw[hki];congr 1;omega,OQ.o,BQ.o⟩
    case measure=>have:=HI.o;rw[hki];simp only[intOf];omega
  ·have hkm:k=m:=by omega
   subst hkm;have hq:decide ((k:Int)+1<=(k:Int))=false:=by simp;omega
   have hlen:(ZC bend k).length=7*k:=vU k;obtain⟨av,cv,e1⟩:=qj.sli hO;rw[hlen] at e1;subst e1;have BR:=qh (B1.o.trans (HB.o.mono hz1));have hzr:=HB.o.size;have lo:qj Ob.cells 62 2 (wr.alloc (.cells #[.int .i64 1,.int .i64 0] 62)) wr.heap.size (.slice (some ⟨wr.heap.size,0,none⟩) 1 1) [⟨1,0⟩]:=by
    have:=qj.lit (f:=Ob.cells) (e:=62) (sz:=2) wr wr.heap.size (Nat.le_refl _) [⟨1,0⟩] Ob.len (by simp);simpa[Ob.cells] using this
   have bx:Below wr.heap.size wr ((wr.alloc (.cells #[.int .i64 1,.int .i64 0] 62)).alloc (.cells #[.slice (some ⟨wr.heap.size,0,none⟩) 1 1,.slice av (7*k) cv] 25)):=((Below.refl _ wr).alloc (Nat.le_refl _) _).alloc (by simp) _;have LO:=qh (qj.alloc lo (.cells #[.slice (some ⟨wr.heap.size,0,none⟩) 1 1,.slice av (7*k) cv] 25));have VE:=qh (qj.below hO bx);have rh:=qy (wr.alloc (.cells #[.int .i64 1,.int .i64 0] 62)) (.cells #[.slice (some ⟨wr.heap.size,0,none⟩) 1 1,.slice av (7*k) cv] 25);simp only[World.size_alloc] at rh;have RH:=qh rh;have BX:=qh (BR.o.trans (bx.mono BR.o.size));clear lo bx rh hO hB hlen;go_wp2_with fail;generalize (wr.alloc (.cells #[.int .i64 1,.int .i64 0] 62)).alloc (.cells #[.slice (some ⟨wr.heap.size,0,none⟩) 1 1,.slice av (7*k) cv] 25)=X0 at *;have dE:∀e ∈ ZC bend k,dI e.ret:=fun e he=>by
    obtain⟨i,-,-,h3⟩:=ME he;refine vN ?_;unfold Ux at h3;simp only[List.mem_cons,List.not_mem_nil,or_false] at h3;rcases h3 with rfl|rfl|rfl|rfl|rfl|rfl|rfl <;> (simp only;omega)
   have hlen:(ZC bend k).length=7*k:=vU k;have HX:=qh (HG.o.below BX.o);have HE:Xk X0 (.slice (some ⟨wr.heap.size,0,none⟩) 1 1) (.slice av (7*k) cv) [⟨1,0⟩] (ZC bend k):=⟨qj.sl LO.o,qj.sl VE.o,KK,dE,HX.o.f.wd,HX.o.f.er,HX.o.f.pr⟩
   have HEE:=qh HE;refine(KG (lev:=2) HE.toT (KQ (by omega)) (.inr (.inl rfl)) (by rw[jl];omega) (Wo (Xb k))).mono ?_;rintro e X1 ⟨a,vs,vc,rfl,hJ,hA,b3⟩;have HCJ:=qh (qde (lev:=2) (bend:=bend) (n:=k) (by decide) hJ);obtain⟨aS,cS,e1⟩:=qj.sli hA.1;obtain⟨aC,cC,e2⟩:=qj.sli hA.2;subst e1 e2;obtain⟨sn,hsn⟩:∃n,a.steps.length=n:=⟨_,rfl⟩
   have HSN:=qh hsn;have B3:=qh (BX.o.trans (b3.mono BX.o.size));have RH1:=qh (qp RH.o b3 (qd RH.o));have HE1:=qh (HEE.o.below b3);have y0:=qa RH1.o 0;have y1:=qa RH1.o 1;simp at y0 y1;have yl:=qd RH1.o;unfold vp;rw[hsn];clear hJ hA b3 hsn HE dE;have ba:Below X1.heap.size X1 (X1.alloc (.cells #[.int .i64 a.kind,.slice aS sn cS,.slice none 0 0,.int .i64 a.pre,.int .i64 a.tx,.int .i64 a.deed,.slice aC a.cyc.length cC] 32)):=(Below.refl _ X1).alloc (Nat.le_refl _) _;have RA:=qh (qy X1 (.cells #[.int .i64 a.kind,.slice aS sn cS,.slice none 0 0,.int .i64 a.pre,.int .i64 a.tx,.int .i64 a.deed,.slice aC a.cyc.length cC] 32));have BA:=qh (B3.o.trans (ba.mono B3.o.size));have HE2:=qh (HE1.o.below ba);have RH2:=qh (qp RH1.o ba yl);clear ba;go_wp2_with fail;generalize X1.alloc (.cells #[.int .i64 a.kind,.slice aS sn cS,.slice none 0 0,.int .i64 a.pre,.int .i64 a.tx,.int .i64 a.deed,.slice aC a.cyc.length cC] 32)=X2 at *;clear y0 y1 yl;refine(JO (o:=0) (lev:=2) HE2.o.toT (KQ (by omega)) (.inr (.inl rfl)) (by rw[jl];omega) ⟨by omega,by simp⟩).mono ?_;rintro e X3 ⟨v9,b9,rfl,hV,hb9,b4⟩;have HCV:=qh (show ¬(1<=bend/\bend<=k)->(Qa 2 (([⟨1,0⟩]:List Ob).map (·.init)) (jm bend k) 0).2=true/\(Qa 2 (([⟨1,0⟩]:List Ob).map (·.init)) (jm bend k) 0).1.length=k+1 from fun h=>qeJ h);have HB9:=qh hb9;obtain⟨aV,cV,e3⟩:=qj.sli hV;subst e3;obtain⟨vn,hvn⟩:∃n,(Qa 2 (([⟨1,0⟩]:List Ob).map (·.init)) (jm bend k) 0).1.length=n:=⟨_,rfl⟩
   have HVN:=qh hvn;rw[hvn];have B4:=qh (BA.o.trans (b4.mono BA.o.size));have RA3:=qh (qp RA.o b4 (qd RA.o));have RH3:=qh (qp RH2.o b4 (qd RH2.o));have HE3:=qh (HE2.o.below b4);clear hV hb9 b4 hvn;obtain⟨a0,a1,c0,c1,t0,t1,⟨hg1,hg2⟩,hrest⟩:=(HG.o.below B4.o).two;have HC3:=qh hg2;have SC:=qh (qdL (bend:=bend) (m:=k) hm30 (HG.o.below B4.o) HE3.o hg2);have y0:=qa RH3.o 0;have y1:=qa RH3.o 1;simp at y0 y1;have yl:=qd RH3.o;clear hrest hg2;go_wp2_with fail;refine SC.o.mono ?_;rintro e X4 ⟨y,ya,yn,yc,yk,er,rfl,hEQ,hER,b5⟩;have bf:Below X3.heap.size X3 (X4.alloc (.cells #[.bool y,.slice ya yn yc,.int .i64 yk] 71)):=b5.alloc b5.size _;have heq:=hEQ _ bf;have B5:=qh (B4.o.trans (bf.mono B4.o.size));have RA4:=qh (qp RA3.o bf (qd RA3.o));have hc4:=qx bf hg1 HC3.o;have hgl:0 < (X4.alloc (.cells #[.bool y,.slice ya yn yc,.int .i64 yk] 71)).heap.size:=by have:=bf.size;omega
   have z0:=qa RA4.o 0;have z1:=qa RA4.o 1;simp at z0 z1;have zl:=qd RA4.o;obtain⟨d,hd⟩:∃d,decide (12 < k)=d:=⟨_,rfl⟩
   rw[hd] at heq;have hd2:decide ((12:Int) < (k:Int))=d:=by rw[←hd,decide_eq_decide];omega
   clear hEQ b5 bf hd SC y0 y1 yl;by_cases hb1:1<=bend
   ·have p1:decide ((1:Int)<=bend)=true:=by simpa using hb1
    by_cases hb2:bend<=k
    ·have p2:decide (bend<=(k:Int))=true:=by simpa using hb2
     have hk:(a.kind==1)=false:=by have:=HCJ.o.1;simp;intro h;exact this.1 h ⟨hb1,hb2⟩
     clear hb1 hb2;rcases hER with rfl|⟨p,rfl⟩ <;> cases d
     all_goals
      go_wp2_with fail;refine bodyPost_ret (v:=.bool true) (by simp[results,Tryz.results5,go_sem]) rfl ⟨rfl,B5.o⟩
    ·have p2:decide (bend<=(k:Int))=false:=by simpa using hb2
     have hnb:¬(1<=bend/\bend<=k):=fun h=>hb2 h.2;have hk1:=HCJ.o.1.2 hnb;have hk:(a.kind==1)=true:=by simpa using hk1
     have hs:sn=k:=by rw[←HSN.o];exact HCJ.o.2 hk1
     obtain⟨v1,v2⟩:=HCV.o hnb;have hv:b9=true:=by rw[HB9.o,v1]
     have hvk:vn=k+1:=by rw[←HVN.o,v2]
     subst hs hv hvk;have hw:wrap64 ((sn:Int)+1)=((sn+1:Nat):Int):=by unfold wrap64;omega
     have hw2:((sn:Int)+1==(sn:Int)+1)=true:=by simp
     clear hk1 hnb v1 v2;clear hb1 hb2;rcases hER with rfl|⟨p,rfl⟩ <;> cases d
     all_goals
      go_wp2_with fail;refine bodyPost_ret (v:=.bool true) (by simp[results,Tryz.results5,go_sem]) rfl ⟨rfl,B5.o⟩
   ·have p1:decide ((1:Int)<=bend)=false:=by simpa using hb1
    have hnb:¬(1<=bend/\bend<=k):=fun h=>hb1 h.1;have hk1:=HCJ.o.1.2 hnb;have hk:(a.kind==1)=true:=by simpa using hk1
    have hs:sn=k:=by rw[←HSN.o];exact HCJ.o.2 hk1
    obtain⟨v1,v2⟩:=HCV.o hnb;have hv:b9=true:=by rw[HB9.o,v1]
    have hvk:vn=k+1:=by rw[←HVN.o,v2]
    subst hs hv hvk;have hw:wrap64 ((sn:Int)+1)=((sn+1:Nat):Int):=by unfold wrap64;omega
    have hw2:((sn:Int)+1==(sn:Int)+1)=true:=by simp
    clear hk1 hnb v1 v2;clear hb1;rcases hER with rfl|⟨p,rfl⟩ <;> cases d
    all_goals
     go_wp2_with fail;refine bodyPost_ret (v:=.bool true) (by simp[results,Tryz.results5,go_sem]) rfl ⟨rfl,B5.o⟩
end
