/- Parts of the proof, merged by program out of 2 texts (SnH, SnI): the first: The leads: from which nodes placements lead to the end. Conditions: those of each theorem, as typed. -/
import Derived.Test.YtkfhgifhfkcehaaGreatDoorQL39
set_option linter.unusedVariables false
set_option linter.unusedSimpArgs false
set_option linter.unusedSectionVars false
set_option maxRecDepth 100000
set_option maxHeartbeats 4000000
namespace Go.Proofs.YtkfhgifhfkcehaaGreatDoor
open Go.Maps Go.RowKit
section
attribute [local irreducible] wpL
structure GEnv (w:World) (B bG m:Nat) (g:Gm) (σ0:List Int) (tv mv fv:Value):Prop where
 game:GameAt w B bG g σ0 tv mv fv
 few:g.txs.length≤12
 msk:∀x ∈ g.masks,x < 4096
 len:g.masks.length=g.txs.length
 dds:∀s ∈ g.txs,∀d ∈ s.deeds,DdR m d
 m8:m≤8
 pow:PowAt w
 wrd:WordsAt w
 err:ErrAt 15 w
 bud:ErrAt 0 w
section
variable {w w':World} {B bG m:Nat} {g:Gm} {σ0:List Int} {tv mv fv:Value}
theorem GEnv.below (h:GEnv w B bG m g σ0 tv mv fv) (hb:Below w.heap.size w w'):GEnv w' B bG m g σ0 tv mv fv:=
 ⟨h.game.below hb,h.few,h.msk,h.len,h.dds,h.m8,h.pow.below hb,h.wrd.below hb,h.err.below hb,h.bud.below hb⟩
theorem GEnv.turns (h:GEnv w B bG m g σ0 tv mv fv) {n:Nd} (hn:NdOk g m n) {sv:Value} (hs:OwnS w 0 sv n.2):
  Calls Tryz.prog 97 #[.pointer (some ⟨bG,0,none⟩),.agg #[.int .i64 (n.1:Nat),sv]] w fun e w'=>∃v',e=.returned v'∧TrsAt w' w.heap.size v' (g.turns n)∧Below w.heap.size w w':=by
 obtain⟨p,σ⟩:=n
 have hl:σ.length=m:=hn.len
 exact g_turns (m:=m) h.game h.few hs hn.bits h.msk h.len (by rw[hl];exact h.dds) (by have:=h.m8;omega) h.err
def GEnv.key (h:GEnv w B bG m g σ0 tv mv fv) {n:Nd} (hn:NdOk g m n):NdK m:=⟨n,Nat.lt_of_lt_of_le hn.bits (pow_wrap h.few).2,hn.len,h.m8,hn.val⟩
theorem GEnv.pair (h:GEnv w B bG m g σ0 tv mv fv) {n:Nd} (hn:NdOk g m n) {sv:Value} (hs:OwnS w 0 sv n.2):
  Calls Tryz.prog 93 #[.agg #[.int .i64 (n.1:Nat),sv]] w fun e w'=>e=.returned (.agg #[.int .i64 (n.1:Nat),.string (keyB n.2)])∧Below w.heap.size w w':=
 n_pair h.pow h.wrd n.1 sv n.2 (OwnF.sl (OwnF.base hs (Nat.zero_le _))) (by have:=hn.len;have:=h.m8;omega) hn.val
theorem GEnv.deedv (h:GEnv w B bG m g σ0 tv mv fv):∀s ∈ g.txs,∀d ∈ s.deeds,-1000000000≤d.val∧d.val≤1000000000:=fun s hs d hd=>by
 have:=(h.dds s hs d hd).op
 omega
end
def NdsAt (w:World) (rs:List NR) (ns:List Nd):Prop:=rs.length=ns.length∧∀(k:Nat) (r:NR) (n:Nd),rs[k]?=some r→ns[k]?=some n→NodeIs w r n
theorem NdsAt.below {w w':World} {rs:List NR} {ns:List Nd} (h:NdsAt w rs ns) (hb:Below w.heap.size w w'):NdsAt w' rs ns:=⟨h.1,fun k r n hr hn=>(h.2 k r n hr hn).below hb⟩
open Classical in
def LeadsOf (g:Gm) (m:Nat) (M:NdK m→Option Value) (l:List Nd):Prop:=∀k:NdK m,(k.1 ∈ l→M k=some (.bool (decide (g.Ends k.1))))∧(k.1 ∉ l→M k=none)
theorem g_leads {w:World} {B bG m:Nat} {g:Gm} {σ0:List Int} {tv mv fv ov:Value} {orows:List NR} {ord:List Nd} {n0:Nd} (h:GEnv w B bG m g σ0 tv mv fv) (ho:Sl w w.heap.size 2 ov orows.length (orows.flatMap NR.cells)) (hN:NdsAt w orows ord) (hb:Bfs g m n0 ord ord.length) (hol:orows.length≤65536):
  Calls Tryz.prog 99 #[.pointer (some ⟨bG,0,none⟩),ov] w fun e w'=>∃bl M,e=.returned (.map (some bl))∧RawV kapV w' bl M∧LeadsOf g m M ord∧Below w.heap.size w w':=by
 classical
 have hmk:∀X:World,Sem.run Tryz.prog (Instr.makeMap 197 none) X=.ok (.map (some X.heap.size)) (X.alloc (.map #[] 0)):=fun X=>by kernel_rfl
 obtain⟨ats,cts,htv⟩:∃a c,tv=.slice a g.txs.length c:=by
  obtain⟨rs0,tx0,hl0,-⟩:=h.game.txs
  obtain⟨a,c,e⟩:=OwnF.slv tx0
  exact⟨a,c,by rw[e,hl0]⟩
 subst htv
 have h12:=h.few
 obtain⟨ao,co,rfl,mo⟩:=ho.ex
 have b0:Below w.heap.size w (w.alloc (.map #[] 0)):=(Below.refl _ w).alloc (Nat.le_refl _) _
 have rm:RawV (kapV (m:=m)) (w.alloc (.map #[] 0)) w.heap.size (fun _=>none):=RawV.made (row_new w (.map #[] 0))
 have HO:=hid ho
 have H:=hid h
 have HN:=hid hN
 have HB:=hid hb
 have B0:=hid b0
 have RM:=hid rm
 clear ho h hN hb b0 rm
 go_enter Tryz.func99,Tryz.ntmps99
 go_wp2_with fail
 generalize w.alloc (.map #[] 0)=W at *
 go_loopw [6] (fun p wr=>∃(j:Nat) (M:NdK m→Option Value),j≤orows.length∧p=.int .i64 ((j:Int) - 1)∧RawV kapV wr w.heap.size M∧LeadsOf g m M (ord.drop j)∧Below w.heap.size w wr) (fun p _=>(intOf p+1).toNat)
 case atStart=>
  refine⟨orows.length,_,Nat.le_refl _,by go_num,RM.out,fun k=>⟨fun hk=>?_,fun _=>rfl⟩,B0.out⟩
  rw[HN.out.1,List.drop_length] at hk
  cases hk
 case round=>
  obtain⟨j,M,hj,rfl,qm,ql,qb⟩:=hrel
  have hsz:=qb.size
  have QM:=hid qm
  have QL:=hid ql
  have QB:=hid qb
  clear qm ql qb RM B0
  by_cases hlt:0 < j
  ·obtain ⟨i,rfl⟩:∃i,j=i+1:=⟨j - 1,by omega⟩
   have e1:((i+1:Nat):Int) - 1=(i:Int):=by omega
   rw[e1]
   have hil:i < orows.length:=by omega
   obtain⟨b,off,r,rfl,hbb,hrx,hc⟩:=((HO.out.below QB.out).more hsz).atF NR.len rfl hil
   obtain⟨n,hn⟩:∃n,ord[i]?=some n:=⟨_,List.getElem?_eq_getElem (by have:=HN.out.1;omega)⟩
   have hni:=HN.out.2 i r n hrx hn
   obtain⟨as1,cs1,hsv⟩:=hni.slv
   obtain⟨hp1,hos⟩:=hni
   obtain⟨rp,rv⟩:=r
   simp only at hp1 hsv hos
   subst hp1 hsv
   have hok:=HB.out.size hn
   have c0:wr.cell? ⟨b,off+i*2,none⟩=some (.int .i64 (n.1:Nat)):=hc 0 (by decide)
   have c1:wr.cell? ⟨b,off+i*2+1,none⟩=some (.slice as1 n.2.length cs1):=hc 1 (by decide)
   have b3:Below wr.heap.size wr (wr.alloc (.cells #[.int .i64 (n.1:Nat),.slice as1 n.2.length cs1] 181)):=(Below.refl _ wr).alloc (Nat.le_refl _) _
   have r3:=row_new wr (.cells #[.int .i64 (n.1:Nat),.slice as1 n.2.length cs1] 181)
   have hz3:=hid (show(wr.alloc (.cells #[.int .i64 (n.1:Nat),.slice as1 n.2.length cs1] 181)).heap.size=wr.heap.size+1 by simp)
   have HOS:=hid hos
   have HNN:=hid hn
   clear hc hrx hn hos
   go_wp2_with fail
   generalize wr.alloc (.cells #[.int .i64 (n.1:Nat),.slice as1 n.2.length cs1] 181)=W3 at *
   have BW3:=hid (QB.out.trans (b3.mono hsz))
   have H3:=hid (H.out.below BW3.out)
   have AC:=hid (g_all (w:=W3.drew) (n:=g.txs.length) H3.out.game.row h12)
   have RNn:=hid r3
   have z:=row_cell r3
   have z0:=z 0
   have z1:=z 1
   simp at z0 z1
   have zl:=row_lt r3
   clear z r3 c0 c1 hbb
   refine wp_rN (W3.heap.size) [0,1,0,3,0,0] (.fin [0,1,2,3,4,5]) (by kernel_rfl) ?_
   simp only[wpT,selX,guardAt,sD,sE,sF,sG]
   repeat first|(refine wpL_p fun K hK=>?_;go_simp;refine hK _ _ ?_;clear hK K)|(apply wpL_s;(intro w2 hw2;have hk1:=hw2.cell;have hk3:=hw2.1;clear hw2;go_simp;with_reducible rfl);simp only[Act.put,sA,sB,sC])
   refine wpL_k (fun K hK=>?_)
   go_simp
   refine AC.out.mono ?_
   rintro e w4 ⟨rfl,rfl⟩
   refine hK _ _ (RN.KeepsN.refl _ _) ?_
   clear hK K
   repeat first|(refine wpL_p fun K hK=>?_;go_simp;refine hK _ _ ?_;clear hK K)|refine wpL_nil ?_
   have B3:=hid (QB.out.trans ((b3.drew).mono hsz))
   have H4:=hid (H.out.below B3.out)
   have TC:=hid (H4.out.turns hok (OwnF.below HOS.out B3.out))
   have hz4:wr.heap.size≤W3.drew.heap.size:=b3.size
   have RN4:=hid (show W3.drew.heap[wr.heap.size]?=_ from RNn.out)
   have QM4:=hid (QM.out.below b3.drew QM.out.lt)
   clear AC BW3 H3 b3
   go_wp2_with fail
   generalize W3.drew=W4 at *
   refine TC.out.mono ?_
   rintro e W5 ⟨tv5,rfl,T5,b5⟩
   obtain⟨trs,o5,htl,htc⟩:=T5
   obtain⟨at5,ct5,rfl⟩:=OwnF.slv o5
   have BW5:=hid (B3.out.trans (b5.mono (Nat.le_trans hsz hz4)))
   have RN5:=hid (row_below RN4.out b5 (row_lt RN4.out))
   have QM5:=hid (QM4.out.below b5 QM4.out.lt)
   have O5:=hid o5
   have HTL:=hid htl
   have HTC:=hid htc
   have htlm:trs.length≤30:=by rw[htl];have:=len_turnsK g n g.txs.length;unfold Gm.turns;omega
   clear o5 htl htc b5 TC
   obtain⟨bb0,hbb0⟩:∃bb0:Bool,(((n.1:Nat):Int)==((2 ^ g.txs.length - 1:Nat):Int))=bb0:=⟨_,rfl⟩
   have hall:bb0=true↔n.1=g.all:=by
    rw[←hbb0,beq_iff_eq]
    show _↔n.1=2 ^ g.txs.length - 1
    constructor
    ·intro h;exact Int.ofNat.inj h
    ·intro h;rw[h]
   rw[hbb0]
   have HAL:=hid hall
   clear hall hbb0
   go_wp2_with fail
   generalize wr.heap.size=bn7 at *
   go_loopw [8,32] (fun x y wx=>∃(q:Nat) (b:Bool),q≤trs.length∧x=.bool b∧y=.int .i64 q∧(b=true↔n.1=g.all∨∃t ∈ (g.turns n).take q,g.Ends t.to)∧Below W5.heap.size W5 wx) (fun _ y _=>trs.length - (intOf y).toNat)
   case atStart=>exact⟨0,bb0,by omega,rfl,by go_num,by rw[HAL.out];simp,Below.refl _ _⟩
   case round=>
    obtain⟨q,b,hq5,rfl,rfl,hbt,qb5⟩:=hrel
    have hsz5:=qb5.size
    have HBT:=hid hbt
    have QB5:=hid qb5
    clear hbt qb5
    by_cases hlt5:q < trs.length
    ·obtain ⟨b',off',r,rfl,hbb',hrx,hc⟩:=(OwnF.sl (OwnF.below O5.out QB5.out)).atF TnR.len rfl hlt5
     obtain⟨t,ht⟩:∃t,(g.turns n)[q]?=some t:=⟨_,List.getElem?_eq_getElem (by have:=HTL.out;omega)⟩
     obtain⟨te1,te2,te3,tos⟩:=HTC.out q r t hrx ht
     obtain⟨i1,co1,p1,sv1⟩:=r
     simp only at te1 te2 te3 tos
     subst te1 te2 te3
     obtain⟨a1,c1,hsv1⟩:=OwnF.slv tos
     subst hsv1
     have d0:wr.cell? ⟨b',off'+q*4,none⟩=some (.int .i64 t.id):=hc 0 (by decide)
     have d1:wr.cell? ⟨b',off'+q*4+1,none⟩=some (.bool t.com):=hc 1 (by decide)
     have d2:wr.cell? ⟨b',off'+q*4+2,none⟩=some (.int .i64 (t.to.1:Nat)):=hc 2 (by decide)
     have d3:wr.cell? ⟨b',off'+q*4+3,none⟩=some (.slice a1 t.to.2.length c1):=hc 3 (by decide)
     have HT:=hid ht
     have TOS:=hid tos
     have TQ:=hid (show(g.turns n).take (q+1)=(g.turns n).take q++[t] by rw[List.take_add_one,ht];rfl)
     clear hc hrx ht tos hbb'
     have b6:Below wr.heap.size wr (wr.alloc (.cells #[.int .i64 t.id,.bool t.com,.int .i64 (t.to.1:Nat),.slice a1 t.to.2.length c1] 195)):=(Below.refl _ wr).alloc (Nat.le_refl _) _
     have r6:=row_new wr (.cells #[.int .i64 t.id,.bool t.com,.int .i64 (t.to.1:Nat),.slice a1 t.to.2.length c1] 195)
     have B6:=hid (QB5.out.trans (b6.mono hsz5))
     cases b with
     |true=>
      go_wp2_with fail
      generalize wr.alloc (.cells #[.int .i64 t.id,.bool t.com,.int .i64 (t.to.1:Nat),.slice a1 t.to.2.length c1] 195)=W6 at *
      refine⟨⟨q+1,true,by omega,rfl,by go_num,?_,B6.out⟩,by simp[intOf];omega⟩
      refine⟨fun _=>?_,fun _=>rfl⟩
      rw[TQ.out]
      rcases HBT.out.1 rfl with h1|⟨u,hu,h2⟩
      ·exact .inl h1
      ·exact .inr ⟨u,List.mem_append_left _ hu,h2⟩
     |false=>
      go_wp2_with fail
      generalize wr.alloc (.cells #[.int .i64 t.id,.bool t.com,.int .i64 (t.to.1:Nat),.slice a1 t.to.2.length c1] 195)=W6 at *
      have BW6:=hid (BW5.out.trans (B6.out.mono BW5.out.size))
      have H6:=hid (H.out.below BW6.out)
      have htok:NdOk g m t.to:=turn_ok hok H.out.deedv (List.mem_of_getElem? HT.out)
      have PC:=hid (H6.out.pair htok (OwnF.below TOS.out B6.out))
      have hin:t.to ∈ ord.drop (i+1):=by
       obtain⟨j',hj1,hj2⟩:=HB.out.later HNN.out (List.mem_of_getElem? HT.out)
       refine List.mem_iff_getElem?.2 ⟨j' - (i+1),?_⟩
       rw[List.getElem?_drop,show i+1+(j' - (i+1))=j' by omega]
       exact hj2
      have hMk:=(QL.out (H6.out.key htok)).1 hin
      refine PC.out.mono ?_
      rintro e W7 ⟨rfl,b7⟩
      have B7:=hid (B6.out.trans (b7.mono B6.out.size))
      have QM7:=QM5.out.below (B7.out) QM5.out.lt
      have hlk:Sem.run Tryz.prog (Instr.lookup 197 (.map (some w.heap.size)) (.agg #[.int .i64 (t.to.1:Nat),.string (keyB t.to.2)]) false) W7=.ok (.bool (decide (g.Ends t.to))) W7:=
       (QM7.look (kap m) Tryz.underlying197 (zv:=.bool false) (by kernel_rfl) (H6.out.key htok) hMk).1
      have hb2:decide (g.Ends t.to)=true↔n.1=g.all∨∃u ∈ (g.turns n).take (q+1),g.Ends u.to:=by
       rw[TQ.out,decide_eq_true_iff]
       constructor
       ·intro h1;exact .inr ⟨t,by simp,h1⟩
       ·rintro (h1|⟨u,hu,h2⟩)
        ·have:=HBT.out.2 (.inl h1);cases this
        ·rcases List.mem_append.1 hu with hu|hu
         ·have:=HBT.out.2 (.inr ⟨u,hu,h2⟩);cases this
         ·rw [List.mem_singleton] at hu;rw[←hu];exact h2
      have HB2:=hid hb2
      clear hb2 hMk hin htok PC b7 QM7
      generalize decide (g.Ends t.to)=bE at *
      go_wp2_with fail
      exact⟨⟨q+1,bE,by omega,rfl,by go_num,HB2.out,B7.out⟩,by simp[intOf];omega⟩
    ·obtain rfl:q=trs.length:=by omega
     have hq6:decide ((trs.length:Int) < (trs.length:Int))=false:=by simp
     have hEn:b=true↔g.Ends n:=by
      rw[HBT.out,ends_iff,HTL.out,List.take_length]
     have HEN:=hid hEn
     clear hEn
     have rw7:=row_below RN5.out QB5.out (row_lt RN5.out)
     have z:=row_cell rw7
     have z0:=z 0
     have z1:=z 1
     simp at z0 z1
     have zl:=row_lt rw7
     have BWr:=hid (BW5.out.trans (QB5.out.mono BW5.out.size))
     have Hr:=hid (H.out.below BWr.out)
     have PC:=hid (Hr.out.pair hok (OwnF.below HOS.out BWr.out))
     have QMr:=hid (QM5.out.below QB5.out QM5.out.lt)
     clear z rw7
     go_wp2_with fail
     refine PC.out.mono ?_
     rintro e W8 ⟨rfl,b8⟩
     obtain⟨W9,hrun,hM9,ht9⟩:=(QMr.out.below b8 QMr.out.lt).store (kap m) (t:=197) Tryz.underlying197 (Hr.out.key hok) (.bool b)
     have hrun:(Instr.mapUpdate 197 (.map (some w.heap.size)) (.agg #[.int .i64 (n.1:Nat),.string (keyB n.2)]) (.bool b)).run Tryz.prog W8=.ok () W9:=hrun
     have B9:=hid ((BWr.out.trans (b8.mono BWr.out.size)).trans (Below.turned ht9 (Nat.le_refl _)))
     have HM9:=hid hM9
     clear hM9 ht9 b8 PC
     go_wp2_with fail
     have hbe:b=decide (g.Ends n):=Bool.eq_iff_iff.2 (HEN.out.trans decide_eq_true_iff.symm)
     have hdr:ord.drop i=n::ord.drop (i+1):=by
      have hil2:i < ord.length:=by have:=HN.out.1;omega
      rw[List.drop_eq_getElem_cons hil2]
      have:=HNN.out
      rw[List.getElem?_eq_getElem hil2] at this
      rw[Option.some.inj this]
     refine⟨⟨i,_,by omega,by go_num,HM9.out,fun k=>?_,B9.out⟩,by simp[intOf];try omega⟩
     rw[hdr]
     by_cases hkn:k.1=n
     ·have hke:k=Hr.out.key hok:=Subtype.ext hkn
      refine⟨fun _=>?_,fun hx=>absurd (List.mem_cons.2 (.inl hkn)) hx⟩
      rw[hke,rupV_same,hbe]
      rfl
     ·have hke:k≠Hr.out.key hok:=fun e=>hkn (by rw[e];rfl)
      rw[rupV_ne hke]
      refine⟨fun hx=>?_,fun hx=>?_⟩
      ·rcases List.mem_cons.1 hx with hx|hx
       ·exact absurd hx hkn
       ·exact (QL.out k).1 hx
      ·exact (QL.out k).2 fun hy=>hx (List.mem_cons_of_mem _ hy)
  ·obtain rfl:j=0:=by omega
   have hq:decide ((0:Int)≤((0:Nat):Int) - 1)=false:=by simp
   go_wp2_with fail
   go_ret
   exact⟨_,M,rfl,QM.out,by simpa using QL.out,QB.out⟩
end
section
attribute [local irreducible] wpL
def stpC (u:Int×Bool):List Value:=[.int .i64 u.1,.bool u.2]
theorem stpC_len (u:Int×Bool):(stpC u).length=2:=rfl
theorem infoStep:(Tryz.prog.info? 58).map (fun i=>(i.zero,i.size,i.bytes))=some (some (.agg #[.int .i64 0,.bool false]),2,16):=by kernel_rfl
theorem step_one (u:Int×Bool):∀x ∈ stpC u,x.oneCell'=true:=by intro x hx;simp[stpC] at hx;rcases hx with rfl|rfl <;> rfl
def lenV:Value→Nat
 |.slice _ n _=>n
 |_=>0
theorem g_least {w:World} {B bG m bl:Nat} {g:Gm} {σ0:List Int} {tv mv fv:Value} {ord:List Nd} {M:NdK m→Option Value} (h:GEnv w B bG m g σ0 tv mv fv) (hM:RawV kapV w bl M) (hL:LeadsOf g m M ord) (hb:Bfs g m (0,σ0) ord ord.length) (hE:g.Ends (0,σ0)):
  Calls Tryz.prog 100 #[.pointer (some ⟨bG,0,none⟩),.map (some bl)] w fun e w'=>(∃a n c,e=.returned (.slice a n c))∧Below w.heap.size w w':=by
 classical
 obtain⟨ats,cts,htv⟩:∃a c,tv=.slice a g.txs.length c:=by
  obtain⟨rs0,tx0,hl0,-⟩:=h.game.txs
  obtain⟨a,c,e⟩:=OwnF.slv tx0
  exact⟨a,c,by rw[e,hl0]⟩
 subst htv
 obtain⟨af,cf,hfv⟩:=OwnF.slv h.game.first
 subst hfv
 have h12:=h.few
 have y3:=row_cell h.game.row 3
 simp at y3
 have yl:=row_lt h.game.row
 have hfs:=h.game.first
 have H:=hid h
 have HMM:=hid hM
 have HLL:=hid hL
 have HB:=hid hb
 have HF:=hid (OwnF.base hfs (Nat.zero_le _))
 have HE:=hid hE
 clear h hM hL hb hfs hE
 go_enter Tryz.func100,Tryz.ntmps100
 go_wp2_with fail
 have r1:=hid (row_new w (.cells #[.int .i64 0,.slice af σ0.length cf] 181))
 have b1:=hid (show Below w.heap.size w (w.alloc (.cells #[.int .i64 0,.slice af σ0.length cf] 181)) from(Below.refl _ w).alloc (Nat.le_refl _) _)
 generalize w.alloc (.cells #[.int .i64 0,.slice af σ0.length cf] 181)=W at *
 go_loopw [5,6] (fun x y wr=>∃(c:Nd) (bn:Nat) (ls:List (Int×Bool)) (a:Option Addr) (cc:Nat),y=.pointer (some ⟨bn,0,none⟩)∧wr.heap[bn]?=some (.cells #[.int .i64 (c.1:Nat),.slice a c.2.length cc] 181 (0,0))∧w.heap.size≤bn∧OwnS wr 0 (.slice a c.2.length cc) c.2∧c ∈ ord∧g.Ends c∧OwnF stpC 58 2 wr w.heap.size x ls∧ls.length=g.rank c∧Below w.heap.size w wr) (fun x _ _=>g.txs.length+1 - lenV x)
 case atStart=>exact⟨(0,σ0),w.heap.size,[],af,cf,rfl,r1.out,Nat.le_refl _,OwnF.below HF.out b1.out,List.mem_of_getElem? HB.out.hd,HE.out,OwnF.nil _ _,by simp[Gm.rank],b1.out⟩
 case round=>
  obtain⟨c,bn,ls,a,cc,rfl,qr,qn,qs,qm,qe,ql,qk,qb⟩:=hrel
  have hsz:=qb.size
  have hrk:=rank_le (g:=g) (n:=c)
  obtain⟨al,cl,rfl,-⟩:=(OwnF.sl ql).ex
  have hok:NdOk g m c:=HB.out.ok c qm
  have x0:=row_cell qr 0
  have x1:=row_cell qr 1
  simp at x0 x1
  have xl:=row_lt qr
  have H1:=hid (H.out.below qb)
  have AC:=hid (g_all (w:=wr.drew) (n:=g.txs.length) H1.out.game.row h12)
  have QR:=hid qr
  have QS:=hid qs
  have QM:=hid qm
  have QE:=hid qe
  have QL:=hid ql
  have QK:=hid qk
  have QB:=hid qb
  clear qr qs qm qe ql qk qb y3 yl r1 b1
  go_wp2_with fail
  refine wp_rN (wr.heap.size) [0,1,0,3,0] (.fin [0,1,2,3,4]) (by kernel_rfl) ?_
  simp only[wpT,selX,guardAt,sD,sE,sF,sG]
  repeat first|(refine wpL_p fun K hK=>?_;go_simp;refine hK _ _ ?_;clear hK K)|(apply wpL_s;(intro w2 hw2;have hk1:=hw2.cell;have hk3:=hw2.1;clear hw2;go_simp;with_reducible rfl);simp only[Act.put,sA,sB,sC])
  refine wpL_k (fun K hK=>?_)
  go_simp
  refine AC.out.mono ?_
  rintro e w4 ⟨rfl,rfl⟩
  refine hK _ _ (RN.KeepsN.refl _ _) ?_
  clear hK K
  repeat first|(refine wpL_p fun K hK=>?_;go_simp;refine hK _ _ ?_;clear hK K)|refine wpL_nil ?_
  by_cases hall:c.1=g.all
  ·have hq:(((c.1:Nat):Int) !=((2 ^ g.txs.length - 1:Nat):Int))=false:=by
    rw[hall];simp[Gm.all]
   rw[hq]
   go_wp2_with fail
   go_ret
   exact⟨⟨_,_,_,rfl⟩,QB.out.drew⟩
  ·have hq:(((c.1:Nat):Int) !=((2 ^ g.txs.length - 1:Nat):Int))=true:=by
    refine bne_iff_ne.2 fun e=>hall ?_
    exact Int.ofNat.inj e
   rw[hq]
   have HQ:Hid (∃t ∈ g.turns c,g.Ends t.to):=hid ((ends_iff.1 QE.out).resolve_left hall)
   have B4:=hid QB.out.drew
   have H4:=hid (H.out.below B4.out)
   have TC:=hid (H4.out.turns hok (OwnF.drew QS.out))
   have R4:=hid (show wr.drew.heap[bn]?=_ from QR.out)
   have QL4:=hid QL.out.drew
   have hz4:wr.heap.size≤wr.drew.heap.size:=Nat.le_refl _
   clear hq hall AC
   go_wp2_with fail
   generalize wr.drew=W4 at *
   refine TC.out.mono ?_
   rintro e W5 ⟨tv5,rfl,T5,b5⟩
   obtain⟨trs,o5,htl,htc⟩:=T5
   obtain⟨at5,ct5,rfl⟩:=OwnF.slv o5
   have BW5:=hid (B4.out.trans (b5.mono (Nat.le_trans hsz hz4)))
   have R5:=hid (row_below R4.out b5 (row_lt R4.out))
   have QL5:=hid (OwnF.below QL4.out b5)
   have O5:=hid o5
   have HTL:=hid htl
   have HTC:=hid htc
   have htlm:trs.length≤30:=by rw[htl];have:=len_turnsK g c g.txs.length;unfold Gm.turns;omega
   clear o5 htl htc b5 TC
   go_wp2_with fail
   go_loopw [5,23] (fun x y wx=>∃(q:Nat),q≤trs.length∧x=.slice al ls.length cl∧y=.int .i64 q∧(∀t ∈ (g.turns c).take q,¬g.Ends t.to)∧Below W5.heap.size W5 wx) (fun _ y _=>trs.length - (intOf y).toNat)
   case atStart=>exact⟨0,by omega,rfl,by go_num,by simp,Below.refl _ _⟩
   case round=>
    obtain⟨q,hq5,rfl,rfl,hbt,qb5⟩:=hrel
    have hsz5:=qb5.size
    have HBT:=hid hbt
    have QB5:=hid qb5
    clear hbt qb5
    by_cases hlt5:q < trs.length
    ·obtain ⟨b',off',r,rfl,hbb',hrx,hc⟩:=(OwnF.sl (OwnF.below O5.out QB5.out)).atF TnR.len rfl hlt5
     obtain⟨t,ht⟩:∃t,(g.turns c)[q]?=some t:=⟨_,List.getElem?_eq_getElem (by have:=HTL.out;omega)⟩
     obtain⟨te1,te2,te3,tos⟩:=HTC.out q r t hrx ht
     obtain⟨i1,co1,p1,sv1⟩:=r
     simp only at te1 te2 te3 tos
     subst te1 te2 te3
     obtain⟨a1,c1,hsv1⟩:=OwnF.slv tos
     subst hsv1
     have d0:wr.cell? ⟨b',off'+q*4,none⟩=some (.int .i64 t.id):=hc 0 (by decide)
     have d1:wr.cell? ⟨b',off'+q*4+1,none⟩=some (.bool t.com):=hc 1 (by decide)
     have d2:wr.cell? ⟨b',off'+q*4+2,none⟩=some (.int .i64 (t.to.1:Nat)):=hc 2 (by decide)
     have d3:wr.cell? ⟨b',off'+q*4+3,none⟩=some (.slice a1 t.to.2.length c1):=hc 3 (by decide)
     have HT:=hid ht
     have TOS:=hid tos
     have TQ:=hid (show(g.turns c).take (q+1)=(g.turns c).take q++[t] by rw[List.take_add_one,ht];rfl)
     clear hc hrx ht tos hbb'
     have b6:Below wr.heap.size wr (wr.alloc (.cells #[.int .i64 t.id,.bool t.com,.int .i64 (t.to.1:Nat),.slice a1 t.to.2.length c1] 195)):=(Below.refl _ wr).alloc (Nat.le_refl _) _
     have r6:=row_new wr (.cells #[.int .i64 t.id,.bool t.com,.int .i64 (t.to.1:Nat),.slice a1 t.to.2.length c1] 195)
     have B6:=hid (QB5.out.trans (b6.mono hsz5))
     go_wp2_with fail
     generalize wr.alloc (.cells #[.int .i64 t.id,.bool t.com,.int .i64 (t.to.1:Nat),.slice a1 t.to.2.length c1] 195)=W6 at *
     have BW6:=hid (BW5.out.trans (B6.out.mono BW5.out.size))
     have H6:=hid (H.out.below BW6.out)
     have htok:NdOk g m t.to:=turn_ok hok H.out.deedv (List.mem_of_getElem? HT.out)
     have PC:=hid (H6.out.pair htok (OwnF.below TOS.out B6.out))
     have hin:t.to ∈ ord:=by
      obtain⟨i,hi⟩:=List.mem_iff_getElem?.1 QM.out
      obtain⟨j',-,hj2⟩:=HB.out.later hi (List.mem_of_getElem? HT.out)
      exact List.mem_of_getElem? hj2
     have hMk:=(HLL.out (H6.out.key htok)).1 hin
     have R6:=hid r6
     refine PC.out.mono ?_
     rintro e W7 ⟨rfl,b7⟩
     have B7:=hid (B6.out.trans (b7.mono B6.out.size))
     have BW7:=hid (BW5.out.trans (B7.out.mono BW5.out.size))
     have QM7:=HMM.out.below BW7.out HMM.out.lt
     have hlk:Sem.run Tryz.prog (Instr.lookup 197 (.map (some bl)) (.agg #[.int .i64 (t.to.1:Nat),.string (keyB t.to.2)]) false) W7=.ok (.bool (decide (g.Ends t.to))) W7:=
      (QM7.look (kap m) Tryz.underlying197 (zv:=.bool false) (by kernel_rfl) (H6.out.key htok) hMk).1
     have HIN:=hid hin
     have r7:=row_below R6.out b7 (row_lt R6.out)
     have R7:=hid r7
     clear hin hMk PC QM7 r6
     by_cases hEt:g.Ends t.to
     ·rw [decide_eq_true hEt] at hlk
      have z:=row_cell r7
      have z0:=z 0
      have z1:=z 1
      have z2:=z 2
      have z3:=z 3
      simp at z0 z1 z2 z3
      have zl7:=row_lt r7
      have QL7:=OwnF.below QL5.out B7.out
      have hB7:w.heap.size≤W7.heap.size:=BW7.out.size
      have RN7:=hid (row_below R5.out B7.out (row_lt R5.out))
      have hll:ls.length≤12:=by have:=QK.out;omega
      have hrank:=turn_rank (List.mem_of_getElem? HT.out)
      clear z r7 b7
      go_wp2_with (at_builtin;refine wpList_appF rfl _ _ _ rfl _ 16 Tryz.underlying49 infoStep rfl QL7 (t.id,t.com) hB7 (by rfl) (by rfl) (by first|rfl|simp) rfl (step_one _) (by first|omega|(simp only[List.length_append,List.length_cons,List.length_nil,List.length_replicate];omega)) (by first|omega|(simp only[List.length_append,List.length_cons,List.length_nil,List.length_replicate];omega)) ?_;refine Stop.halt ?_)
      refine Stop.go ?_
      intro g8 c8 w8 o8 G8
      have rt8:=row_grw R7.out G8 (OwnF.neT QL7 R7.out (by decide))
      have rn8:=row_grw RN7.out G8 (OwnF.neT QL7 RN7.out (by decide))
      have B8:=hid (BW7.out.trans (G8.below hB7 fun j hj=>(OwnF.lt QL7 j hj).1))
      have TOS8:=hid (OwnF.grwT (OwnF.below TOS.out B7.out) QL7 (by decide) G8)
      have z:=row_cell rt8
      have z2:=z 2
      have z3:=z 3
      have y:=row_cell rn8
      have y0:=y 0
      have y1:=y 1
      simp at z2 z3 y0 y1
      have zl8:=row_lt rt8
      have yl8:=row_lt rn8
      have yf:=fun j=>row_free rn8 j
      have rF:=row_set (row_set rn8 0 (.int .i64 (t.to.1:Nat))) 1 (.slice a1 t.to.2.length c1)
      have oF:=OwnF.other (j:=1) (OwnF.other (j:=0) o8 (OwnF.neT o8 rn8 (by decide)) (.int .i64 (t.to.1:Nat))) (OwnF.neT o8 rn8 (by decide)) (.slice a1 t.to.2.length c1)
      have tF:=OwnF.other (j:=1) (OwnF.other (j:=0) TOS8.out (OwnF.neT TOS8.out rn8 (by decide)) (.int .i64 (t.to.1:Nat))) (OwnF.neT TOS8.out rn8 (by decide)) (.slice a1 t.to.2.length c1)
      have bF:=(B8.out.setCell (p:=⟨bn,0,none⟩) qn (.int .i64 (t.to.1:Nat))).setCell (p:=⟨bn,1,none⟩) qn (.slice a1 t.to.2.length c1)
      have zF:((w8.setCell ⟨bn,0,none⟩ (.int .i64 (t.to.1:Nat))).setCell ⟨bn,1,none⟩ (.slice a1 t.to.2.length c1)).heap.size=w8.heap.size:=by simp
      have RF:=hid rF
      have OF:=hid oF
      have TF:=hid tF
      have BF:=hid bF
      clear z y rt8 rn8 o8 G8 rF oF tF bF QL7
      have ZF:=hid zF
      clear zF
      go_wp2_with fail
      refine⟨⟨t.to,_,ls++[(t.id,t.com)],a1,c1,rfl,row_new' (by simp),?_,OwnF.alloc TF.out _,HIN.out,hEt,OwnF.alloc OF.out _,by rw[hrank,←QK.out];simp,BF.out.alloc BF.out.size _⟩,?_⟩
      ·have:=BF.out.size;simpa using this
      ·have:=QK.out;simp only[lenV];omega
     ·rw [decide_eq_false hEt] at hlk
      go_wp2_with fail
      refine⟨⟨q+1,by omega,rfl,by go_num,fun u hu=>?_,B7.out⟩,by simp[intOf];omega⟩
      rw[TQ.out] at hu
      rcases List.mem_append.1 hu with hu|hu
      ·exact HBT.out u hu
      ·rw [List.mem_singleton] at hu;rw[hu];exact hEt
    ·obtain rfl:q=trs.length:=by omega
     obtain⟨t,ht,hE2⟩:=HQ.out
     exfalso
     refine HBT.out t ?_ hE2
     rw[HTL.out,List.take_length]
     exact ht
end
