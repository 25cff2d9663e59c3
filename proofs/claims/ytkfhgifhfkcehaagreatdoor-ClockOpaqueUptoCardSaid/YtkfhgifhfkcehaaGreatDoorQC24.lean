/- Parts of the proof; the first: The least order: it ends. Conditions: those of each theorem, as typed. -/
import Derived.Test.YtkfhgifhfkcehaaGreatDoorQC23
import Derived.Test.YtkfhgifhfkcehaaGreatDoorQC21
import Derived.Test.YtkfhgifhfkcehaaGreatDoorQC11
import Derived.Test.YtkfhgifhfkcehaaGreatDoorQC19
set_option linter.unusedVariables false
set_option linter.unusedSimpArgs false
set_option linter.unusedSectionVars false
set_option maxRecDepth 100000
set_option maxHeartbeats 4000000
namespace Go.Proofs.YtkfhgifhfkcehaaGreatDoor
open Go.Maps Go.RowKit
section
attribute [local irreducible] xL
def lenV:Value->Nat
 |.slice _ n _=>n
 |_=>0
theorem g_least {w:World} {B bG m bl:Nat} {g:Gm} {σ0:List Int} {tv mv fv:Value} {ord:List Nd} {M:NdK m->Option Value} (h:GEnv w B bG m g σ0 tv mv fv) (hM:yL kapV w bl M) (hL:LeadsOf g m M ord) (hb:Bfs g m (0,σ0) ord ord.length) (hE:g.Ends (0,σ0)):
  Calls Tryz.prog 100 #[.pointer (some ⟨bG,0,none⟩),.map (some bl)] w fun e w'=>(∃a n c,e=.returned (.slice a n c))/\Below w.heap.size w w':=by
 classical
 obtain⟨ats,cts,htv⟩:∃a c,tv=.slice a g.txs.length c:=by
  obtain⟨rs0,tx0,hl0,-⟩:=h.game.txs;obtain⟨a,c,e⟩:=qq.slv tx0;exact⟨a,c,by rw[e,hl0]⟩
 subst htv;obtain⟨af,cf,hfv⟩:=qq.slv h.game.first
 subst hfv;have h12:=h.few;have y3:=qg h.game.row 3;simp at y3;have yl:=qh h.game.row;have hfs:=h.game.first
 have H:=qj h;have HMM:=qj hM;have HLL:=qj hL;have HB:=qj hb;have HF:=qj (qq.base hfs (Nat.zero_le _));have HE:=qj hE;clear h hM hL hb hfs hE;go_enter Tryz.func100,Tryz.ntmps100;go_wp2_with fail;have r1:=qj (qy w (.cells #[.int .i64 0,.slice af σ0.length cf] 181));have b1:=qj (show Below w.heap.size w (w.alloc (.cells #[.int .i64 0,.slice af σ0.length cf] 181)) from(Below.refl _ w).alloc (Nat.le_refl _) _);generalize w.alloc (.cells #[.int .i64 0,.slice af σ0.length cf] 181)=W at *
 go_loopw [5,6] (fun x y wr=>∃(c:Nd) (bn:Nat) (ls:List (Int×Bool)) (a:Option Addr) (cc:Nat),y=.pointer (some ⟨bn,0,none⟩)/\wr.heap[bn]?=some (.cells #[.int .i64 (c.1:Nat),.slice a c.2.length cc] 181 (0,0))/\w.heap.size<=bn/\OwnS wr 0 (.slice a c.2.length cc) c.2/\c ∈ ord/\g.Ends c/\qq stpC 58 2 wr w.heap.size x ls/\ls.length=g.rank c/\Below w.heap.size w wr) (fun x _ _=>g.txs.length+1 - lenV x)
 case atStart=>exact⟨(0,σ0),w.heap.size,[],af,cf,rfl,r1.o,Nat.le_refl _,qq.below HF.o b1.o,List.mem_of_getElem? HB.o.hd,HE.o,qq.nil _ _,by simp[Gm.rank],b1.o⟩
 case round=>
  obtain⟨c,bn,ls,a,cc,rfl,qr,qn,qs,qm,qe,ql,qk,qb⟩:=hrel;have hsz:=qb.size;have hrk:=rank_le (g:=g) (n:=c);obtain⟨al,cl,rfl,-⟩:=(qq.sl ql).ex;have hok:NdOk g m c:=HB.o.ok c qm;have x0:=qg qr 0;have x1:=qg qr 1;simp at x0 x1;have xl:=qh qr;have H1:=qj (H.o.below qb);have AC:=qj (g_all (w:=wr.drew) (n:=g.txs.length) H1.o.game.row h12);have QR:=qj qr;have QS:=qj qs;have QM:=qj qm;have QE:=qj qe;have QL:=qj ql;have QK:=qj qk;have QB:=qj qb;clear qr qs qm qe ql qk qb y3 yl r1 b1;go_wp2_with fail;refine qT (wr.heap.size) [0,1,0,3,0] (.fin [0,1,2,3,4]) (by kernel_rfl) ?_;simp only[yp,qP,qD,sD,sE,sF,sG]
  repeat first|(refine qC fun K hK=>?_;go_simp;refine hK _ _ ?_;clear hK K)|(apply qJ;(intro w2 hw2;have hk1:=hw2.cell;have hk3:=hw2.1;clear hw2;go_simp;with_reducible rfl);simp only[Act.put,sA,sB,sC])
  refine qI (fun K hK=>?_);go_simp;refine AC.o.mono ?_;rintro e w4 ⟨rfl,rfl⟩;refine hK _ _ (RN.KeepsN.refl _ _) ?_;clear hK K
  repeat first|(refine qC fun K hK=>?_;go_simp;refine hK _ _ ?_;clear hK K)|refine qA ?_
  by_cases hall:c.1=g.all
  ·have hq:(((c.1:Nat):Int) !=((2 ^ g.txs.length - 1:Nat):Int))=false:=by
    rw[hall];simp[Gm.all]
   rw[hq];go_wp2_with fail;go_ret;exact⟨⟨_,_,_,rfl⟩,QB.o.drew⟩
  ·have hq:(((c.1:Nat):Int) !=((2 ^ g.txs.length - 1:Nat):Int))=true:=by
    refine bne_iff_ne.2 fun e=>hall ?_;exact Int.ofNat.inj e
   rw[hq];have HQ:Hid (∃t ∈ g.turns c,g.Ends t.dest):=qj ((ends_iff.1 QE.o).resolve_left hall);have B4:=qj QB.o.drew;have H4:=qj (H.o.below B4.o);have TC:=qj (H4.o.turns hok (qq.drew QS.o));have R4:=qj (show wr.drew.heap[bn]?=_ from QR.o);have QL4:=qj QL.o.drew;have hz4:wr.heap.size<=wr.drew.heap.size:=Nat.le_refl _;clear hq hall AC;go_wp2_with fail;generalize wr.drew=W4 at *;refine TC.o.mono ?_;rintro e W5 ⟨tv5,rfl,T5,b5⟩;obtain⟨trs,o5,htl,htc⟩:=T5;obtain⟨at5,ct5,rfl⟩:=qq.slv o5;have BW5:=qj (B4.o.trans (b5.mono (Nat.le_trans hsz hz4)));have R5:=qj (qp R4.o b5 (qh R4.o));have QL5:=qj (qq.below QL4.o b5);have O5:=qj o5;have HTL:=qj htl;have HTC:=qj htc;have htlm:trs.length<=30:=by rw[htl];have:=len_turnsK g c g.txs.length;unfold Gm.turns;omega
   clear o5 htl htc b5 TC;go_wp2_with fail
   go_loopw [5,23] (fun x y wx=>∃(q:Nat),q<=trs.length/\x=.slice al ls.length cl/\y=.int .i64 q/\(∀t ∈ (g.turns c).take q,¬g.Ends t.dest)/\Below W5.heap.size W5 wx) (fun _ y _=>trs.length - (intOf y).toNat)
   case atStart=>exact⟨0,by omega,rfl,by go_num,by simp,Below.refl _ _⟩
   case round=>
    obtain⟨q,hq5,rfl,rfl,hbt,qb5⟩:=hrel;have hsz5:=qb5.size;have HBT:=qj hbt;have QB5:=qj qb5;clear hbt qb5;by_cases hlt5:q < trs.length
    ·obtain ⟨b',off',r,rfl,hbb',hrx,hc⟩:=(qq.sl (qq.below O5.o QB5.o)).atF TnR.len rfl hlt5
     obtain⟨t,ht⟩:∃t,(g.turns c)[q]?=some t:=⟨_,List.getElem?_eq_getElem (by have:=HTL.o;omega)⟩
     obtain⟨te1,te2,te3,tos⟩:=HTC.o q r t hrx ht;obtain⟨i1,co1,p1,sv1⟩:=r;simp only at te1 te2 te3 tos;subst te1 te2 te3;obtain⟨a1,c1,hsv1⟩:=qq.slv tos;subst hsv1;have d0:wr.cell? ⟨b',off'+q*4,none⟩=some (.int .i64 t.id):=hc 0 (by decide);have d1:wr.cell? ⟨b',off'+q*4+1,none⟩=some (.bool t.com):=hc 1 (by decide);have d2:wr.cell? ⟨b',off'+q*4+2,none⟩=some (.int .i64 (t.dest.1:Nat)):=hc 2 (by decide);have d3:wr.cell? ⟨b',off'+q*4+3,none⟩=some (.slice a1 t.dest.2.length c1):=hc 3 (by decide);have HT:=qj ht;have TOS:=qj tos;have TQ:=qj (show(g.turns c).take (q+1)=(g.turns c).take q++[t] by rw[List.take_add_one,ht];rfl);clear hc hrx ht tos hbb';have b6:Below wr.heap.size wr (wr.alloc (.cells #[.int .i64 t.id,.bool t.com,.int .i64 (t.dest.1:Nat),.slice a1 t.dest.2.length c1] 195)):=(Below.refl _ wr).alloc (Nat.le_refl _) _;have r6:=qy wr (.cells #[.int .i64 t.id,.bool t.com,.int .i64 (t.dest.1:Nat),.slice a1 t.dest.2.length c1] 195);have B6:=qj (QB5.o.trans (b6.mono hsz5));go_wp2_with fail;generalize wr.alloc (.cells #[.int .i64 t.id,.bool t.com,.int .i64 (t.dest.1:Nat),.slice a1 t.dest.2.length c1] 195)=W6 at *;have BW6:=qj (BW5.o.trans (B6.o.mono BW5.o.size));have H6:=qj (H.o.below BW6.o);have htok:NdOk g m t.dest:=turn_ok hok H.o.deedv (List.mem_of_getElem? HT.o);have PC:=qj (H6.o.pair htok (qq.below TOS.o B6.o));have hin:t.dest ∈ ord:=by
      obtain⟨i,hi⟩:=List.mem_iff_getElem?.1 QM.o;obtain⟨j',-,hj2⟩:=HB.o.later hi (List.mem_of_getElem? HT.o);exact List.mem_of_getElem? hj2
     have hMk:=(HLL.o (H6.o.key htok)).1 hin;have R6:=qj r6;refine PC.o.mono ?_;rintro e W7 ⟨rfl,b7⟩;have B7:=qj (B6.o.trans (b7.mono B6.o.size));have BW7:=qj (BW5.o.trans (B7.o.mono BW5.o.size));have QM7:=HMM.o.below BW7.o HMM.o.lt;have hlk:Sem.run Tryz.prog (Instr.lookup 197 (.map (some bl)) (.agg #[.int .i64 (t.dest.1:Nat),.string (keyB t.dest.2)]) false) W7=.ok (.bool (decide (g.Ends t.dest))) W7:=
      (QM7.look (kap m) Tryz.underlying197 (zv:=.bool false) (by kernel_rfl) (H6.o.key htok) hMk).1
     have HIN:=qj hin;have r7:=qp R6.o b7 (qh R6.o);have R7:=qj r7;clear hin hMk PC QM7 r6;by_cases hEt:g.Ends t.dest
     ·rw [decide_eq_true hEt] at hlk
      have z:=qg r7;have z0:=z 0;have z1:=z 1;have z2:=z 2;have z3:=z 3;simp at z0 z1 z2 z3;have zl7:=qh r7;have QL7:=qq.below QL5.o B7.o;have hB7:w.heap.size<=W7.heap.size:=BW7.o.size;have RN7:=qj (qp R5.o B7.o (qh R5.o));have hll:ls.length<=12:=by have:=QK.o;omega
      have hrank:=turn_rank (List.mem_of_getElem? HT.o);clear z r7 b7;go_wp2_with (at_builtin;refine qU rfl _ _ _ rfl _ 16 Tryz.underlying49 infoStep rfl QL7 (t.id,t.com) hB7 (by rfl) (by rfl) (by first|rfl|simp) rfl (step_one _) (by first|omega|(simp only[List.length_append,List.length_cons,List.length_nil,List.length_replicate];omega)) (by first|omega|(simp only[List.length_append,List.length_cons,List.length_nil,List.length_replicate];omega)) ?_;refine xt.halt ?_)
      refine xt.go ?_;intro g8 c8 w8 o8 G8;have rt8:=qQ R7.o G8 (qq.neT QL7 R7.o (by decide));have rn8:=qQ RN7.o G8 (qq.neT QL7 RN7.o (by decide));have B8:=qj (BW7.o.trans (G8.below hB7 fun j hj=>(qq.lt QL7 j hj).1));have TOS8:=qj (qq.grwT (qq.below TOS.o B7.o) QL7 (by decide) G8);have z:=qg rt8;have z2:=z 2;have z3:=z 3;have y:=qg rn8;have y0:=y 0;have y1:=y 1;simp at z2 z3 y0 y1;have zl8:=qh rt8;have yl8:=qh rn8;have yf:=fun j=>qx rn8 j;have rF:=qB (qB rn8 0 (.int .i64 (t.dest.1:Nat))) 1 (.slice a1 t.dest.2.length c1);have oF:=qq.other (j:=1) (qq.other (j:=0) o8 (qq.neT o8 rn8 (by decide)) (.int .i64 (t.dest.1:Nat))) (qq.neT o8 rn8 (by decide)) (.slice a1 t.dest.2.length c1);have tF:=qq.other (j:=1) (qq.other (j:=0) TOS8.o (qq.neT TOS8.o rn8 (by decide)) (.int .i64 (t.dest.1:Nat))) (qq.neT TOS8.o rn8 (by decide)) (.slice a1 t.dest.2.length c1);have bF:=(B8.o.setCell (p:=⟨bn,0,none⟩) qn (.int .i64 (t.dest.1:Nat))).setCell (p:=⟨bn,1,none⟩) qn (.slice a1 t.dest.2.length c1);have zF:((w8.setCell ⟨bn,0,none⟩ (.int .i64 (t.dest.1:Nat))).setCell ⟨bn,1,none⟩ (.slice a1 t.dest.2.length c1)).heap.size=w8.heap.size:=by simp
      have RF:=qj rF;have OF:=qj oF;have TF:=qj tF;have BF:=qj bF;clear z y rt8 rn8 o8 G8 rF oF tF bF QL7;have ZF:=qj zF;clear zF;go_wp2_with fail;refine⟨⟨t.dest,_,ls++[(t.id,t.com)],a1,c1,rfl,qL (by simp),?_,qq.alloc TF.o _,HIN.o,hEt,qq.alloc OF.o _,by rw[hrank,←QK.o];simp,BF.o.alloc BF.o.size _⟩,?_⟩
      ·have:=BF.o.size;simpa using this
      ·have:=QK.o;simp only[lenV];omega
     ·rw [decide_eq_false hEt] at hlk
      go_wp2_with fail;refine⟨⟨q+1,by omega,rfl,by go_num,fun u hu=>?_,B7.o⟩,by simp[intOf];omega⟩;rw[TQ.o] at hu;rcases List.mem_append.1 hu with hu|hu
      ·exact HBT.o u hu
      ·rw [List.mem_singleton] at hu;rw[hu];exact hEt
    ·obtain rfl:q=trs.length:=by omega
     obtain⟨t,ht,hE2⟩:=HQ.o;exfalso;refine HBT.o t ?_ hE2;rw[HTL.o,List.take_length];exact ht
end
section
attribute [local irreducible] xL
def FoundPost (w:World) (ev:Value) (e:Ending) (w':World):Prop:=∃(y:Bool) (a:Option Addr) (n c:Nat) (k:Int) (er:Value),e=.returned (.tuple #[.agg #[.bool y,.slice a n c,.int .i64 k],er])/\(er=.nilIface/\y=true\/er=ev)/\Below w.heap.size w w'
theorem mskOf_lt {lev:Int} {l:List St} {b:St} (h:l.length<=12):mskOf lev l b < 4096:=Nat.lt_of_lt_of_le (maskN_lt _ _) (pow_wrap h).2
def qOf (b13 b14:Nat) (w:World):Nat:=lenV ((w.cell? ⟨b14,0,none⟩).getD .nilIface) - (lenV ((w.cell? ⟨b13,0,none⟩).getD .nilIface) - (intOf ((w.cell? ⟨b13,1,none⟩).getD .nilIface)).toNat)
theorem qOf_eq {m B b12 b13 b14 bS bm most n:Nat} {cv qv ov:Value} {L:List (NdK m)} {rows orows:List NR} {w:World} (h:yX m w B b12 b13 b14 bS bm most cv qv ov L rows orows n):qOf b13 b14 w=orows.length - (rows.length - n):=by
 obtain⟨a,c,rfl⟩:=qq.slv h.own;obtain⟨a',c',rfl⟩:=qq.slv h.que.own;have y:=qg h.ord 0;have z0:=qg h.que.row 0;have z1:=qg h.que.row 1;unfold qOf;rw[y,z0,z1];simp[lenV,intOf]
theorem yO.kdS {w w':World} {r:NR} {n:Nd} (h:yO w r n) (hk:Kd SeT w w'):yO w' r n:=h.kd hk (by unfold SeT;decide)
theorem NdsAt.kdS {w w':World} {rs:List NR} {ns:List Nd} (h:NdsAt w rs ns) (hk:Kd SeT w w'):NdsAt w' rs ns:=⟨h.1,fun k r n hr hn=>(h.2 k r n hr hn).kdS hk⟩
theorem NdsAt.snoc {w:World} {rs:List NR} {ns:List Nd} {r:NR} {n:Nd} (h:NdsAt w rs ns) (hr:yO w r n):NdsAt w (rs++[r]) (ns++[n]):=by
 refine⟨by simp[h.1],fun k r' n' h1 h2=>?_⟩;have hl:=h.1;rcases Nat.lt_trichotomy k ns.length with hk|hk|hk
 ·rw [List.getElem?_append_left (by omega)] at h1 h2
  exact h.2 k r' n' h1 h2
 ·subst hk
  rw[List.getElem?_append_right (by omega)] at h1 h2;simp[hl] at h1 h2;subst h1 h2;exact hr
 ·rw [List.getElem?_eq_none (by simp;omega)] at h2
  cases h2
section
variable {m B b12 b13 b14 bS bm most n:Nat} {cv qv ov:Value} {L:List (NdK m)} {rows orows:List NR} {w w':World}
theorem yX.qty (h:yX m w B b12 b13 b14 bS bm most cv qv ov L rows orows n):∀j,QS b13 qv j->∃cs t,w.heap[j]?=some (.cells cs t (0,0))/\(t=179\/t=181):=by
 rintro j (rfl|hj)
 ·exact ⟨_,_,h.que.row,.inl rfl⟩
 ·obtain ⟨cs,hcs⟩:=qq.keepObj h.que.own j hj;exact⟨cs,_,hcs,.inr rfl⟩
theorem yX.nty (h:yX m w B b12 b13 b14 bS bm most cv qv ov L rows orows n) {j:Nat} {cs:Array Value} {t:TypeId} {fz:Nat×Nat} (hj:w.heap[j]?=some (.cells cs t fz)) (ht:t≠179/\t≠181):¬QS b13 qv j:=fun hS=>by
 obtain⟨cs',t',h1,h2⟩:=h.qty j hS;rw[hj] at h1;simp only[Option.some.injEq,Obj.cells.injEq] at h1;obtain⟨-,rfl,-⟩:=h1;rcases h2 with h2|h2
 ·exact ht.1 h2
 ·exact ht.2 h2
theorem yX.queTurn (h:yX m w B b12 b13 b14 bS bm most cv qv ov L rows orows n) (hB:B<=w.heap.size) {qv':Value} {rows':List NR} {n':Nat} (hq:QueueAt w' B b13 qv' rows' n') (hf:Fr (QS b13 qv) w w') (ho:∀k,qv'.ownBlock=some k->qv.ownBlock=some k):
  yX m w' B b12 b13 b14 bS bm most cv qv' ov L rows' orows n'/\Kd SeT w w'/\Below B w w':=by
 refine⟨⟨hf.row h.var (h.nty h.var (by decide)),h.set.fr hf fun j hj=>?_,hq,hf.row h.ord (h.nty h.ord (by decide)),qq.fr h.own hf fun j hj=>?_,fun k hk=>h.dis k (ho k hk),h.hB⟩,hf.kd fun j cs t fz hS hj=>?_,hf.toBelow hB fun j hj=>?_⟩
 ·rcases hj with rfl|rfl|hj
  ·exact h.nty h.set.row (by decide)
  ·intro hS
   obtain⟨cs',t',h1,-⟩:=h.qty _ hS;obtain⟨M,hM,-⟩:=h.set.map;obtain⟨es,cl,hes⟩:=hM.isMap;rw[hes] at h1;cases h1
  ·obtain ⟨cs,hcs⟩:=qq.keepObj h.set.came j hj
   exact h.nty hcs (by decide)
 ·rintro (rfl|hq')
  ·exact qq.neT h.own h.que.row (by decide) hj
  ·exact h.dis j hq' hj
 ·obtain ⟨cs',t',h1,h2⟩:=h.qty j hS
  rw[hj] at h1;simp only[Option.some.injEq,Obj.cells.injEq] at h1;obtain⟨-,rfl,-⟩:=h1;rcases h2 with h2|h2
  ·exact .inr (.inr (.inl h2))
  ·exact .inr (.inr (.inr (.inl h2)))
 ·rintro (rfl|hq')
  ·have:=h.que.hB;omega
  ·have:=(qq.lt h.que.own j hq').1;omega
end
theorem m_SetLen {m:Nat} {w:World} {B bS bm most:Nat} {cv:Value} {L:List (NdK m)} (h:SetAt m w B bS bm most cv L):
  Calls Tryz.prog 98 #[.pointer (some ⟨bS,0,none⟩)] w fun e w'=>e=.returned (.int .i64 L.length)/\w'=w:=by
 obtain⟨a,c,rfl,-⟩:=(qq.sl h.came).ex;have y:=qg h.row 2;simp at y;have yl:=qh h.row;go_enter Tryz.func98,Tryz.ntmps98;go_wp2;go_ret;exact⟨rfl,rfl⟩
theorem GEnv.put {w:World} {B bG m B2 b12 b13 b14 bS bm most n:Nat} {g:Gm} {σ0:List Int} {tv mv fv:Value} (h:GEnv w B bG m g σ0 tv mv fv) {cv qv ov:Value} {L:List (NdK m)} {rows orows:List NR} (hM:yX m w B2 b12 b13 b14 bS bm most cv qv ov L rows orows n) (hB:B2<=w.heap.size) (hl:L.length<=most) (hm:most<=65536) (hr:rows.length<=65536) (hor:orows.length<=65536)
  {t0:TypeId} {v0:Value} (hev:w.cell? ⟨0,0,none⟩=some (.iface t0 v0)) {d:Nd} (hn:NdOk g m d) {a:Option Addr} {c:Nat} (hs:OwnS w 0 (.slice a d.2.length c) d.2):
  Calls Tryz.prog 91 #[.agg #[.int .i64 (d.1:Nat),.slice a d.2.length c],.pointer (some ⟨b12,0,none⟩),.pointer (some ⟨b13,0,none⟩),.pointer (some ⟨b14,0,none⟩)] w (PutPost m w B2 b12 b13 b14 bS bm most qv ov L rows orows n (h.key hn) ⟨d.1,.slice a d.2.length c⟩ (.iface t0 v0)):=
 s_put hM hB hl hm hr hor (h.key hn) hs h.pow h.wrd hev h.bud.1
theorem key_mem {w:World} {B bG m:Nat} {g:Gm} {σ0:List Int} {tv mv fv:Value} (h:GEnv w B bG m g σ0 tv mv fv) {d:Nd} (hn:NdOk g m d) {L:List (NdK m)}:h.key hn ∈ L↔d ∈ L.map (·.1):=by
 constructor
 ·intro hk;exact List.mem_map.2 ⟨_,hk,rfl⟩
 ·intro hk
  obtain⟨k,hk,e⟩:=List.mem_map.1 hk;have:k=h.key hn:=Subtype.ext e;rw[←this];exact hk
def TrF (w:World) (B:Nat) (v:Value) (rs:List TnR) (ts:List Tn):Prop:=qq TnR.cells 195 4 w B v rs/\rs.length=ts.length/\∀(k:Nat) (r:TnR) (t:Tn),rs[k]?=some r->ts[k]?=some t->TurnIs w r t
theorem TrF.below {w w':World} {B:Nat} {v:Value} {rs:List TnR} {ts:List Tn} (h:TrF w B v rs ts) (hb:Below w.heap.size w w'):TrF w' B v rs ts:=⟨qq.below h.1 hb,h.2.1,fun k r t hr ht=>(h.2.2 k r t hr ht).below hb⟩
theorem TrF.kdS {w w':World} {B:Nat} {v:Value} {rs:List TnR} {ts:List Tn} (h:TrF w B v rs ts) (hk:Kd SeT w w'):TrF w' B v rs ts:=
 ⟨qq.kd h.1 hk (by unfold SeT;decide),h.2.1,fun k r t hr ht=>let x:=h.2.2 k r t hr ht;⟨x.1,x.2.1,x.2.2.1,qq.kd x.2.2.2 hk (by unfold SeT;decide)⟩⟩
def SInv (m:Nat) (W1:World) (b12 most:Nat) (ord:List Nd) (q:Nat) (wr:World):Prop:=∃n cv qv ov L rows orows,yX m wr W1.heap.size b12 (b12+1) (b12+1+1) (W1.heap.size+1) W1.heap.size most cv qv ov L rows orows n/\L.map (·.1)=ord/\NdsAt wr orows ord/\NdsAt wr (rows.drop n) (ord.drop q)/\ord.length<=most/\rows.length<=orows.length/\q<=ord.length/\Below W1.heap.size W1 wr
theorem SInv.qOf {m b12 most q:Nat} {W1 wr:World} {ord:List Nd} (h:SInv m W1 b12 most ord q wr):qOf (b12+1) (b12+1+1) wr=q:=by
 obtain⟨n,cv,qv,ov,L,rows,orows,h1,h2,h3,h4,h5,h6,h7,h8⟩:=h;rw[qOf_eq h1,h3.1];have:=h4.1;simp only[List.length_drop] at this;omega
theorem s_search (lev:Int) (hl:lev=1\/lev=2\/lev=3) (most:Nat) (hmo:1<=most/\most<=65536) (ov vv:Value) (os:List Ob) (es:List Ev) (A:Au) (w:World) (ho:Sl w w.heap.size 2 ov os.length (os.flatMap Ob.cells)) (he:Sl w w.heap.size 8 vv es.length (es.flatMap Ev.cells)) (hne:os≠[]) (hr:RegOk os) (hel:es.length<=400) (hes:∀e ∈ es,EvOk os.length e) (hW:xa w) (hF:Fed es A) (hA:A.length<=12)
  (hP:PowAt w) (hEa:ErrAt 15 w) {t0:TypeId} {v0:Value} (hEb:0 < w.heap.size/\w.cell? ⟨0,0,none⟩=some (.iface t0 v0)) (hdd:∀s ∈ A,∀d ∈ s.deeds,DdR os.length d) (hE:(gmOf lev A).Ends (0,os.map (·.init))):
  Calls Tryz.prog 51 #[.chan none,.agg #[ov,vv],.int .i64 lev,.int .i64 most] w (FoundPost w (.iface t0 v0)):=by
 classical
 obtain⟨ao,co,rfl,mo⟩:=ho.ex;obtain⟨ae,ce,rfl,me⟩:=he.ex;obtain⟨hm1,hm2⟩:=hmo;have q1:decide (lev < 1)=false:=by simp;omega
 have q2:decide (lev > 3)=false:=by simp;omega
 have q2':decide (3 < lev)=false:=by simp;omega
 have q3:decide ((most:Int) < 1)=false:=by simp;omega
 have q4:decide ((most:Int) > 65536)=false:=by simp;omega
 have q4':decide (65536 < (most:Int))=false:=by simp;omega
 have b0:Below w.heap.size w ((w.alloc (.cells #[.slice ao os.length co,.slice ae es.length ce] 37)).alloc (.cells #[.bool false,.slice none 0 0,.int .i64 0] 68)):=((Below.refl _ w).alloc (Nat.le_refl _) _).alloc (by simp) _;have r0:((w.alloc (.cells #[.slice ao os.length co,.slice ae es.length ce] 37)).alloc (.cells #[.bool false,.slice none 0 0,.int .i64 0] 68)).heap[w.heap.size]?=some (.cells #[.slice ao os.length co,.slice ae es.length ce] 37 (0,0)):=qF (qy w _);have r8:((w.alloc (.cells #[.slice ao os.length co,.slice ae es.length ce] 37)).alloc (.cells #[.bool false,.slice none 0 0,.int .i64 0] 68)).heap[w.heap.size+1]?=some (.cells #[.bool false,.slice none 0 0,.int .i64 0] 68 (0,0)):=qL (by simp);have hz0:=qj (show((w.alloc (.cells #[.slice ao os.length co,.slice ae es.length ce] 37)).alloc (.cells #[.bool false,.slice none 0 0,.int .i64 0] 68)).heap.size=w.heap.size+2 by simp);have HL:=qj hl;have HOe:=qj hE;have HDD:=qj hdd;have HP:=qj hP;have HWd:=qj hW;have HEa:=qj hEa;have HEb:=qj hEb;have HRr:=qj hr;have HF:=qj hF;have hol:=hr.1;go_enter Tryz.func51,Tryz.ntmps51;go_wp2_with fail;generalize (w.alloc (.cells #[.slice ao os.length co,.slice ae es.length ce] 37)).alloc (.cells #[.bool false,.slice none 0 0,.int .i64 0] 68)=W at *;have BC:=qj (b_begin lev hl (.slice ao os.length co) (.slice ae es.length ce) os es A W ((ho.below b0).more b0.size) ((he.below b0).more b0.size) hne hr hel hes (hW.below b0) hF hA);have y:=qg r0;have y0:=y 0;have y1:=y 1;simp at y0 y1;have yl:=qh r0;have R8:=qj r8;have B0:=qj b0;clear y r0 r8 b0 ho he hes hW hF hP hEa hEb hdd hE hl hr hne hel;go_wp2_with fail;refine BC.o.mono ?_;rintro e W1 ⟨bG,tv,mv,fv,rfl,G1,b1⟩;have hz1:=b1.size;have B1:=qj (B0.o.trans (b1.mono B0.o.size));have R81:=qj (qp R8.o b1 (qh R8.o));have hfl:(A.filter (cntd lev)).length<=12:=Nat.le_trans (List.length_filter_le _ _) hA;have GE:GEnv W1 W.heap.size bG os.length (gmOf lev A) (os.map (·.init)) tv mv fv:=by
  refine⟨G1,hfl,fun x hx=>?_,by simp[gmOf],fun s hs d hd=>HDD.o s (List.mem_filter.1 hs).1 d hd,hol,HP.o.below B1.o,HWd.o.below B1.o,HEa.o.below B1.o,ErrAt.below ⟨HEb.o.1,t0,v0,HEb.o.2⟩ B1.o⟩;obtain⟨s,-,rfl⟩:=List.mem_map.1 hx;exact mskOf_lt hfl
 have hn0:NdOk (gmOf lev A) os.length (0,os.map (·.init)):=⟨Nat.two_pow_pos _,by simp,fun x hx=>by
  obtain⟨o,ho,rfl⟩:=List.mem_map.1 hx;exact(HRr.o.2 o ho).2⟩
 obtain⟨af,cf,hfv⟩:=qq.slv G1.first
 rw[List.length_map] at hfv;subst hfv;have HGE:=qj GE;have HN0:=qj hn0;have hev1:=qj (qu B1.o HEb.o.1 HEb.o.2);have MC:=qj (m_New os.length most W1 (by omega));clear GE hn0 b1 G1 y0 y1 yl BC R8 B0;generalize hgg:gmOf lev A=g at *;go_wp2_with fail;refine MC.o.mono ?_;rintro e W2 ⟨rfl,S2,b2⟩;have hz2:=b2.size;have b5:Below W2.heap.size W2 (((W2.alloc (.cells #[.pointer (some ⟨W1.heap.size+1,0,none⟩)] 173)).alloc (.cells #[.slice none 0 0,.int .i64 0] 179)).alloc (.cells #[.slice none 0 0] 177)):=(((Below.refl _ W2).alloc (Nat.le_refl _) _).alloc (by simp) _).alloc (by simp;omega) _;have r12:(((W2.alloc (.cells #[.pointer (some ⟨W1.heap.size+1,0,none⟩)] 173)).alloc (.cells #[.slice none 0 0,.int .i64 0] 179)).alloc (.cells #[.slice none 0 0] 177)).heap[W2.heap.size]?=some (.cells #[.pointer (some ⟨W1.heap.size+1,0,none⟩)] 173 (0,0)):=qF (qF (qy W2 _));have r13:(((W2.alloc (.cells #[.pointer (some ⟨W1.heap.size+1,0,none⟩)] 173)).alloc (.cells #[.slice none 0 0,.int .i64 0] 179)).alloc (.cells #[.slice none 0 0] 177)).heap[W2.heap.size+1]?=some (.cells #[.slice none 0 0,.int .i64 0] 179 (0,0)):=qF (qL (by simp));have r14:(((W2.alloc (.cells #[.pointer (some ⟨W1.heap.size+1,0,none⟩)] 173)).alloc (.cells #[.slice none 0 0,.int .i64 0] 179)).alloc (.cells #[.slice none 0 0] 177)).heap[W2.heap.size+1+1]?=some (.cells #[.slice none 0 0] 177 (0,0)):=qL (by simp);have B5:=qj (b2.trans (b5.mono hz2));have hg5:=qp HGE.o.game.row B5.o (qh HGE.o.game.row);have yg:=qg hg5 3;simp only[List.getElem?_toArray,List.getElem?_cons_succ,List.getElem?_cons_zero] at yg;have ygl:=qh hg5;have M5:=qj (show yX os.length (((W2.alloc (.cells #[.pointer (some ⟨W1.heap.size+1,0,none⟩)] 173)).alloc (.cells #[.slice none 0 0,.int .i64 0] 179)).alloc (.cells #[.slice none 0 0] 177)) W1.heap.size W2.heap.size (W2.heap.size+1) (W2.heap.size+1+1) (W1.heap.size+1) W1.heap.size most (.slice none 0 0) (.slice none 0 0) (.slice none 0 0) [] [] [] 0 from
  ⟨r12,S2.below b5,⟨r13,qq.nil _ _,Nat.le_refl _,by omega⟩,r14,qq.nil _ _,(fun k e=>by cases e),⟨hz2,by omega⟩⟩)
 have henter:∀args w,(callFunc 91 args).run Tryz.prog w=.ok (.enter 91 args) w:=enters_of Tryz.func91 (by kernel_rfl) rfl;have GE5:=qj (HGE.o.below B5.o);have PC0:=(s_put M5.o (B5.o.size) (by simp) (by omega) (by simp) (by simp) (HGE.o.key HN0.o) (qq.base GE5.o.game.first (Nat.zero_le _) |> fun h=>by have:=h;rw[show (HGE.o.key HN0.o).1.2.length=os.length by simp[GEnv.key]];exact this) GE5.o.pow GE5.o.wrd (qu B5.o (by have:=B1.o.size;have:=HEb.o.1;omega) hev1.o) (by have:=B1.o.size;have:=HEb.o.1;have:=B5.o.size;omega))
 rw[show (HGE.o.key HN0.o).1.2.length=os.length from by simp[GEnv.key]] at PC0;have PC:=qj PC0;clear r12 r13 r14 S2 b2 b5 hg5 MC PC0;go_wp2_with fail;refine PC.o.mono ?_;rintro e W6 (⟨hk,-⟩|⟨-,hfull,-⟩|⟨-,-,rfl,⟨cv6,qv6,ov6,M6⟩,kd6,bel6⟩)
 ·cases hk
 ·simp at hfull;omega
 have M6:=qj M6;have B6:=qj (show Below W1.heap.size W1 W6 from B5.o.trans bel6);have R86:=qj (qp R81.o B6.o (qh R81.o));have GE6:=qj (HGE.o.below B6.o);have hN6:yO W6 ⟨0,.slice af os.length cf⟩ (0,os.map (·.init)):=⟨rfl,by have:=qq.base GE6.o.game.first (Nat.zero_le _);exact this⟩
 have HN6:=qj hN6;clear PC kd6 bel6 M5 yg ygl GE5 hN6 hz2 B5;generalize hb12:W2.heap.size=b12 at *;go_wp2_with fail
 go_loopw [] (fun wr=>∃(ord:List Nd) (q:Nat),SInv os.length W1 b12 most ord q wr/\Bfs g os.length (0,os.map (·.init)) ord q) (fun wr=>most+1 - qOf (b12+1) (b12+1+1) wr)
 case atStart=>
  refine⟨[(0,os.map (·.init))],0,⟨0,cv6,qv6,ov6,_,_,_,M6.o,rfl,?_,?_,by simp;omega,by simp,by simp,B6.o⟩,Bfs.start HN0.o⟩
  ·exact NdsAt.snoc (rs:=[]) (ns:=[]) ⟨rfl,fun k r n h=>by simp at h⟩ HN6.o
  ·exact NdsAt.snoc (rs:=[]) (ns:=[]) ⟨rfl,fun k r n h=>by simp at h⟩ HN6.o
 case round=>
  obtain⟨ord,q,hI,hBf⟩:=hrel;obtain⟨n,cv,qv,ov,L,rows,orows,h1,h2,h3,h4,h5,h6,h7,h8⟩:=hI;have hqo:qOf (b12+1) (b12+1+1) wr=q:=SInv.qOf ⟨n,cv,qv,ov,L,rows,orows,h1,h2,h3,h4,h5,h6,h7,h8⟩;have hsz:=h8.size;have hol2:orows.length<=65536:=by have:=h3.1;omega
  have hrl2:rows.length<=70000:=by omega
  have M1:=qj h1;have HL2:=qj h2;have N3:=qj h3;have N4:=qj h4;have BF:=qj hBf;have B8:=qj h8;have HQO:=qj hqo;have h41:=h4.1;have hle:=h1.que.le;clear h1 h2 h3 h4 hBf h8 hqo M6 B6 R86 GE6 HN6;simp only[List.length_drop] at h41;by_cases hlt:q < ord.length
  ·have hnr:n < rows.length:=by omega
   obtain⟨r,hr⟩:∃r,rows[n]?=some r:=⟨_,List.getElem?_eq_getElem hnr⟩
   obtain⟨c,hc⟩:∃c,ord[q]?=some c:=⟨_,List.getElem?_eq_getElem hlt⟩
   have hni:=N4.o.2 0 r c (by rw[List.getElem?_drop];exact hr) (by rw[List.getElem?_drop];exact hc);obtain⟨a1,c1,hsv⟩:=hni.slv;have TC:=qj (m_Take M1.o.que hsz hrl2 hr hsv);obtain⟨hp1,hos⟩:=hni;obtain⟨rp,rv⟩:=r;simp only at hp1 hsv hos;subst hp1 hsv;have HOS:=qj hos;have HC:=qj hc;have hok:NdOk g os.length c:=BF.o.ok c (List.mem_of_getElem? hc);clear hr hc hos;go_wp2_with fail;refine TC.o.mono ?_;rintro e W7 ⟨rfl,qv',rows',n',Q7,hdrop,hlen,F7,own7⟩;obtain⟨M7,kd7,bel7⟩:=M1.o.queTurn hsz Q7 F7 own7;have b8:Below W7.heap.size W7 (W7.alloc (.cells #[.int .i64 (c.1:Nat),.slice a1 c.2.length c1] 181)):=(Below.refl _ W7).alloc (Nat.le_refl _) _;have r8:=qy W7 (.cells #[.int .i64 (c.1:Nat),.slice a1 c.2.length c1] 181);have B78:=qj ((B8.o.trans bel7).trans (b8.mono (Nat.le_trans hsz bel7.size)));have M8:=qj (M7.below b8);have OS8:=qj (qq.below (qq.kd HOS.o kd7 (by unfold SeT;decide)) b8);have N38:=qj ((N3.o.kdS kd7).below b8);have hd1:ord.drop (q+1)=(ord.drop q).drop 1:=by rw[List.drop_drop]
   have N48:Hid (NdsAt (W7.alloc (.cells #[.int .i64 (c.1:Nat),.slice a1 c.2.length c1] 181)) (rows'.drop n') (ord.drop (q+1))):=qj (by
    have h:=(N4.o.kdS kd7).below b8;rw[hdrop];refine⟨by have:=h.1;simp only[List.length_drop] at this ⊢;omega,fun k r d h1 h2=>h.2 (k+1) r d ?_ ?_⟩
    ·rw [List.getElem?_drop] at h1 ⊢;rw[←h1];congr 1;omega
    ·rw [List.getElem?_drop] at h2 ⊢;rw[←h2];congr 1;omega)
   have hlen':rows'.length<=orows.length:=Nat.le_trans hlen h6;have z:=qg r8;have z0:=z 0;have z1:=z 1;have zl:=qh r8;clear z r8 M7 kd7 bel7 F7 own7 Q7 TC hd1 hdrop b8;go_wp2_with fail;generalize W7.alloc (.cells #[.int .i64 (c.1:Nat),.slice a1 c.2.length c1] 181)=W8 at *;refine(n_asked W8).mono ?_;rintro e W8' ⟨rfl,rfl⟩;simp at z0 z1;have G8:=qj (HGE.o.below B78.o);have UC:=qj (G8.o.turns hok OS8.o);go_wp2_with fail;refine UC.o.mono ?_;rintro e W9 ⟨tv5,rfl,T5,b9⟩;obtain⟨trs,o5,htl,htc⟩:=T5;obtain⟨at5,ct5,rfl⟩:=qq.slv o5;have T9:Hid (TrF W9 W8'.heap.size (.slice at5 trs.length ct5) trs (g.turns c)):=qj ⟨o5,htl,htc⟩;have htlm:trs.length<=30:=by rw[htl];have:=len_turnsK g c g.txs.length;have:=HGE.o.few;unfold Gm.turns;omega
   have B9:=qj (B78.o.trans (b9.mono B78.o.size));have M9:=qj (M8.o.below b9);have N39:=qj (N38.o.below b9);have N49:=qj (N48.o.below b9);have HTL:=qj htl;clear o5 htl htc b9 UC z0 z1 zl;go_wp2_with fail
   go_loopw [78] (fun y wx=>∃(k:Nat) (ord':List Nd),k<=trs.length/\y=.int .i64 k/\SInv os.length W1 b12 most ord' (q+1) wx/\Bmd g os.length (0,os.map (·.init)) ord' q k c/\TrF wx W8'.heap.size (.slice at5 trs.length ct5) trs (g.turns c)) (fun y _=>trs.length - (intOf y).toNat)
   case atStart=>exact⟨0,ord,by omega,by go_num,⟨n',cv,qv',ov,L,rows',orows,M9.o,HL2.o,N39.o,N49.o,h5,hlen',by omega,B9.o⟩,BF.o.take HC.o,T9.o⟩
   case round=>
    obtain⟨k,ord',hk3,rfl,⟨n2,cv2,qv2,ov2,L2,rows2,orows2,i1,i2,i3,i4,i5,i6,i7,i8⟩,hBm,hT⟩:=hrel;clear M9 N39 N49 B9 T9;have hsz9:=i8.size;have hor2:orows2.length<=65536:=by have:=i3.1;omega
    have hL2l:L2.length<=most:=by
     have:L2.length=ord'.length:=by rw[←i2];simp
     omega
    have J1:=qj i1;have J2:=qj i2;have J3:=qj i3;have J4:=qj i4;have J8:=qj i8;have BM:=qj hBm;have TT:=qj hT;clear i1 i2 i3 i4 i8 hBm hT;by_cases hlt3:k < trs.length
    ·obtain ⟨b',off',r,rfl,hbb',hrx,hc⟩:=(qq.sl TT.o.1).atF TnR.len rfl hlt3
     obtain⟨t,ht⟩:∃t,(g.turns c)[k]?=some t:=⟨_,List.getElem?_eq_getElem (by have:=HTL.o;omega)⟩
     obtain⟨te1,te2,te3,tos⟩:=TT.o.2.2 k r t hrx ht;obtain⟨ti,tc,tp,tv1⟩:=r;simp only at te1 te2 te3 tos;subst te1 te2 te3;obtain⟨a2,c2,hsv2⟩:=qq.slv tos;subst hsv2;have d0:wr.cell? ⟨b',off'+k*4,none⟩=some (.int .i64 t.id):=hc 0 (by decide);have d1:wr.cell? ⟨b',off'+k*4+1,none⟩=some (.bool t.com):=hc 1 (by decide);have d2:wr.cell? ⟨b',off'+k*4+2,none⟩=some (.int .i64 (t.dest.1:Nat)):=hc 2 (by decide);have d3:wr.cell? ⟨b',off'+k*4+3,none⟩=some (.slice a2 t.dest.2.length c2):=hc 3 (by decide);have HT:=qj ht;have TOS:=qj tos;clear hc hrx ht tos hbb';have b6:Below wr.heap.size wr (wr.alloc (.cells #[.int .i64 t.id,.bool t.com,.int .i64 (t.dest.1:Nat),.slice a2 t.dest.2.length c2] 195)):=(Below.refl _ wr).alloc (Nat.le_refl _) _;have B10:=qj (J8.o.trans (b6.mono hsz9));have M10:=qj (J1.o.below b6);have N10:=qj (J3.o.below b6);have O10:=qj (J4.o.below b6);have T10:=qj (TT.o.below b6);have S10:=qj (qq.below TOS.o b6);have G10:=qj (HGE.o.below B10.o);have htok:NdOk g os.length t.dest:=turn_ok hok HGE.o.deedv (List.mem_of_getElem? HT.o);have hev10:(wr.alloc (.cells #[.int .i64 t.id,.bool t.com,.int .i64 (t.dest.1:Nat),.slice a2 t.dest.2.length c2] 195)).cell? ⟨0,0,none⟩=some (.iface t0 v0):=qu B10.o (by have:=B1.o.size;have:=HEb.o.1;omega) hev1.o;have PC:=qj (G10.o.put M10.o (by have:=B10.o.size;exact this) hL2l hm2 (by omega) hor2 hev10 htok S10.o);have HEV:=qj hev10;clear hev10 b6;go_wp2_with fail;generalize wr.alloc (.cells #[.int .i64 t.id,.bool t.com,.int .i64 (t.dest.1:Nat),.slice a2 t.dest.2.length c2] 195)=W10 at *;refine PC.o.mono ?_;rintro e W11 (⟨hkin,rfl,b11⟩|⟨-,-,rfl,b11⟩|⟨hkin,hlm,rfl,⟨cv3,qv3,ov3,M11⟩,kd11,bel11⟩)
     ·have hin:t.dest ∈ ord':=by have:=(key_mem G10.o htok).1 hkin;rw[J2.o] at this;exact this
      have F1:=qj (show SInv os.length W1 b12 most ord' (q+1) W11 from⟨n2,cv2,qv2,ov2,L2,rows2,orows2,M10.o.below b11,J2.o,N10.o.below b11,O10.o.below b11,i5,i6,i7,B10.o.trans (b11.mono B10.o.size)⟩);have F2:=qj (BM.o.old HT.o hin);have F3:=qj (T10.o.below b11);clear PC;go_wp2_with fail;exact⟨⟨k+1,ord',by omega,by go_num,F1.o,F2.o,F3.o⟩,by simp[intOf];omega⟩
     ·have B11:=qj (B10.o.trans (b11.mono B10.o.size))
      have R11:=qj (qp R81.o B11.o (qh R81.o));have y:=qg R11.o;have u0:=y 0;have u1:=y 1;have u2:=y 2;simp at u0 u1 u2;have uf:=fun j=>qx R11.o j;have ul:=qh R11.o;have rT:=qB (qB (qB R11.o 0 (.bool false)) 1 (.slice none 0 0)) 2 (.int .i64 0);have cc:=qg rT;have cc0:=cc 0;have cc1:=cc 1;have cc2:=cc 2;simp at cc0 cc1 cc2;have hB1:=B1.o.size;clear y cc rT PC;go_wp2_with fail;refine bodyPost_ret (v:=.tuple #[.agg #[.bool false,.slice none 0 0,.int .i64 0],.iface t0 v0]) ?hres rfl ?_
      case hres=>simp[results,Tryz.results51,go_sem,cc0,cc1,cc2]
      exact⟨false,none,0,0,0,_,rfl,.inr rfl,(((B1.o.trans (B11.o.mono hB1)).setCell (p:=⟨w.heap.size+1,0,none⟩) (Nat.le_succ _) _).setCell (p:=⟨w.heap.size+1,1,none⟩) (Nat.le_succ _) _).setCell (p:=⟨w.heap.size+1,2,none⟩) (Nat.le_succ _) _⟩
     ·have hnin:t.dest ∉ ord':=fun hx=>hkin ((key_mem G10.o htok).2 (by rw[J2.o];exact hx))
      have hni11:yO W11 ⟨t.dest.1,.slice a2 t.dest.2.length c2⟩ t.dest:=yO.kdS ⟨rfl,S10.o⟩ kd11;have hL2e:L2.length=ord'.length:=by rw[←J2.o];simp
      have hle2:=J1.o.que.le;have F1:=qj (show SInv os.length W1 b12 most (ord'++[t.dest]) (q+1) W11 from⟨n2,cv3,qv3,ov3,L2++[_],rows2++[_],orows2++[_],M11,by rw[List.map_append,J2.o];rfl,(N10.o.kdS kd11).snoc hni11,
       by rw[List.drop_append_of_le_length hle2,List.drop_append_of_le_length i7];exact(O10.o.kdS kd11).snoc hni11,by simp;omega,by simp;omega,by simp;omega,B10.o.trans bel11⟩)
      have F2:=qj (BM.o.put HGE.o.deedv HT.o hnin);have F3:=qj (T10.o.kdS kd11);clear PC M11 kd11 bel11;go_wp2_with fail;exact⟨⟨k+1,_,by omega,by go_num,F1.o,F2.o,F3.o⟩,by simp[intOf];omega⟩
    ·obtain rfl:k=trs.length:=by omega
     have hq3:decide ((trs.length:Int) < (trs.length:Int))=false:=by simp
     have SI:=qj (show SInv os.length W1 b12 most ord' (q+1) wr from⟨n2,cv2,qv2,ov2,L2,rows2,orows2,J1.o,J2.o,J3.o,J4.o,i5,i6,i7,J8.o⟩);have BD:=qj (BM.o.done (by have:=HTL.o;omega));go_wp2_with fail;refine⟨⟨ord',q+1,SI.o,BD.o⟩,?_⟩;rw[SI.o.qOf,HQO.o];omega
  ·have hn:n=rows.length:=by omega
   have TC:=qj (m_TakeNone M1.o.que hn hrl2);go_wp2_with fail;refine TC.o.mono ?_;rintro e W7 ⟨rfl,b7⟩;have b8':Below wr.heap.size wr (W7.alloc (.cells #[.int .i64 0,.slice none 0 0] 181)):=b7.alloc b7.size _;have M8:=qj (M1.o.below b8');have B9:=qj (B8.o.trans (b8'.mono hsz));have N9:=qj (N3.o.below b8');have x0:=qg M8.o.var 0;simp at x0;have xl:=qh M8.o.var;have LC:=qj (m_SetLen M8.o.set);clear b7 b8' TC;go_wp2_with fail;generalize W7.alloc (.cells #[.int .i64 0,.slice none 0 0] 181)=W8 at *;refine LC.o.mono ?_;rintro e W8' ⟨rfl,rfl⟩;have b9:Below W8'.heap.size W8' (W8'.alloc (.cells #[.bool false,.slice none 0 0,.int .i64 L.length] 68)):=(Below.refl _ W8').alloc (Nat.le_refl _) _;have r22:=qj (qy W8' (.cells #[.bool false,.slice none 0 0,.int .i64 L.length] 68));have M10:=qj (M8.o.below b9);have B10:=qj (B9.o.trans (b9.mono B9.o.size));have N10:=qj (N9.o.below b9);have G10:=qj (HGE.o.below B10.o);have R10:=qj (qp R81.o B10.o (qh R81.o));have x1:=qg M10.o.ord 0;simp at x1;have xl1:=qh M10.o.ord;have hfull:Bfs g os.length (0,os.map (·.init)) ord ord.length:=by
    have:q=ord.length:=by omega
    rw[←this];exact BF.o
   obtain⟨aov,cov,hov⟩:=qq.slv M10.o.own;subst hov;have EC:=qj (g_leads G10.o (qq.sl M10.o.own) N10.o hfull hol2);clear b9 LC x0 xl;go_wp2_with fail;generalize W8'.alloc (.cells #[.bool false,.slice none 0 0,.int .i64 L.length] 68)=W10 at *;have HZ22:=qj (show W1.heap.size<=W8'.heap.size from B9.o.size);generalize W8'.heap.size=b22 at *;refine EC.o.mono ?_;rintro e W11 ⟨bl,M,rfl,RM,LD,b11⟩;have B11:=qj (B10.o.trans (b11.mono B10.o.size));have G11:=qj (HGE.o.below B11.o);have R11:=qj (qp R10.o b11 (qh R10.o));have r22':=qj (qp r22.o b11 (qh r22.o));have hs11:OwnS W11 0 (.slice af os.length cf) (os.map (·.init)):=qq.base G11.o.game.first (Nat.zero_le _)
   have PC:Calls Tryz.prog 93 #[.agg #[.int .i64 0,.slice af os.length cf]] W11 fun e w'=>e=.returned (.agg #[.int .i64 0,.string (keyB (os.map (·.init)))])/\Below W11.heap.size W11 w':=G11.o.pair HN0.o hs11;have PC:=qj PC;have yg:=qg G11.o.game.row 3;simp only[List.getElem?_toArray,List.getElem?_cons_succ,List.getElem?_cons_zero] at yg;have ygl:=qh G11.o.game.row;have hMk:=(LD (HGE.o.key HN0.o)).1 (List.mem_of_getElem? hfull.hd);have hEE:g.Ends (0,os.map (·.init)):=HOe.o;have HRM:=qj RM;have HLD:=qj LD;have HFU:=qj hfull;clear EC hs11 RM LD b11 hfull x1 xl1;go_wp2_with fail;refine PC.o.mono ?_;rintro e W12 ⟨rfl,b12'⟩;have B12:=qj (B11.o.trans (b12'.mono B11.o.size));have G12:=qj (HGE.o.below B12.o);have R12:=qj (qp R11.o b12' (qh R11.o));have RM12:=HRM.o.below b12' HRM.o.lt;have r22b:=qj (qp r22'.o b12' (qh r22'.o));have hlk:Sem.run Tryz.prog (Instr.lookup 197 (.map (some bl)) (.agg #[.int .i64 0,.string (keyB (os.map (·.init)))]) false) W12=.ok (.bool true) W12:=by
    have:=(RM12.look (kap os.length) Tryz.underlying197 (zv:=.bool false) (by kernel_rfl) (HGE.o.key HN0.o) hMk).1;simp only[Option.getD_some] at this;rw[show decide (g.Ends (HGE.o.key HN0.o).1)=true from decide_eq_true hEE] at this;exact this
   have LC:=qj (g_least G12.o RM12 HLD.o HFU.o hEE);clear PC b12' yg ygl hMk RM12;go_wp2_with fail;refine LC.o.mono ?_;rintro e W13 ⟨⟨a13,n13,c13,rfl⟩,b13⟩;have r22c:=qp r22b.o b13 (qh r22b.o);have R13:=qj (qp R12.o b13 (qh R12.o));have B13:=qj (B12.o.trans (b13.mono B12.o.size));have z:=qg r22c;have z0:=z 0;have z1:=z 1;have z2:=z 2;simp at z0 z1 z2;have zl:=qh r22c;have zf:=fun j=>qx r22c j;have ne8:b22≠w.heap.size+1:=by have:=B9.o.size;have:=hz0.o;have:=HZ22.o;omega
   have rF:=qB (qB r22c 0 (.bool true)) 1 (.slice a13 n13 c13);have r8F:=qK (j:=1) (v:=.slice a13 n13 c13) (qK (j:=0) (v:=.bool true) R13.o ne8) ne8;have RF:=qj rF;have R8F:=qj r8F;have y:=qg R13.o;have u0:=y 0;have u1:=y 1;have u2:=y 2;simp at u0 u1 u2;have uf:=fun j=>qx R13.o j;have ul:=qh R13.o;clear z y b13 LC;go_wp2_with fail;have rT:=qB (qB (qB R8F.o 0 (.bool true)) 1 (.slice a13 n13 c13)) 2 (.int .i64 L.length);have c:=qg rT;have c0:=c 0;have c1:=c 1;have c2:=c 2;simp at c0 c1 c2;have hB1:=B1.o.size;have hb22:w.heap.size<=b22:=by have:=HZ22.o;omega
   refine bodyPost_ret (v:=.tuple #[.agg #[.bool true,.slice a13 n13 c13,.int .i64 L.length],.nilIface]) ?hres rfl ?_
   case hres=>simp[results,Tryz.results51,go_sem,c0,c1,c2]
   exact⟨true,a13,n13,c13,_,_,rfl,.inl ⟨rfl,rfl⟩,(((((B1.o.trans (B13.o.mono hB1)).setCell (p:=⟨b22,0,none⟩) hb22 _).setCell (p:=⟨b22,1,none⟩) hb22 _).setCell (p:=⟨w.heap.size+1,0,none⟩) (Nat.le_succ _) _).setCell (p:=⟨w.heap.size+1,1,none⟩) (Nat.le_succ _) _).setCell (p:=⟨w.heap.size+1,2,none⟩) (Nat.le_succ _) _⟩
end
section
attribute [local irreducible] xL
theorem s_Run (lev:Int) (hl:lev=1\/lev=2\/lev=3) (most:Nat) (hmo:1<=most/\most<=65536) (ov vv:Value) (os:List Ob) (es:List Ev) (A:Au) (w:World) (ho:Sl w w.heap.size 2 ov os.length (os.flatMap Ob.cells)) (he:Sl w w.heap.size 8 vv es.length (es.flatMap Ev.cells)) (hne:os≠[]) (hr:RegOk os) (hel:es.length<=400) (hes:∀e ∈ es,EvOk os.length e) (hW:xa w) (hF:Fed es A) (hA:A.length<=12)
  (hP:PowAt w) (hEa:ErrAt 15 w) {t0:TypeId} {v0:Value} (hEb:0 < w.heap.size/\w.cell? ⟨0,0,none⟩=some (.iface t0 v0)) (hdd:∀s ∈ A,∀d ∈ s.deeds,DdR os.length d) (hE:(gmOf lev A).Ends (0,os.map (·.init))):
  Calls Tryz.prog 24 #[.agg #[ov,vv],.int .i64 lev,.int .i64 most] w (FoundPost w (.iface t0 v0)):=by
 obtain⟨ao,co,rfl,mo⟩:=ho.ex;obtain⟨ae,ce,rfl,me⟩:=he.ex;have b0:Below w.heap.size w ((w.alloc (.cells #[.slice ao os.length co,.slice ae es.length ce] 37)).alloc (.cells #[.bool false,.slice none 0 0,.int .i64 0] 68)):=((Below.refl _ w).alloc (Nat.le_refl _) _).alloc (by simp) _;have r0:((w.alloc (.cells #[.slice ao os.length co,.slice ae es.length ce] 37)).alloc (.cells #[.bool false,.slice none 0 0,.int .i64 0] 68)).heap[w.heap.size]?=some (.cells #[.slice ao os.length co,.slice ae es.length ce] 37 (0,0)):=qF (qy w _);have r8:((w.alloc (.cells #[.slice ao os.length co,.slice ae es.length ce] 37)).alloc (.cells #[.bool false,.slice none 0 0,.int .i64 0] 68)).heap[w.heap.size+1]?=some (.cells #[.bool false,.slice none 0 0,.int .i64 0] 68 (0,0)):=qL (by simp);go_enter Tryz.func24,Tryz.ntmps24;go_wp2_with fail;generalize (w.alloc (.cells #[.slice ao os.length co,.slice ae es.length ce] 37)).alloc (.cells #[.bool false,.slice none 0 0,.int .i64 0] 68)=W at *;have SC:=qj (s_search lev hl most hmo (.slice ao os.length co) (.slice ae es.length ce) os es A W ((ho.below b0).more b0.size) ((he.below b0).more b0.size) hne hr hel hes (hW.below b0) hF hA (hP.below b0) (hEa.below b0) ⟨by have:=b0.size;have:=hEb.1;omega,qu b0 hEb.1 hEb.2⟩ hdd hE);have y:=qg r0;have y0:=y 0;have y1:=y 1;simp at y0 y1;have yl:=qh r0;have R8:=qj r8;have B0:=qj b0;clear y r0 r8 b0 ho he hne hr hel hes hW hF hA hP hEa hEb hdd hE hl;go_wp2_with fail;refine SC.o.mono ?_;rintro e W1 ⟨yb,a,n,c,k,er,rfl,hres,b1⟩;have r8:=qp R8.o b1 (qh R8.o);have y:=qg r8;have u0:=y 0;have u1:=y 1;have u2:=y 2;simp at u0 u1 u2;have uf:=fun j=>qx r8 j;have ul:=qh r8;have rT:=qB (qB (qB r8 0 (.bool yb)) 1 (.slice a n c)) 2 (.int .i64 k);have cc:=qg rT;have cc0:=cc 0;have cc1:=cc 1;have cc2:=cc 2;simp at cc0 cc1 cc2;have BB:=qj (B0.o.trans (b1.mono B0.o.size));clear y cc rT r8 SC b1;go_wp2_with fail;refine bodyPost_ret (v:=.tuple #[.agg #[.bool yb,.slice a n c,.int .i64 k],er]) ?hres rfl ?_
 case hres=>simp[results,Tryz.results24,go_sem,cc0,cc1,cc2]
 exact⟨yb,a,n,c,k,er,rfl,hres,((BB.o.setCell (p:=⟨w.heap.size+1,0,none⟩) (Nat.le_succ _) _).setCell (p:=⟨w.heap.size+1,1,none⟩) (Nat.le_succ _) _).setCell (p:=⟨w.heap.size+1,2,none⟩) (Nat.le_succ _) _⟩
end
section
attribute [local irreducible] xL
def HistAt (w:World) (p B:Nat) (os:List Ob) (es:List Ev):Prop:=∃ov vv,w.heap[p]?=some (.cells #[ov,vv] 37 (0,0))/\qq Ob.cells 96 2 w B ov os/\qq Ev.cells 53 8 w B vv es
theorem c_Prefixes (ov vv:Value) (os:List Ob) (es:List Ev) (w:World) (ho:Sl w w.heap.size 2 ov os.length (os.flatMap Ob.cells)) (he:Sl w w.heap.size 8 vv es.length (es.flatMap Ev.cells)) (hol:os.length<=100000) (hel:es.length<=100000):
  Calls Tryz.prog 143 #[.agg #[ov,vv]] w fun e w'=>e=.returned (.func (.func 189) #[] #[.pointer (some ⟨w.heap.size,0,none⟩)])/\HistAt w' w.heap.size w.heap.size os es/\Below w.heap.size w w':=by
 obtain⟨ao,co,rfl,mo⟩:=ho.ex;obtain⟨ae,ce,rfl,me⟩:=he.ex;have b0:Below w.heap.size w (w.alloc (.cells #[.slice ao os.length co,.slice ae es.length ce] 37)):=(Below.refl _ w).alloc (Nat.le_refl _) _;have r0:=qy w (.cells #[.slice ao os.length co,.slice ae es.length ce] 37);have CL:=qj (h_Clone (.slice ao os.length co) (.slice ae es.length ce) os es _ ((ho.below b0).more b0.size) ((he.below b0).more b0.size) hol hel);have B0:=qj b0;have R0:=qj r0;clear ho he b0 r0;go_enter Tryz.func143,Tryz.ntmps143;go_wp2_with fail;generalize w.alloc (.cells #[.slice ao os.length co,.slice ae es.length ce] 37)=W at *;refine CL.o.mono ?_;rintro e W1 ⟨ov',vv',rfl,o1,v1,b1⟩;have r1:=qp R0.o b1 (qh R0.o);have l1:=qh r1;have yf:=qx r1;have yf0:=yf 0;have yf1:=yf 1;have y:=qg r1;have y0:=y 0;have y1:=y 1;simp at y0 y1;obtain⟨a1,c1,rfl⟩:=qq.slv o1;obtain⟨a2,c2,rfl⟩:=qq.slv v1;have R2:=qj (qB (qB r1 0 (.slice a1 os.length c1)) 1 (.slice a2 es.length c2));have B2:=qj (((B0.o.trans (b1.mono B0.o.size)).setCell (p:=⟨w.heap.size,0,none⟩) (Nat.le_refl _) (.slice a1 os.length c1)).setCell (p:=⟨w.heap.size,1,none⟩) (Nat.le_refl _) (.slice a2 es.length c2));have O2:=qj (qq.other (j:=1) (qq.other (j:=0) o1 (qq.neT o1 r1 (by decide)) (.slice a1 os.length c1)) (qq.neT o1 r1 (by decide)) (.slice a2 es.length c2));have V2:=qj (qq.other (j:=1) (qq.other (j:=0) v1 (qq.neT v1 r1 (by decide)) (.slice a1 os.length c1)) (qq.neT v1 r1 (by decide)) (.slice a2 es.length c2));have hz:=B0.o.size;clear r1 o1 v1 b1 y yf;go_wp2;go_ret;refine⟨rfl,⟨_,_,by simpa using R2.o,O2.o.base (by omega),V2.o.base (by omega)⟩,B2.o⟩
def HandX (os:List Ob) (es:List Ev) (_:Nat->Prop) (i:Nat) (w:World) (hb:Nat) (args:Array Value):Prop:=∃ov vv,args=#[.int .i64 i,.agg #[ov,vv]]/\qq Ob.cells 96 2 w hb ov os/\qq Ev.cells 53 8 w hb vv (es.take i)
def MStep (O:Obj):Prop:=∃cs fz,O=.cells cs 49 fz
section
variable {M:Obj->Prop} {n lo hb:Nat} {E:Nat->Prop} {w A B w':World}
theorem xM.moreM (h:xM M (Lb n E) n n w A) (k:xM M (Lb n E) lo hb A B) (hn:n<=hb):xM M (Lb n E) n n w B:=
 ⟨h.base.trans k.base,fun j O h1 h2 h3 h4=>k.block j O (.inl (h1.resolve_right (by omega))) (by omega) (h.block j O h1 h2 h3 h4) h4⟩
theorem xM.rowM {p:Nat} {O:Obj} (hk:xM M (Lb n E) n n w w') (hn:n=w.heap.size) (h:w.heap[p]?=some O) (hp:¬E p) (hM:¬M O):w'.heap[p]?=some O:=
 hk.block p O (.inl ⟨hn▸(Array.getElem?_eq_some_iff.1 h).1,hp⟩) (hn▸(Array.getElem?_eq_some_iff.1 h).1) h hM
theorem qq.keepE {α:Type} {f:α->List Value} {e:TypeId} {sz B:Nat} {v:Value} {l:List α} (h:qq f e sz w B v l) (hk:xM M (Lb n E) n n w w') (hn:n=w.heap.size) (hE:∀k,E k->k < B) (hM:∀cs fz,¬M (.cells cs e fz)):qq f e sz w' B v l:=by
 subst hn;obtain⟨h1,h2⟩:=h;refine⟨h1,?_⟩;rcases h2 with h2|⟨g,cap,cur,rfl,hg,hh,r⟩
 ·exact .inl h2
 ·have hl:=(Array.getElem?_eq_some_iff.1 hh).1
  exact .inr ⟨g,cap,cur,rfl,hg,hk.block g _ (.inl ⟨hl,fun e=>by have:=hE g e;omega⟩) hl hh (hM _ _),r⟩
end
theorem mStep_not {cs:Array Value} {t:TypeId} {fz:Nat×Nat} (h:t≠49):¬MStep (.cells cs t fz):=fun⟨_,_,e⟩=>h (by cases e;rfl)
theorem c_iter (m:Nat) (w0:World) (E:Nat->Prop) (pH B:Nat) (os:List Ob) (es:List Ev) (hol:os.length<=100000) (hel:es.length<=100000) (hH:HistAt w0 pH B os es) (hB:B<=pH) (hE:∀k,E k->k < B):
  IterC Tryz.prog MStep (Lb w0.heap.size E) (fun q=>q=fun _=>False) (fun _=>True) 189 #[.pointer (some ⟨pH,0,none⟩)] m (fun W=>Below w0.heap.size w0 W) (fun _=>True) (HandX os es) (es.length+1):=by
 intro l J Jx W hP _ hJ _ hY h0;obtain⟨ov,vv,hr,ho,hv⟩:=hH;obtain⟨a1,c1,rfl⟩:=qq.slv ho;obtain⟨a2,c2,rfl⟩:=qq.slv hv;have nE:¬E pH:=fun h=>by have:=hE pH h;omega
 have F0:xM MStep (Lb w0.heap.size E) w0.heap.size w0.heap.size w0 W:=xM.below hP (Nat.le_refl _);have hcap:=qq.cap hv;have hm:m+1 - 1=m:=rfl;refine callsIn_of_wp Tryz.func189 rfl trivial ?_ rfl;simp only[Tryz.ntmps189,List.size_toArray,List.length_cons,List.length_nil,Nat.reduceAdd,Nat.reduceSub,Array.replicate_succ,Array.replicate_zero,List.push_toArray,List.append_toArray,List.nil_append,List.cons_append];have HY:=qj hY;have HJ:=qj hJ;have HF:=qj F0;have HJ0:=qj (h0 (fun _=>False) rfl fun k e=>by cases e);have HR:=qj hr;have HO:=qj ho;have HV:=qj hv;clear hY hJ h0 F0 hr ho hv hP;gi_wp2_with fail
 gi_loopw [3] (fun p wr=>∃(i:Nat),i<=es.length+1/\p=.int .i64 i/\J (fun _=>False) i wr/\xM MStep (Lb w0.heap.size E) w0.heap.size w0.heap.size w0 wr/\W.heap.size<=wr.heap.size)
  (fun p _=>es.length+1 - (intOf p).toNat)
 case atStart=>exact⟨0,by omega,by go_num,HJ0.o,HF.o,Nat.le_refl _⟩
 case round=>
  obtain⟨i,hi,rfl,hJi,hF,hs⟩:=hrel;have r:=hF.rowM rfl HR.o nE (mStep_not (by decide));have y:=qg r;have y0:=y 0;have y1:=y 1;simp at y0 y1;have yl:=qh r;have HF1:=qj hF;have HJi:=qj hJi;clear y r hF hJi HJ0;by_cases hlt:i<=es.length
  ·have PC:=qj (h_Prefix (.slice a1 os.length c1) a2 c2 os es i wr (qq.sl (qq.keepE HO.o HF1.o rfl hE fun _ _=>mStep_not (by decide))) (qq.sl (qq.keepE HV.o HF1.o rfl hE fun _ _=>mStep_not (by decide))) hcap hol hel)
   gi_wp2_with fail;refine⟨trivial,(callsIn_wide.2 PC.o).mono ?_⟩;rintro e w1 ⟨ov,vv,rfl,o1,v1,b1⟩;obtain⟨a3,c3,rfl⟩:=qq.slv o1;obtain⟨a4,c4,rfl⟩:=qq.slv v1;have hti:(es.take i).length=i:=by rw[List.length_take];omega
   rw[hti] at v1 ⊢;clear hti;obtain⟨fn,tmps,assign,body,hy,hR⟩:=HY.o (fun _=>False) i w1 wr.heap.size #[.int .i64 i,.agg #[.slice a3 os.length c3,.slice a4 i c4]] (by omega) rfl (HJ.o (fun _=>False) i _ _ rfl HJi.o hs (b1.mono hs) fun k hk _=>b1.block k hk) (fun k e=>by cases e) hs b1.size ⟨_,_,rfl,o1,v1⟩;have HB:=qj b1;have hz1:=b1.size;clear o1 v1 b1 PC;gi_wp2_with fail;refine hR.mono ?_;rintro e W3 (⟨rfl,⟨hJ3,hk3⟩,-⟩|⟨rfl,hJx3,-⟩)
   ·have hs3:=hk3.size
    have hw0:=HF.o.size;have F3:=qj ((HF1.o.moreM (xM.below (lo:=w0.heap.size) HB.o (Nat.le_trans hw0 hs)) (Nat.le_refl _)).moreM hk3 (Nat.le_trans hw0 hs));have J3:=qj hJ3;clear hJ3 hk3;gi_wp2_with fail;go_roundw
    case rel=>exact⟨i+1,by omega,by go_num,J3.o,F3.o,by omega⟩
    case measure=>simp[intOf];omega
   ·gi_wp2_with fail
    refine bodyPost_ret (results_none rfl _ _ _) rfl ?_;exact⟨⟨_,rfl⟩,(fun _=>False),rfl,.inr ⟨i+1,by omega,by omega,hJx3⟩⟩
  ·obtain rfl:i=es.length+1:=by omega
   have hq:decide (((es.length+1:Nat):Int)<=(es.length:Int))=false:=by simp;omega
   gi_wp2_with fail;go_end0;exact⟨⟨_,rfl⟩,(fun _=>False),rfl,.inl HJi.o⟩
end
