/- Parts of the proof, merged by program out of 1 texts (SnE): the first: The game of a history. Conditions: those of each theorem, as typed. -/
import Derived.Test.YtkfhgifhfkcehaaGreatDoorQL37
set_option linter.unusedVariables false
set_option linter.unusedSimpArgs false
set_option linter.unusedSectionVars false
set_option maxRecDepth 100000
set_option maxHeartbeats 4000000
namespace Go.Proofs.YtkfhgifhfkcehaaGreatDoor
open Go.Maps Go.RowKit
section
attribute [local irreducible] wpL
theorem zip_filter {α β:Type} {R:α→β→Prop} {f:α→Bool} {g:β→Bool} (hfg:∀x y,R x y→f x=g y):∀(l:List α) (m:List β),l.length=m.length→(∀(k:Nat) (x:α) (y:β),l[k]?=some x→m[k]?=some y→R x y)→
  (l.filter f).length=(m.filter g).length∧∀(k:Nat) (x:α) (y:β),(l.filter f)[k]?=some x→(m.filter g)[k]?=some y→R x y
 |[],[],_,_=>⟨rfl,fun k x y h=>by simp at h⟩
 |[],_::_,h,_=>by simp at h
 |_::_,[],h,_=>by simp at h
 |a::l,b::m,h,hR=>by
  have h0:R a b:=hR 0 a b rfl rfl
  obtain⟨i1,i2⟩:=zip_filter hfg l m (by simpa using h) fun k x y hx hy=>hR (k+1) x y (by simpa using hx) (by simpa using hy)
  have e:=hfg a b h0
  cases hf:f a with
  |true=>
   rw[hf] at e
   rw[List.filter_cons,List.filter_cons,if_pos hf,if_pos e.symm]
   refine⟨by simp[i1],fun k x y hx hy=>?_⟩
   cases k with
   |zero=>simp at hx hy;subst hx hy;exact h0
   |succ k=>exact i2 k x y (by simpa using hx) (by simpa using hy)
  |false=>
   rw[hf] at e
   rw[List.filter_cons,List.filter_cons,if_neg (by simp[hf]),if_neg (by simp[←e])]
   exact⟨i1,i2⟩
theorem maskN_congr {f g:Nat→Bool}:∀n,(∀i,i < n→f i=g i)→maskN f n=maskN g n
 |0,_=>rfl
 |n+1,h=>by rw[maskN,maskN,maskN_congr n fun i hi=>h i (by omega),h n (by omega)]
theorem msk_eq {lev:Int} {fs:List TxR} {F:List St} (hl:fs.length=F.length) (hR:∀(k:Nat) (r:TxR) (s:St),fs[k]?=some r→F[k]?=some s→TxOf r s) {r:TxR} {s:St} (h:TxOf r s):mskV lev fs r=mskOf lev F s:=by
 unfold mskV mskOf
 rw[hl]
 refine maskN_congr _ fun i hi=>?_
 unfold mskR mskF
 have h1:=List.getElem?_eq_getElem (l:=fs) (i:=i) (by omega)
 have h2:=List.getElem?_eq_getElem (l:=F) (i:=i) hi
 have h3:=hR i _ _ h1 h2
 rw[h1,h2]
 simp only[rlyR,rly]
 rw[h3.2.2.2.2.1,h.2.2.2.1]
structure GameAt (w:World) (B bG:Nat) (g:Gm) (σ:List Int) (tv mv fv:Value):Prop where
 row:w.heap[bG]?=some (.cells #[.int .i64 g.lev,tv,mv,fv] 188 (0,0))
 hB:B≤bG
 txs:TxsAt w B tv g.txs
 masks:OwnI w B mv (g.masks.map fun m=>((m:Nat):Int))
 first :OwnS w B fv σ
theorem GameAt.below {w w':World} {B bG:Nat} {g:Gm} {σ:List Int} {tv mv fv:Value} (h:GameAt w B bG g σ tv mv fv) (hb:Below w.heap.size w w'):GameAt w' B bG g σ tv mv fv:=
 ⟨row_below h.row hb (row_lt h.row),h.hB,h.txs.below hb,OwnF.below h.masks hb,OwnF.below h.first hb⟩
theorem b_begin (lev:Int) (hl:lev=1∨lev=2∨lev=3) (ov vv:Value) (os:List Ob) (es:List Ev) (A:Au) (w:World) (ho:Sl w w.heap.size 2 ov os.length (os.flatMap Ob.cells)) (he:Sl w w.heap.size 8 vv es.length (es.flatMap Ev.cells)) (hne:os≠[]) (hr:RegOk os) (hel:es.length≤400) (hes:∀e ∈ es,EvOk os.length e) (hW:WordsAt w) (hF:Fed es A) (hA:A.length≤12):
  Calls Tryz.prog 89 #[.agg #[ov,vv],.int .i64 lev] w fun e w'=>∃bG tv mv fv,e=.returned (.tuple #[.pointer (some ⟨bG,0,none⟩),.nilIface])∧GameAt w' w.heap.size bG (gmOf lev A) (os.map (·.init)) tv mv fv∧Below w.heap.size w w':=by
 obtain⟨ao,co,rfl,mo⟩:=ho.ex
 obtain⟨ae,ce,rfl,me⟩:=he.ex
 have b0:Below w.heap.size w (w.alloc (.cells #[.slice ao os.length co,.slice ae es.length ce] 37)):=(Below.refl _ w).alloc (Nat.le_refl _) _
 have r0:=row_new w (.cells #[.slice ao os.length co,.slice ae es.length ce] 37)
 have hz0:=hid (show(w.alloc (.cells #[.slice ao os.length co,.slice ae es.length ce] 37)).heap.size=w.heap.size+1 by simp)
 have y:=row_cell r0
 have y0:=y 0
 have y1:=y 1
 have HL:=hid hl
 have HO:=hid ho
 have HR:=hid hr
 have HW:=hid hW
 have TC:=hid (sh_Table (.slice ao os.length co) (.slice ae es.length ce) os es A _ ((ho.below b0).more b0.size) ((he.below b0).more b0.size) hne hr hel hes (hW.below b0) hF)
 clear ho he hne hel hes hW hF hl hr y
 go_enter Tryz.func89,Tryz.ntmps89
 go_wp2_with fail
 generalize w.alloc (.cells #[.slice ao os.length co,.slice ae es.length ce] 37)=W at *
 refine TC.out.mono ?_
 rintro e W1 ⟨tv,rfl,T1,b1⟩
 obtain⟨rs,o1,hrl,hrc⟩:=T1
 obtain⟨at1,ct1,rfl,-⟩:=(OwnF.sl o1).ex
 have HD:Hid (SlDv rs):=hid (fun r hr=>by
  obtain⟨k,hk⟩:=List.mem_iff_getElem?.1 hr
  have hkl:k < A.length:=by have:=(List.getElem?_eq_some_iff.1 hk).1;omega
  obtain⟨a,c,e⟩:=OwnF.slv (hrc k r _ hk (List.getElem?_eq_getElem hkl)).2
  exact⟨a,_,c,e⟩)
 have HRC:=hid hrc
 have hz1:=b1.size
 have hz0':w.heap.size≤W.heap.size:=b0.size
 have R0:=hid (row_below r0 b1 (row_lt r0))
 have B1:=hid (b0.trans (b1.mono b0.size))
 have O1:=hid o1
 have hr12:rs.length≤12:=by omega
 have q12:decide ((rs.length:Int) > 12)=false:=by simp;omega
 have q12':decide (12 < (rs.length:Int))=false:=by simp;omega
 have HRL:=hid hrl
 clear o1 hrc b1 r0 b0 y0 y1 TC hrl
 go_wp2_with fail
 have RG:=hid (row_new W1 (.cells #[.int .i64 lev,.slice none 0 0,.slice none 0 0,.slice none 0 0] 188))
 have BG:=hid (show Below W1.heap.size W1 (W1.alloc (.cells #[.int .i64 lev,.slice none 0 0,.slice none 0 0,.slice none 0 0] 188)) from(Below.refl _ W1).alloc (Nat.le_refl _) _)
 generalize W1.alloc (.cells #[.int .i64 lev,.slice none 0 0,.slice none 0 0,.slice none 0 0] 188)=W2 at *
 go_loopw [28] (fun p wr=>∃(k:Nat) (q:Value),k≤rs.length∧p=.int .i64 k∧wr.heap[W1.heap.size]?=some (.cells #[.int .i64 lev,q,.slice none 0 0,.slice none 0 0] 188 (0,0))∧OwnF TxR.cells 56 7 wr W1.heap.size q ((rs.take k).filter (cntR lev))∧Below W1.heap.size W1 wr) (fun p _=>rs.length - (intOf p).toNat)
 case atStart=>exact⟨0,_,by omega,by go_num,RG.out,OwnF.nil _ _,BG.out⟩
 case round=>
  obtain⟨k,q,hk,rfl,qr,qo,qb⟩:=hrel
  clear RG BG W2
  have hsz:=qb.size
  obtain⟨L,hL⟩:∃L,(rs.take k).filter (cntR lev)=L:=⟨_,rfl⟩
  have hLl:=filter_take_len (cntR lev) rs k
  rw[hL] at qo hLl
  have HLL:=hid hL
  clear hL
  obtain⟨aq,cq,rfl,-⟩:=(OwnF.sl qo).ex
  have QR:=hid qr
  have QO:=hid qo
  have QB:=hid qb
  clear qr qo qb
  by_cases hlt:k < rs.length
  ·obtain ⟨b,off,o,rfl,hb,hox,hc⟩:=(OwnF.sl (OwnF.below O1.out QB.out)).atF TxR.len rfl hlt
   obtain⟨i1,th1,st1,be1,fi1,tr1,dv⟩:=o
   obtain⟨ad1,nd1,cd1,hdv⟩:=HD.out _ (List.mem_of_getElem? hox)
   simp only at hdv
   subst hdv
   have c0:wr.cell? ⟨b,off+k*7,none⟩=some (.int .i64 i1):=hc 0 (by decide)
   have c1:wr.cell? ⟨b,off+k*7+1,none⟩=some (.int .i64 th1):=hc 1 (by decide)
   have c2:wr.cell? ⟨b,off+k*7+2,none⟩=some (.int .i64 st1):=hc 2 (by decide)
   have c3:wr.cell? ⟨b,off+k*7+3,none⟩=some (.int .i64 be1):=hc 3 (by decide)
   have c4:wr.cell? ⟨b,off+k*7+4,none⟩=some (.int .i64 fi1):=hc 4 (by decide)
   have c5:wr.cell? ⟨b,off+k*7+5,none⟩=some (.int .i64 tr1):=hc 5 (by decide)
   have c6:wr.cell? ⟨b,off+k*7+6,none⟩=some (.slice ad1 nd1 cd1):=hc 6 (by decide)
   have HX:=hid (filter_take_succ (cntR lev) rs k _ hox)
   clear hc hox
   have b3:Below wr.heap.size wr (wr.alloc (.cells #[.int .i64 i1,.int .i64 th1,.int .i64 st1,.int .i64 be1,.int .i64 fi1,.int .i64 tr1,.slice ad1 nd1 cd1] 56)):=(Below.refl _ wr).alloc (Nat.le_refl _) _
   have r3:=row_new wr (.cells #[.int .i64 i1,.int .i64 th1,.int .i64 st1,.int .i64 be1,.int .i64 fi1,.int .i64 tr1,.slice ad1 nd1 cd1] 56)
   go_wp2_with fail
   generalize wr.alloc (.cells #[.int .i64 i1,.int .i64 th1,.int .i64 st1,.int .i64 be1,.int .i64 fi1,.int .i64 tr1,.slice ad1 nd1 cd1] 56)=W3 at *
   refine(sh_Counted lev HL.out i1 th1 st1 be1 fi1 tr1 ad1 nd1 cd1 W3).mono ?_
   rintro e W4 ⟨rfl,b4⟩
   have b34:=b3.trans (b4.mono b3.size)
   have hz4:=b34.size
   have B4:=hid (QB.out.trans (b34.mono hsz))
   have r4:=row_below r3 b4 (row_lt r3)
   have d:=row_cell r4
   have d0:=d 0
   have d1:=d 1
   have d2:=d 2
   have d3:=d 3
   have d4:=d 4
   have d5:=d 5
   have d6:=d 6
   have dl:=row_lt r4
   have QO4:=hid (OwnF.below QO.out b34)
   have rg4:=row_below QR.out b34 (row_lt QR.out)
   have gl4:=row_lt rg4
   have RG4:=hid rg4
   have g1:=row_cell rg4 1
   clear d r3 b3 b4 b34 r4 rg4 c0 c1 c2 c3 c4 c5 c6
   cases hcb:cntL lev st1 with
   |true=>
    go_wp2_with fail
    simp at d0 d1 d2 d3 d4 d5 d6 g1
    refine wp_rN (W4.heap.size) [0,0,0,0,1,1,3,2,0,0,2] (.fin [0,1,2,3,4,5,6,7,8,9,10]) (by kernel_rfl) ?_
    simp only[wpT,selX,guardAt,sD,sE,sF,sG]
    repeat first|(refine wpL_p fun K hK=>?_;go_simp;refine hK _ _ ?_;clear hK K)|(apply wpL_s;(intro w2 hw2;have hk1:=hw2.cell;have hk3:=hw2.1;clear hw2;go_simp;with_reducible rfl);simp only[Act.put,sA,sB,sC])
    refine wpL_k (fun K hK=>?_)
    go_simp
    refine hK _ _ (RN.KeepsN.alloc W4.drew _ (Nat.le_refl _)) ?_
    clear hK K
    refine wpL_e (fun K hK=>?_)
    rw[drew_alloc]
    refine wp_appF _ _ _ rfl _ 72 Tryz.underlying39 infoTx rfl QO4.out.drew (TxR.mk i1 th1 st1 be1 fi1 tr1 (.slice ad1 nd1 cd1)) (show W1.heap.size≤W4.drew.heap.size from Nat.le_trans hsz hz4) (by rfl) (by rfl) (by first|rfl|simp) rfl (tx_one _) (by first|omega|(simp only[List.length_append,List.length_cons,List.length_nil,List.length_replicate];omega)) (by first|omega|(simp only[List.length_append,List.length_cons,List.length_nil,List.length_replicate];omega)) ?_
    intro g5 c5 w5 o5 G5
    refine hK _ _ ?_
    clear hK K
    have ne:=OwnF.neT QO4.out RG4.out (by decide)
    have r5:w5.heap[W1.heap.size]?=some _:=row_grw (w:=W4.drew) RG4.out G5 ne
    have neF:(Value.slice (some ⟨g5,0,none⟩) (L.length+1) c5).ownBlock≠some W1.heap.size:=OwnF.neT o5 r5 (by decide)
    have y:=row_cell r5 1
    simp at y
    have yf:=row_free r5 1
    have yl:=row_lt r5
    have oF:=hid (OwnF.other (j:=1) o5 neF (.slice (some ⟨g5,0,none⟩) (L.length+1) c5))
    have rF:=hid (row_set r5 1 (.slice (some ⟨g5,0,none⟩) (L.length+1) c5))
    have bF:=hid ((B4.out.drew.trans (G5.below (B:=W1.heap.size) (show W1.heap.size≤W4.drew.heap.size from Nat.le_trans hsz hz4) fun j hj=>(OwnF.lt QO4.out j hj).1)).setCell (p:=⟨W1.heap.size,1,none⟩) (Nat.le_refl _) (.slice (some ⟨g5,0,none⟩) (L.length+1) c5))
    clear ne r5 neF o5 G5 d0 d1 d2 d3 d4 d5 d6 g1
    repeat (refine wpL_p fun K hK=>?_;go_simp;refine hK _ _ ?_;clear hK K)
    refine wpL_e (fun K hK=>?_)
    go_simp
    refine hK _ _ ?_
    clear hK K
    repeat refine wpL_nil ?_
    go_wp2_with fail
    refine⟨⟨k+1,_,by omega,by go_num,by simpa using rF.out,?_,bF.out⟩,by simp[intOf];omega⟩
    have hcR:cntR lev ⟨i1,th1,st1,be1,fi1,tr1,.slice ad1 nd1 cd1⟩=true:=hcb
    rw[HX.out,HLL.out,if_pos hcR]
    exact oF.out
   |false=>
    go_wp2_with fail
    refine⟨⟨k+1,_,by omega,by go_num,RG4.out,?_,B4.out⟩,by simp[intOf];omega⟩
    rw[HX.out,HLL.out,if_neg (by show ¬cntL lev st1=true;rw[hcb];simp),List.append_nil]
    exact QO4.out
  ·obtain rfl:k=rs.length:=by omega
   have hq:decide ((rs.length:Int) < (rs.length:Int))=false:=by simp
   have hLe:=hid (show L=rs.filter (cntR lev) by rw[←HLL.out,List.take_length])
   have BB:=hid (B1.out.trans (QB.out.mono (by have:=B1.out.size;omega)))
   have MC:=hid (rl_Masks lev HL.out _ rs wr (OwnF.sl (OwnF.below O1.out QB.out)) HD.out hr12)
   go_wp2_with fail
   refine MC.out.mono ?_
   rintro e W5 ⟨mv,rfl,o5,b5⟩
   obtain⟨Ms,hMs⟩:∃Ms,((rs.filter (cntR lev)).map fun b=>((mskV lev (rs.filter (cntR lev)) b:Nat):Int))=Ms:=⟨_,rfl⟩
   rw[hMs] at o5
   have HMs:=hid hMs
   clear hMs
   obtain⟨am,cm,rfl,-⟩:=(OwnF.sl o5).ex
   have r5:=row_below QR.out b5 (row_lt QR.out)
   have y:=row_cell r5 2
   simp at y
   have yf:=row_free r5 2
   have yl:=row_lt r5
   have hne5:=OwnF.neT o5 r5 (by decide)
   have O6:=hid (OwnF.other (j:=2) o5 hne5 (.slice am Ms.length cm))
   have R6:=hid (row_set r5 2 (.slice am Ms.length cm))
   have B6:=hid ((QB.out.trans (b5.mono hsz)).setCell (p:=⟨W1.heap.size,2,none⟩) (Nat.le_refl _) (.slice am Ms.length cm))
   have QO6:=hid (OwnF.other (j:=2) (OwnF.below QO.out b5) (OwnF.neT (OwnF.below QO.out b5) r5 (by decide)) (.slice am Ms.length cm))
   have hs56:wr.heap.size≤W5.heap.size:=b5.size
   clear o5 b5 r5 hne5
   have ro6:=row_below R0.out B6.out (row_lt R0.out)
   have yo:=row_cell ro6 0
   simp at yo
   have yol:=row_lt ro6
   have BW6:=hid (B1.out.trans (B6.out.mono B1.out.size))
   have NC:=hid (s_New (.slice ao os.length co) os (W5.setCell ⟨W1.heap.size,2,none⟩ (.slice am Ms.length cm)) ((HO.out.below BW6.out).more BW6.out.size) HR.out (HW.out.below BW6.out))
   clear ro6
   go_wp2_with fail
   refine NC.out.mono ?_
   rintro e W7 ⟨fv,rfl,o7,b7⟩
   obtain⟨af,cf,hv7,-⟩:=(OwnF.sl o7).ex
   rw[List.length_map] at hv7
   subst hv7
   have r7:=row_below R6.out b7 (row_lt R6.out)
   have y:=row_cell r7 3
   simp at y
   have yf:=row_free r7 3
   have yl:=row_lt r7
   have O8:=hid (OwnF.other (j:=3) o7 (OwnF.neT o7 r7 (by decide)) (.slice af os.length cf))
   have M8:=hid (OwnF.other (j:=3) (OwnF.below O6.out b7) (OwnF.neT (OwnF.below O6.out b7) r7 (by decide)) (.slice af os.length cf))
   have T8:=hid (OwnF.other (j:=3) (OwnF.below QO6.out b7) (OwnF.neT (OwnF.below QO6.out b7) r7 (by decide)) (.slice af os.length cf))
   have R8:=hid (row_set r7 3 (.slice af os.length cf))
   have B8:=hid ((B6.out.trans (b7.mono B6.out.size)).setCell (p:=⟨W1.heap.size,3,none⟩) (Nat.le_refl _) (.slice af os.length cf))
   clear o7 b7 r7
   go_wp2_with fail
   refine bodyPost_ret (v:=.tuple #[.pointer (some ⟨W1.heap.size,0,none⟩),.nilIface]) (by simp[results,Tryz.results89,go_sem]) rfl ?_
   have hw1:=B1.out.size
   obtain⟨z1,z2⟩:=zip_filter (R:=fun r s=>TxOf r s∧OwnD W1 W.heap.size r.dv s.deeds) (f:=cntR lev) (g:=cntd lev) (fun r s h=>by rw[cntd_L];unfold cntR;rw[h.1.2.2.1]) rs A HRL.out HRC.out
   refine⟨W1.heap.size,.slice aq L.length cq,.slice am Ms.length cm,.slice af os.length cf,rfl,⟨by have:=R8.out;simpa[gmOf] using this,hw1,⟨L,OwnF.base T8.out hw1,by rw[hLe.out];exact z1,fun k r s hr hs=>?_⟩,?_,?_⟩,B1.out.trans (B8.out.mono hw1)⟩
   ·rw [hLe.out] at hr
    have:=z2 k r s hr hs
    exact⟨this.1,OwnF.base (OwnF.below this.2 B8.out) hz0'⟩
   ·have e:((gmOf lev A).masks.map fun m=>((m:Nat):Int))=Ms:=by
     rw[←HMs.out]
     show((A.filter (cntd lev)).map (mskOf lev (A.filter (cntd lev)))).map _=_
     rw[List.map_map]
     refine List.ext_getElem? fun k=>?_
     rw[List.getElem?_map,List.getElem?_map]
     by_cases hk:k < (rs.filter (cntR lev)).length
     ·have h1:=List.getElem?_eq_getElem hk
      have h2:=List.getElem?_eq_getElem (l:=A.filter (cntd lev)) (i:=k) (by omega)
      rw[h1,h2]
      simp only[Option.map_some,Function.comp_apply]
      rw[msk_eq z1 (fun k r s hr hs=>(z2 k r s hr hs).1) (z2 k _ _ h1 h2).1]
     ·rw [List.getElem?_eq_none (by omega),List.getElem?_eq_none (by omega)]
      rfl
    rw[e]
    exact OwnF.base M8.out (Nat.le_trans hw1 hsz)
   ·exact OwnF.base O8.out (by have:=BW6.out.size;exact this)
end
