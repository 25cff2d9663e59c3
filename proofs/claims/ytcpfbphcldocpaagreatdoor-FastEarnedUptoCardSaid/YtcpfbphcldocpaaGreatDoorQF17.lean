/- Parts of the proof, merged by program out of 2 texts (FtB, FtW): the first: The premise of the fast way. Conditions: those of each theorem, as typed. -/
import Derived.Test.YtcpfbphcldocpaaGreatDoorQF06
import Derived.Test.YtcpfbphcldocpaaGreatDoorQF09
import Derived.Test.YtcpfbphcldocpaaGreatDoorQF16
import Derived.Shelf.Abstract
set_option linter.unusedVariables false
set_option linter.unusedSimpArgs false
set_option linter.unusedSectionVars false
set_option maxRecDepth 100000
set_option maxHeartbeats 4000000
namespace Go.Proofs.YtcpfbphcldocpaaGreatDoor
open Go.Maps Go.RowKit
section
attribute [local irreducible] wpL
def TabRet (w:World) (r:Option Au) (e:Ending) (w':World):Prop:=match r with
 |some A=>∃v,e=.returned (.tuple #[v,.nilIface])∧TxsAt w' w.heap.size v A∧Below w.heap.size w w'
 |none=>(∃t x,e=.returned (.tuple #[.slice none 0 0,.iface t x]))∧Below w.heap.size w w'
structure DvOk (os:List Ob) (A:Au):Prop where
 ol:os.length≤8
 len:A.length≤400
 dl:∀s ∈ A,s.deeds.length≤400
 id:∀s ∈ A,dI s.id
 obj:∀s ∈ A,∀d ∈ s.deeds,0≤d.obj∧d.obj < os.length
 val:∀s ∈ A,∀d ∈ s.deeds,dI d.val∧dI d.got
theorem DvOk.dobj {os:List Ob} {A:Au} (h:DvOk os A) {s:St} (hs:s ∈ A) {d:Dd} (hd:d ∈ s.deeds):dI d.obj:=by
 have h1:=h.obj s hs d hd
 have h2:=h.ol
 unfold dI Lit.wf
 simp[IntKind.min,IntKind.max,IntKind.bits,IntKind.signed]
 omega
def premR (os:List Ob) (r:Option Au):Option Au:=match r with
 |some A=>if premA os [] A=true then some A else none
 |none=>none
theorem f_premise_no (ov vv:Value) (os:List Ob) (w:World) (ho:Sl w w.heap.size 2 ov os.length (os.flatMap Ob.cells)) (hvv:∃a n c,vv=.slice a n c)
  (hT:∀W,Below w.heap.size w W→Calls Tryz.prog 13 #[.agg #[ov,vv]] W (TabRet W none)):
  Calls Tryz.prog 43 #[.agg #[ov,vv]] w (TabRet w none):=by
 obtain⟨ao,co,rfl,mo⟩:=ho.ex
 obtain⟨av,nv,cv,rfl⟩:=hvv
 have b0:Below w.heap.size w (w.alloc (.cells #[.slice ao os.length co,.slice av nv cv] 25)):=(Below.refl _ w).alloc (Nat.le_refl _) _
 have TC:=hid (hT _ b0)
 have B0:=hid b0
 clear b0 hT ho mo
 go_enter Tryz.func43,Tryz.ntmps43
 go_wp2_with fail
 generalize w.alloc (.cells #[.slice ao os.length co,.slice av nv cv] 25)=W at *
 refine TC.out.mono ?_
 rintro e W1 ⟨⟨te,xe,rfl⟩,b1⟩
 have B1:=hid (B0.out.trans (b1.mono B0.out.size))
 clear b1 TC
 go_wp2
 refine bodyPost_ret (v:=.tuple #[.slice none 0 0,.iface te xe]) (by simp[results,Tryz.results43,go_sem]) rfl ?_
 exact⟨⟨_,_,rfl⟩,B1.out⟩
theorem f_premise_some (ov vv:Value) (os:List Ob) (A:Au) (w:World) (ho:Sl w w.heap.size 2 ov os.length (os.flatMap Ob.cells)) (hvv:∃a n c,vv=.slice a n c)
  (hT:∀W,Below w.heap.size w W→Calls Tryz.prog 13 #[.agg #[ov,vv]] W (TabRet W (some A))) (hD:DvOk os A) {t0:TypeId} {v0:Value} (hev:w.cell? ⟨6,0,none⟩=some (.iface t0 v0)) (hel:6 < w.heap.size):
  Calls Tryz.prog 43 #[.agg #[ov,vv]] w (TabRet w (premR os (some A))):=by
 obtain⟨ao,co,rfl,mo⟩:=ho.ex
 obtain⟨av,nv,cv,rfl⟩:=hvv
 have b0:Below w.heap.size w (w.alloc (.cells #[.slice ao os.length co,.slice av nv cv] 25)):=(Below.refl _ w).alloc (Nat.le_refl _) _
 have r0:=row_new w (.cells #[.slice ao os.length co,.slice av nv cv] 25)
 have TC:=hid (hT _ b0)
 have HO:=hid ((ho.below b0).more b0.size)
 have B0:=hid b0
 have R0:=hid r0
 have EV:=hid (cell_below b0 hel hev)
 have HD:=hid hD
 have hz0:w.heap.size < (w.alloc (.cells #[.slice ao os.length co,.slice av nv cv] 25)).heap.size:=by simp
 have hmm:=@run_makeMap Tryz.prog
 obtain⟨R,hR⟩:∃R,premR os (some A)=R:=⟨_,rfl⟩
 rw[hR]
 have HR:=hid hR
 clear b0 r0 hT ho mo hev hD hR
 go_enter Tryz.func43,Tryz.ntmps43
 go_wp2_with fail
 generalize w.alloc (.cells #[.slice ao os.length co,.slice av nv cv] 25)=W at *
 refine TC.out.mono ?_
 rintro e W1 ⟨tv,rfl,⟨rs,o1,hrl,hrc⟩,b1⟩
 obtain⟨at1,ct1,rfl⟩:=OwnF.slv o1
 have hz1:=b1.size
 have B1:=hid (B0.out.trans (b1.mono B0.out.size))
 have R1:=hid (row_below R0.out b1 (row_lt R0.out))
 have EV1:=hid (cell_below b1 (by have:=B0.out.size;omega) EV.out)
 have HO1:=hid ((HO.out.below b1).more b1.size)
 have O1:=hid o1
 have HRC:=hid hrc
 have HRL:=hid hrl
 have hrl4:rs.length≤400:=by have:=HD.out.len;omega
 clear b1 o1 hrc hrl TC R0 EV HO
 go_wp2_with fail
 have CS:=hid (show CkSet (W1.alloc (.map #[] 0)) W1.heap.size [] from CkSet.made (heap_alloc_new W1 _))
 have BS:=hid (show Below W1.heap.size W1 (W1.alloc (.map #[] 0)) from(Below.refl _ W1).alloc (Nat.le_refl _) _)
 have hzS:W1.heap.size < (W1.alloc (.map #[] 0)).heap.size:=by simp
 generalize W1.alloc (.map #[] 0)=W2 at *
 go_loopw [24] (fun p wr=>∃(k:Nat) (wl:List (Int×Int)),k≤rs.length∧p=.int .i64 k∧CkSet wr W1.heap.size wl∧premA os [] A=premA os wl (A.drop k)∧Below W1.heap.size W1 wr∧W1.heap.size < wr.heap.size) (fun p _=>rs.length - (intOf p).toNat)
 case atStart=>exact⟨0,[],by omega,by go_num,CS.out,rfl,BS.out,hzS⟩
 case round=>
  obtain⟨k,wl,hk,rfl,hS,hP,hB,hzw⟩:=hrel
  have HS:=hid hS
  have HP:=hid hP
  have HB:=hid hB
  clear CS BS hzS W2 hS hP hB
  by_cases hlt:k < rs.length
  ·obtain ⟨b,off,r,rfl,hb,hr,hc⟩:=(OwnF.sl (OwnF.below O1.out HB.out)).atF TxR.len rfl hlt
   obtain⟨s,hs⟩:∃s,A[k]?=some s:=⟨_,List.getElem?_eq_getElem (by have:=HRL.out;omega)⟩
   have hdv:=(HRC.out k r s hr hs).2
   have HDK:=hid (show A.drop k=s::A.drop (k+1) from List.drop_eq_getElem?_toList_append▸by rw[hs];rfl)
   have hsm:=List.mem_of_getElem? hs
   have HSM:=hid hsm
   have hnd:=HD.out.dl s hsm
   have HOb:=hid (HD.out.obj s hsm)
   have HVa:=hid (HD.out.val s hsm)
   have HDo:=hid (fun(d:Dd) (hd:d ∈ s.deeds)=>HD.out.dobj hsm hd)
   have hol:=HD.out.ol
   obtain⟨i1,th1,st1,be1,fi1,tr1,dv⟩:=r
   simp only at hdv
   obtain⟨ad,cd,rfl⟩:=OwnF.slv hdv
   have c0:wr.cell? ⟨b,off+k*7,none⟩=some (.int .i64 i1):=hc 0 (by decide)
   have c1:wr.cell? ⟨b,off+k*7+1,none⟩=some (.int .i64 th1):=hc 1 (by decide)
   have c2:wr.cell? ⟨b,off+k*7+2,none⟩=some (.int .i64 st1):=hc 2 (by decide)
   have c3:wr.cell? ⟨b,off+k*7+3,none⟩=some (.int .i64 be1):=hc 3 (by decide)
   have c4:wr.cell? ⟨b,off+k*7+4,none⟩=some (.int .i64 fi1):=hc 4 (by decide)
   have c5:wr.cell? ⟨b,off+k*7+5,none⟩=some (.int .i64 tr1):=hc 5 (by decide)
   have c6:wr.cell? ⟨b,off+k*7+6,none⟩=some (.slice ad s.deeds.length cd):=hc 6 (by decide)
   have HDV:=hid hdv
   obtain⟨ds,hds⟩:∃ds,s.deeds=ds:=⟨_,rfl⟩
   rw[hds] at HDV HOb HVa HDo c6 hnd
   have HDS:=hid hds
   clear hr hs hc hsm hds hdv
   have b5:Below W1.heap.size W1 ((wr.alloc (.cells #[.int .i64 i1,.int .i64 th1,.int .i64 st1,.int .i64 be1,.int .i64 fi1,.int .i64 tr1,.slice ad ds.length cd] 49)).alloc (.map #[] 0)):=(HB.out.alloc (Nat.le_of_lt hzw) _).alloc (by simp;omega) _
   have B5:=hid b5
   have S5:=hid (show CkSet ((wr.alloc (.cells #[.int .i64 i1,.int .i64 th1,.int .i64 st1,.int .i64 be1,.int .i64 fi1,.int .i64 tr1,.slice ad ds.length cd] 49)).alloc (.map #[] 0)) W1.heap.size wl from HS.out.obj (by rw[heap_alloc_old _ _ (by simp;omega),heap_alloc_old _ _ (by omega)]))
   have I5:=hid (show IntSet ((wr.alloc (.cells #[.int .i64 i1,.int .i64 th1,.int .i64 st1,.int .i64 be1,.int .i64 fi1,.int .i64 tr1,.slice ad ds.length cd] 49)).alloc (.map #[] 0)) (wr.heap.size+1) [] from IntSet.made (by have:=heap_alloc_new (wr.alloc (.cells #[.int .i64 i1,.int .i64 th1,.int .i64 st1,.int .i64 be1,.int .i64 fi1,.int .i64 tr1,.slice ad ds.length cd] 49)) (.map #[] 0);simpa using this))
   have hz5:wr.heap.size+1 < ((wr.alloc (.cells #[.int .i64 i1,.int .i64 th1,.int .i64 st1,.int .i64 be1,.int .i64 fi1,.int .i64 tr1,.slice ad ds.length cd] 49)).alloc (.map #[] 0)).heap.size:=by simp
   clear b5
   go_wp2_with fail
   generalize ((wr.alloc (.cells #[.int .i64 i1,.int .i64 th1,.int .i64 st1,.int .i64 be1,.int .i64 fi1,.int .i64 tr1,.slice ad ds.length cd] 49)).alloc (.map #[] 0))=W5 at *
   clear c0 c1 c2 c3 c4 c5 c6 HS HB hb
   generalize wr.heap.size=nb at *
   go_loopw [32] (fun q wi=>∃(j:Nat) (rd:List Int) (wk:List (Int×Int)),j≤ds.length∧q=.int .i64 j∧IntSet wi (nb+1) rd∧CkSet wi W1.heap.size wk∧premO os [] wl ds=premO os rd wk (ds.drop j)∧Below W1.heap.size W1 wi∧nb+1 < wi.heap.size) (fun q _=>ds.length - (intOf q).toNat)
   case atStart=>exact⟨0,[],wl,by omega,by go_num,I5.out,S5.out,rfl,B5.out,hz5⟩
   case round=>
    obtain⟨j,rd,wk,hj,rfl,hI,hS,hE,hB,hzi⟩:=hrel
    clear S5 I5 B5 hz5 W5
    have hz1i:=hB.size
    have hIl:=hI.lt
    have hSl:=hS.lt
    have HI:=hid hI
    have HS:=hid hS
    have HE:=hid hE
    have HB:=hid hB
    clear hI hS hE hB
    by_cases hlt2:j < ds.length
    ·obtain ⟨b2,off2,d,hq2,hb2,hdj,hc2⟩:=(OwnF.sl (OwnF.below HDV.out HB.out)).atF Dd.len rfl hlt2
     subst hq2
     have HDJ:=hid (show ds.drop j=d::ds.drop (j+1) from List.drop_eq_getElem?_toList_append▸by rw[hdj];rfl)
     have hdm:=List.mem_of_getElem? hdj
     have hob:=HOb.out d hdm
     have hva:=HVa.out d hdm
     have hdo:=HDo.out d hdm
     obtain⟨ob',op,ke,va,re,go,at_,ba⟩:=d
     obtain⟨ob,rfl⟩:∃ob:Nat,ob'=(ob:Int):=⟨ob'.toNat,by have:=hob.1;simp only at this;omega⟩
     have hobl:ob < os.length:=by have:=hob.2;simp only at this;omega
     have HCk:=hid (⟨hdo,hva.1⟩:dI (ob:Int)∧dI va)
     have c0:wr.cell? ⟨b2,off2+j*8,none⟩=some (.int .i64 (ob:Int)):=hc2 0 (by decide)
     have c1:wr.cell? ⟨b2,off2+j*8+1,none⟩=some (.int .i64 op):=hc2 1 (by decide)
     have c2:wr.cell? ⟨b2,off2+j*8+2,none⟩=some (.int .i64 ke):=hc2 2 (by decide)
     have c3:wr.cell? ⟨b2,off2+j*8+3,none⟩=some (.int .i64 va):=hc2 3 (by decide)
     have c4:wr.cell? ⟨b2,off2+j*8+4,none⟩=some (.int .i64 re):=hc2 4 (by decide)
     have c5:wr.cell? ⟨b2,off2+j*8+5,none⟩=some (.int .i64 go):=hc2 5 (by decide)
     have c6:wr.cell? ⟨b2,off2+j*8+6,none⟩=some (.int .i64 at_):=hc2 6 (by decide)
     have c7:wr.cell? ⟨b2,off2+j*8+7,none⟩=some (.int .i64 ba):=hc2 7 (by decide)
     obtain⟨bo,offo,o,hqo,hbo,hoo,hco⟩:=(HO1.out.below HB.out).atF Ob.len rfl hobl
     subst hqo
     obtain⟨kd,ini⟩:=o
     have k0:wr.cell? ⟨bo,offo+ob*2,none⟩=some (.int .i64 kd):=hco 0 (by decide)
     have k1:wr.cell? ⟨bo,offo+ob*2+1,none⟩=some (.int .i64 ini):=hco 1 (by decide)
     have HOO:=hid (show os[((ob:Nat):Int).toNat]?=some ⟨kd,ini⟩ by simpa using hoo)
     have rh:=row_below R1.out HB.out (row_lt R1.out)
     have z0:=row_cell rh 0
     simp at z0
     have zl:=row_lt rh
     have EVi:=cell_below HB.out (by have:=B1.out.size;omega) EV1.out
     have hgl:6 < wr.heap.size:=by have:=B1.out.size;omega
     have hbow:bo < wr.heap.size:=by omega
     have hb2w:b2 < wr.heap.size:=by omega
     have BA:=hid (B1.out.trans (HB.out.mono (by have:=B1.out.size;omega)))
     have hPE:premO os rd wk (⟨(ob:Int),op,ke,va,re,go,at_,ba⟩::ds.drop (j+1))=(if kd=1 then(if op=1 then premO os (if re=3 then(ob:Int)::rd else rd) wk (ds.drop (j+1)) else if (ob:Int) ∈ rd∧((ob:Int),va) ∉ wk∧ini≠va then premO os rd (((ob:Int),va)::wk) (ds.drop (j+1)) else none) else none):=by
      rw[premO,HOO.out]
     have HPE:=hid hPE
     clear hPE hco hc2 hoo rh hdj hdm hob hva hdo
     by_cases hk1:kd=1
     ·subst hk1
      by_cases ho1:op=1
      ·subst ho1
       have bd:Below wr.heap.size wr (wr.alloc (.cells #[.int .i64 (ob:Int),.int .i64 1,.int .i64 ke,.int .i64 va,.int .i64 re,.int .i64 go,.int .i64 at_,.int .i64 ba] 112)):=(Below.refl _ wr).alloc (Nat.le_refl _) _
       have rd8:=row_new wr (.cells #[.int .i64 (ob:Int),.int .i64 1,.int .i64 ke,.int .i64 va,.int .i64 re,.int .i64 go,.int .i64 at_,.int .i64 ba] 112)
       have BD:=hid bd
       have RD8:=hid rd8
       have HId:=hid (HI.out.obj (bd.block _ hIl))
       have HSd:=hid (HS.out.obj (bd.block _ hSl))
       have hzd:(wr.alloc (.cells #[.int .i64 (ob:Int),.int .i64 1,.int .i64 ke,.int .i64 va,.int .i64 re,.int .i64 go,.int .i64 at_,.int .i64 ba] 112)).heap.size=wr.heap.size+1:=by simp
       have HZd:=hid hzd
       have y:=row_cell rd8
       have y0:=y 0
       have y1:=y 1
       have y2:=y 2
       have y3:=y 3
       have y4:=y 4
       have y5:=y 5
       have y6:=y 6
       have y7:=y 7
       simp at y0 y1 y2 y3 y4 y5 y6 y7
       have yl:=row_lt rd8
       clear y rd8 bd hzd
       obtain⟨M,hM,hM2⟩:=HId.out
       have hlk:=(hM.look Tryz.underlying3 Tryz.underlying102 (zeroBl _) (ob:Int) rfl).1
       rw[hM2] at hlk
       have HM2:=hid hM2
       obtain⟨x,hx⟩:∃x:Bool,x=(decide ((ob:Int) ∈ rd)||decide (re=3)):=⟨_,rfl⟩
       have HX:=hid hx
       clear hM2 HId hx
       by_cases hr:(ob:Int) ∈ rd
       ·have e1:decide ((ob:Int) ∈ rd)=true:=by simpa using hr
        rw[e1] at hlk
        have ex:x=true:=by rw[HX.out,e1];rfl
        subst ex
        clear hr e1
        go_wp2_with (at_mapUpdate;refine Stop.halt ?_)
        refine Stop.go ?_
        refine hM.wpList_store Tryz.underlying3 Tryz.underlying102 (a:=(ob:Int)) (v:=.bool true) rfl (.inl rfl) (by rfl) (by rfl) (by first|rfl|(subst_vars;rfl)) ?_
        intro w6 hM6 t6
        have I6:=hid (IntSet.put (rd':=if re=3 then(ob:Int)::rd else rd) hM6 HM2.out (by rw[HX.out];by_cases h3:re=3 <;> simp[h3]) (fun k hk=>by by_cases h3:re=3 <;> simp[h3,hk]))
        have S6:=hid (HSd.out.obj (turned_other t6 (by omega)))
        have B6:=hid ((HB.out.trans (BD.out.mono hz1i)).trans (Below.turned t6 (by omega)))
        have z6:=turned_size t6
        have hz7:nb+1 < w6.heap.size:=by have:=HZd.out;omega
        clear t6 hM6
        go_wp2_with fail
        go_roundw
        case rel=>exact⟨j+1,_,wk,by omega,by go_num,I6.out,S6.out,by rw[HE.out,HDJ.out,HPE.out,if_pos trivial,if_pos trivial],B6.out,hz7⟩
        case measure=>simp[intOf];omega
       ·have e1:decide ((ob:Int) ∈ rd)=false:=by simpa using hr
        rw[e1] at hlk
        by_cases h3:re=3
        ·have q3:(re==3)=true:=by simpa using h3
         have ex:x=true:=by rw[HX.out,e1,h3];rfl
         subst ex
         clear hr e1 h3
         go_wp2_with (at_mapUpdate;refine Stop.halt ?_)
         refine Stop.go ?_
         refine hM.wpList_store Tryz.underlying3 Tryz.underlying102 (a:=(ob:Int)) (v:=.bool true) rfl (.inl rfl) (by rfl) (by rfl) (by first|rfl|(subst_vars;rfl)) ?_
         intro w6 hM6 t6
         have I6:=hid (IntSet.put (rd':=if re=3 then(ob:Int)::rd else rd) hM6 HM2.out (by rw[HX.out];by_cases h3:re=3 <;> simp[h3]) (fun k hk=>by by_cases h3:re=3 <;> simp[h3,hk]))
         have S6:=hid (HSd.out.obj (turned_other t6 (by omega)))
         have B6:=hid ((HB.out.trans (BD.out.mono hz1i)).trans (Below.turned t6 (by omega)))
         have z6:=turned_size t6
         have hz7:nb+1 < w6.heap.size:=by have:=HZd.out;omega
         clear t6 hM6
         go_wp2_with fail
         go_roundw
         case rel=>exact⟨j+1,_,wk,by omega,by go_num,I6.out,S6.out,by rw[HE.out,HDJ.out,HPE.out,if_pos trivial,if_pos trivial],B6.out,hz7⟩
         case measure=>simp[intOf];omega
        ·have q3:(re==3)=false:=by simpa using h3
         have ex:x=false:=by rw[HX.out,e1];simpa using h3
         subst ex
         clear hr e1 h3
         go_wp2_with (at_mapUpdate;refine Stop.halt ?_)
         refine Stop.go ?_
         refine hM.wpList_store Tryz.underlying3 Tryz.underlying102 (a:=(ob:Int)) (v:=.bool false) rfl (.inl rfl) (by rfl) (by rfl) (by first|rfl|(subst_vars;rfl)) ?_
         intro w6 hM6 t6
         have I6:=hid (IntSet.put (rd':=if re=3 then(ob:Int)::rd else rd) hM6 HM2.out (by rw[HX.out];by_cases h3:re=3 <;> simp[h3]) (fun k hk=>by by_cases h3:re=3 <;> simp[h3,hk]))
         have S6:=hid (HSd.out.obj (turned_other t6 (by omega)))
         have B6:=hid ((HB.out.trans (BD.out.mono hz1i)).trans (Below.turned t6 (by omega)))
         have z6:=turned_size t6
         have hz7:nb+1 < w6.heap.size:=by have:=HZd.out;omega
         clear t6 hM6
         go_wp2_with fail
         go_roundw
         case rel=>exact⟨j+1,_,wk,by omega,by go_num,I6.out,S6.out,by rw[HE.out,HDJ.out,HPE.out,if_pos trivial,if_pos trivial],B6.out,hz7⟩
         case measure=>simp[intOf];omega
      ·have qo:(op==1)=false:=by simpa using ho1
       have HO1n:=hid ho1
       have bd:Below wr.heap.size wr (wr.alloc (.cells #[.int .i64 (ob:Int),.int .i64 op,.int .i64 ke,.int .i64 va,.int .i64 re,.int .i64 go,.int .i64 at_,.int .i64 ba] 112)):=(Below.refl _ wr).alloc (Nat.le_refl _) _
       have rd8:=row_new wr (.cells #[.int .i64 (ob:Int),.int .i64 op,.int .i64 ke,.int .i64 va,.int .i64 re,.int .i64 go,.int .i64 at_,.int .i64 ba] 112)
       have BD:=hid bd
       have RD8:=hid rd8
       have HId:=hid (HI.out.obj (bd.block _ hIl))
       have HSd:=hid (HS.out.obj (bd.block _ hSl))
       have hzd:(wr.alloc (.cells #[.int .i64 (ob:Int),.int .i64 op,.int .i64 ke,.int .i64 va,.int .i64 re,.int .i64 go,.int .i64 at_,.int .i64 ba] 112)).heap.size=wr.heap.size+1:=by simp
       have HZd:=hid hzd
       have y:=row_cell rd8
       have y0:=y 0
       have y1:=y 1
       have y2:=y 2
       have y3:=y 3
       have y4:=y 4
       have y5:=y 5
       have y6:=y 6
       have y7:=y 7
       simp at y0 y1 y2 y3 y4 y5 y6 y7
       have yl:=row_lt rd8
       clear y rd8 bd hzd
       clear ho1
       have hne7:((wr.alloc (.cells #[.int .i64 (ob:Int),.int .i64 op,.int .i64 ke,.int .i64 va,.int .i64 re,.int .i64 go,.int .i64 at_,.int .i64 ba] 112)).alloc (.cells #[.int .i64 (ob:Int),.int .i64 va] 157)).heap.size=wr.heap.size+2:=by simp
       have b7:Below wr.heap.size wr ((wr.alloc (.cells #[.int .i64 (ob:Int),.int .i64 op,.int .i64 ke,.int .i64 va,.int .i64 re,.int .i64 go,.int .i64 at_,.int .i64 ba] 112)).alloc (.cells #[.int .i64 (ob:Int),.int .i64 va] 157)):=BD.out.alloc (by simp) _
       have R7:=hid (show((wr.alloc (.cells #[.int .i64 (ob:Int),.int .i64 op,.int .i64 ke,.int .i64 va,.int .i64 re,.int .i64 go,.int .i64 at_,.int .i64 ba] 112)).alloc (.cells #[.int .i64 (ob:Int),.int .i64 va] 157)).heap[wr.heap.size]?=_ from row_below RD8.out ((Below.refl _ _).alloc (Nat.le_refl _) _) (by have:=HZd.out;omega))
       have C7:=hid (show((wr.alloc (.cells #[.int .i64 (ob:Int),.int .i64 op,.int .i64 ke,.int .i64 va,.int .i64 re,.int .i64 go,.int .i64 at_,.int .i64 ba] 112)).alloc (.cells #[.int .i64 (ob:Int),.int .i64 va] 157)).heap[wr.heap.size+1]?=some (.cells #[.int .i64 (ob:Int),.int .i64 va] 157 (0,0)) by have:=row_new (wr.alloc (.cells #[.int .i64 (ob:Int),.int .i64 op,.int .i64 ke,.int .i64 va,.int .i64 re,.int .i64 go,.int .i64 at_,.int .i64 ba] 112)) (.cells #[.int .i64 (ob:Int),.int .i64 va] 157);rw[HZd.out] at this;exact this)
       have B7:=hid b7
       have HZ7:=hid hne7
       have I7:=hid (HI.out.obj (b7.block _ hIl))
       have S7:=hid (HS.out.obj (b7.block _ hSl))
       have HIl:=hid hIl
       have HSl:=hid hSl
       have Z7:=hid (cell_below b7 zl z0)
       have K7:=hid (cell_below b7 hbow k1)
       have EV7:=hid (cell_below b7 hgl EVi)
       clear b7 hne7
       go_wp2_with fail
       generalize ((wr.alloc (.cells #[.int .i64 (ob:Int),.int .i64 op,.int .i64 ke,.int .i64 va,.int .i64 re,.int .i64 go,.int .i64 at_,.int .i64 ba] 112)).alloc (.cells #[.int .i64 (ob:Int),.int .i64 va] 157))=W7 at *
       clear c0 c1 c2 c3 c4 c5 c6 c7 k0 k1 y0 y1 y2 y3 y4 y5 y6 y7 yl z0 EVi
       have y:=row_cell R7.out
       have y0:=y 0
       have y3:=y 3
       have yc:=row_cell C7.out
       have yc0:=yc 0
       have yc1:=yc 1
       simp at y0 y3 yc0 yc1
       have z0:=Z7.out
       have k1:=K7.out
       have EVi:=EV7.out
       have hz7:=HZ7.out
       have yl:wr.heap.size < W7.heap.size:=by omega
       have ycl:wr.heap.size+1 < W7.heap.size:=by omega
       have hobW:bo < W7.heap.size:=by omega
       have hwW:w.heap.size < W7.heap.size:=by omega
       have hgW:6 < W7.heap.size:=by omega
       have hI7l:nb+1 < W7.heap.size:=by omega
       have hS7l:W1.heap.size < W7.heap.size:=by omega
       clear y yc hz7
       have LR:=hid (fun(X:World) (hX:X.heap[nb+1]?=W7.heap[nb+1]?)=>(I7.out.obj hX).look (ob:Int))
       have LW:=hid (fun(X:World) (hX:X.heap[W1.heap.size]?=W7.heap[W1.heap.size]?)=>(S7.out.obj hX).look ⟨((ob:Int),va),HCk.out⟩)
       by_cases hr:(ob:Int) ∈ rd
       ·have E1:=hid (show decide ((ob:Int) ∈ rd)=true by simpa using hr)
        have HR1:=hid hr
        clear hr
        by_cases hw:((ob:Int),va) ∈ wk
        ·have E2:=hid (show decide (((ob:Int),va) ∈ wk)=true by simpa using hw)
         have HW1:=hid hw
         clear hw
         refine wp_rN (W7.heap.size) [0,0,1,1,0,0,0,1,1,0,0,0,1,0,1,0,0,1,0,1,0,0] (.fin [0,1,2,3,4,5,6,7,8,9,10,11,12,13,14,15,16,17,18,19,20,21]) (by kernel_rfl) ?_
         simp only[wpT,selX,guardAt,sD,sE,sF,sG,Option.bind_some]
         repeat first|(refine wpL_p fun K hK=>?_;go_simp;refine hK _ _ ?_;clear hK K)|(apply wpL_s;(intro w2 hw2;have hk1:=hw2.cell;have hk3:=hw2.1;clear hw2;go_simp;with_reducible rfl);simp only[Act.put,sA,sB,sC])
         refine wpL_r (fun K hK=>?_)
         refine⟨.bool true,fun w2 hw2=>?_,?_⟩
         ·have lk:=LR.out w2 (hw2.2 (nb+1) hI7l)
          rw[E1.out] at lk
          go_simp
         refine hK _ _ ?_
         clear hK K
         repeat first|(refine wpL_p fun K hK=>?_;go_simp;refine hK _ _ ?_;clear hK K)|(apply wpL_s;(intro w2 hw2;have hk1:=hw2.cell;have hk3:=hw2.1;clear hw2;go_simp;with_reducible rfl);simp only[Act.put,sA,sB,sC])|refine wpL_yes rfl rfl ?_
         refine wpL_r (fun K hK=>?_)
         refine⟨.bool true,fun w2 hw2=>?_,?_⟩
         ·have lk:=LW.out w2 (hw2.2 W1.heap.size hS7l)
          unfold ckV at lk
          rw[E2.out] at lk
          go_simp
         refine hK _ _ ?_
         clear hK K
         repeat first|(refine wpL_p fun K hK=>?_;go_simp;refine hK _ _ ?_;clear hK K)|(apply wpL_s;(intro w2 hw2;have hk1:=hw2.cell;have hk3:=hw2.1;clear hw2;go_simp;with_reducible rfl);simp only[Act.put,sA,sB,sC])|refine wpL_yes rfl rfl ?_|(refine wpL_no rfl rfl fun K hK=>?_;simp only[Act.put,sA,sB,sC];refine hK _ _ ?_;clear hK K)|(refine wpL_un rfl fun K hK=>?_;simp only[Act.put,sA,sB,sC];refine hK _ _ ?_;clear hK K)|refine wpL_nil ?_
         go_wp2_with fail
         refine wp_rN (W7.heap.size) [1,0,0] (.fin [0,1,2]) (by kernel_rfl) ?_
         simp only[wpT,selX,guardAt,sD,sE,sF,sG]
         repeat first|(refine wpL_p fun K hK=>?_;go_simp;refine hK _ _ ?_;clear hK K)|(apply wpL_s;(intro w2 hw2;have hk1:=hw2.cell;have hk3:=hw2.1;clear hw2;go_simp;with_reducible rfl);simp only[Act.put,sA,sB,sC])|refine wpL_nil ?_
         go_wp2_with fail
         refine bodyPost_ret (v:=.tuple #[.slice none 0 0,.iface t0 v0]) (by simp[results,Tryz.results43,go_sem]) rfl ?_
         have hno:premR os (some A)=none:=by
          show(if premA os [] A=true then some A else none)=none
          rw[if_neg]
          rw[HP.out,HDK.out,premA,HDS.out,HE.out,HDJ.out]
          rw[HPE.out,if_pos trivial,if_neg HO1n.out,if_neg (fun h=>h.2.1 HW1.out)];simp
         rw[←HR.out,hno]
         exact⟨⟨_,_,rfl⟩,((BA.out.trans (B7.out.mono (by have:=BA.out.size;omega))).drew).drew⟩
        ·have E2:=hid (show decide (((ob:Int),va) ∈ wk)=false by simpa using hw)
         have HW1:=hid hw
         clear hw
         by_cases hi:ini=va
         ·have qi:(ini==va)=true:=by simpa using hi
          have HIN:=hid hi
          clear hi
          refine wp_rN (W7.heap.size) [0,0,1,1,0,0,0,1,1,0,0,0,1,0,1,0,0,1,0,1,0,0] (.fin [0,1,2,3,4,5,6,7,8,9,10,11,12,13,14,15,16,17,18,19,20,21]) (by kernel_rfl) ?_
          simp only[wpT,selX,guardAt,sD,sE,sF,sG,Option.bind_some]
          repeat first|(refine wpL_p fun K hK=>?_;go_simp;refine hK _ _ ?_;clear hK K)|(apply wpL_s;(intro w2 hw2;have hk1:=hw2.cell;have hk3:=hw2.1;clear hw2;go_simp;with_reducible rfl);simp only[Act.put,sA,sB,sC])
          refine wpL_r (fun K hK=>?_)
          refine⟨.bool true,fun w2 hw2=>?_,?_⟩
          ·have lk:=LR.out w2 (hw2.2 (nb+1) hI7l)
           rw[E1.out] at lk
           go_simp
          refine hK _ _ ?_
          clear hK K
          repeat first|(refine wpL_p fun K hK=>?_;go_simp;refine hK _ _ ?_;clear hK K)|(apply wpL_s;(intro w2 hw2;have hk1:=hw2.cell;have hk3:=hw2.1;clear hw2;go_simp;with_reducible rfl);simp only[Act.put,sA,sB,sC])|refine wpL_yes rfl rfl ?_
          refine wpL_r (fun K hK=>?_)
          refine⟨.bool false,fun w2 hw2=>?_,?_⟩
          ·have lk:=LW.out w2 (hw2.2 W1.heap.size hS7l)
           unfold ckV at lk
           rw[E2.out] at lk
           go_simp
          refine hK _ _ ?_
          clear hK K
          repeat first|(refine wpL_p fun K hK=>?_;go_simp;refine hK _ _ ?_;clear hK K)|(apply wpL_s;(intro w2 hw2;have hk1:=hw2.cell;have hk3:=hw2.1;clear hw2;go_simp;with_reducible rfl);simp only[Act.put,sA,sB,sC])|refine wpL_yes rfl rfl ?_|(refine wpL_no rfl rfl fun K hK=>?_;simp only[Act.put,sA,sB,sC];refine hK _ _ ?_;clear hK K)|(refine wpL_un rfl fun K hK=>?_;simp only[Act.put,sA,sB,sC];refine hK _ _ ?_;clear hK K)|refine wpL_nil ?_
          go_wp2_with fail
          refine wp_rN (W7.heap.size) [1,0,0] (.fin [0,1,2]) (by kernel_rfl) ?_
          simp only[wpT,selX,guardAt,sD,sE,sF,sG]
          repeat first|(refine wpL_p fun K hK=>?_;go_simp;refine hK _ _ ?_;clear hK K)|(apply wpL_s;(intro w2 hw2;have hk1:=hw2.cell;have hk3:=hw2.1;clear hw2;go_simp;with_reducible rfl);simp only[Act.put,sA,sB,sC])|refine wpL_nil ?_
          go_wp2_with fail
          refine bodyPost_ret (v:=.tuple #[.slice none 0 0,.iface t0 v0]) (by simp[results,Tryz.results43,go_sem]) rfl ?_
          have hno:premR os (some A)=none:=by
           show(if premA os [] A=true then some A else none)=none
           rw[if_neg]
           rw[HP.out,HDK.out,premA,HDS.out,HE.out,HDJ.out]
           rw[HPE.out,if_pos trivial,if_neg HO1n.out,if_neg (fun h=>h.2.2 HIN.out)];simp
          rw[←HR.out,hno]
          exact⟨⟨_,_,rfl⟩,((BA.out.trans (B7.out.mono (by have:=BA.out.size;omega))).drew).drew⟩
         ·have qi:(ini==va)=false:=by simpa using hi
          have HIN:=hid hi
          clear hi
          refine wp_rN (W7.heap.size) [0,0,1,1,0,0,0,1,1,0,0,0,1,0,1,0,0,1,0,1,0,0] (.fin [0,1,2,3,4,5,6,7,8,9,10,11,12,13,14,15,16,17,18,19,20,21]) (by kernel_rfl) ?_
          simp only[wpT,selX,guardAt,sD,sE,sF,sG,Option.bind_some]
          repeat first|(refine wpL_p fun K hK=>?_;go_simp;refine hK _ _ ?_;clear hK K)|(apply wpL_s;(intro w2 hw2;have hk1:=hw2.cell;have hk3:=hw2.1;clear hw2;go_simp;with_reducible rfl);simp only[Act.put,sA,sB,sC])
          refine wpL_r (fun K hK=>?_)
          refine⟨.bool true,fun w2 hw2=>?_,?_⟩
          ·have lk:=LR.out w2 (hw2.2 (nb+1) hI7l)
           rw[E1.out] at lk
           go_simp
          refine hK _ _ ?_
          clear hK K
          repeat first|(refine wpL_p fun K hK=>?_;go_simp;refine hK _ _ ?_;clear hK K)|(apply wpL_s;(intro w2 hw2;have hk1:=hw2.cell;have hk3:=hw2.1;clear hw2;go_simp;with_reducible rfl);simp only[Act.put,sA,sB,sC])|refine wpL_yes rfl rfl ?_
          refine wpL_r (fun K hK=>?_)
          refine⟨.bool false,fun w2 hw2=>?_,?_⟩
          ·have lk:=LW.out w2 (hw2.2 W1.heap.size hS7l)
           unfold ckV at lk
           rw[E2.out] at lk
           go_simp
          refine hK _ _ ?_
          clear hK K
          repeat first|(refine wpL_p fun K hK=>?_;go_simp;refine hK _ _ ?_;clear hK K)|(apply wpL_s;(intro w2 hw2;have hk1:=hw2.cell;have hk3:=hw2.1;clear hw2;go_simp;with_reducible rfl);simp only[Act.put,sA,sB,sC])|refine wpL_yes rfl rfl ?_|(refine wpL_no rfl rfl fun K hK=>?_;simp only[Act.put,sA,sB,sC];refine hK _ _ ?_;clear hK K)|(refine wpL_un rfl fun K hK=>?_;simp only[Act.put,sA,sB,sC];refine hK _ _ ?_;clear hK K)|refine wpL_nil ?_
          go_wp2_with (at_mapUpdate;refine Stop.halt ?_)
          refine Stop.go ?_
          obtain⟨MwV,hMw,hMw2⟩:=S7.out
          refine hMw.drew.wpList_store ck Tryz.underlying180 (a:=⟨((ob:Int),va),HCk.out⟩) (v:=.bool true) rfl rfl (by rfl) (by rfl) (by rfl) ?_
          intro w8 hM8 t8
          have z8:=turned_size (w:=W7.drew) t8
          have S8:=hid (CkSet.put hM8 hMw2)
          have I8:=hid (I7.out.obj (turned_other (w:=W7.drew) t8 (by omega)))
          have B8:=hid ((HB.out.trans (B7.out.mono hz1i)).drew.trans (Below.turned t8 (Nat.le_refl _)))
          have hz9:nb+1 < w8.heap.size:=by have:W7.drew.heap.size=W7.heap.size:=rfl;omega
          clear t8 hM8 hMw hMw2
          go_wp2_with fail
          go_roundw
          case rel=>exact⟨j+1,rd,_,by omega,by go_num,I8.out,S8.out,by rw[HE.out,HDJ.out,HPE.out,if_pos trivial,if_neg HO1n.out,if_pos ⟨HR1.out,HW1.out,HIN.out⟩],B8.out,hz9⟩
          case measure=>simp[intOf];omega
       ·have E1:=hid (show decide ((ob:Int) ∈ rd)=false by simpa using hr)
        have HR1:=hid hr
        clear hr
        refine wp_rN (W7.heap.size) [0,0,1,1,0,0,0,1,1,0,0,0,1,0,1,0,0,1,0,1,0,0] (.fin [0,1,2,3,4,5,6,7,8,9,10,11,12,13,14,15,16,17,18,19,20,21]) (by kernel_rfl) ?_
        simp only[wpT,selX,guardAt,sD,sE,sF,sG,Option.bind_some]
        repeat first|(refine wpL_p fun K hK=>?_;go_simp;refine hK _ _ ?_;clear hK K)|(apply wpL_s;(intro w2 hw2;have hk1:=hw2.cell;have hk3:=hw2.1;clear hw2;go_simp;with_reducible rfl);simp only[Act.put,sA,sB,sC])
        refine wpL_r (fun K hK=>?_)
        refine⟨.bool false,fun w2 hw2=>?_,?_⟩
        ·have lk:=LR.out w2 (hw2.2 (nb+1) hI7l)
         rw[E1.out] at lk
         go_simp
        refine hK _ _ ?_
        clear hK K
        repeat first|(refine wpL_p fun K hK=>?_;go_simp;refine hK _ _ ?_;clear hK K)|(apply wpL_s;(intro w2 hw2;have hk1:=hw2.cell;have hk3:=hw2.1;clear hw2;go_simp;with_reducible rfl);simp only[Act.put,sA,sB,sC])|refine wpL_yes rfl rfl ?_|(refine wpL_no rfl rfl fun K hK=>?_;simp only[Act.put,sA,sB,sC];refine hK _ _ ?_;clear hK K)|(refine wpL_un rfl fun K hK=>?_;simp only[Act.put,sA,sB,sC];refine hK _ _ ?_;clear hK K)|refine wpL_nil ?_
        go_wp2_with fail
        refine wp_rN (W7.heap.size) [1,0,0] (.fin [0,1,2]) (by kernel_rfl) ?_
        simp only[wpT,selX,guardAt,sD,sE,sF,sG]
        repeat first|(refine wpL_p fun K hK=>?_;go_simp;refine hK _ _ ?_;clear hK K)|(apply wpL_s;(intro w2 hw2;have hk1:=hw2.cell;have hk3:=hw2.1;clear hw2;go_simp;with_reducible rfl);simp only[Act.put,sA,sB,sC])|refine wpL_nil ?_
        go_wp2_with fail
        refine bodyPost_ret (v:=.tuple #[.slice none 0 0,.iface t0 v0]) (by simp[results,Tryz.results43,go_sem]) rfl ?_
        have hno:premR os (some A)=none:=by
         show(if premA os [] A=true then some A else none)=none
         rw[if_neg]
         rw[HP.out,HDK.out,premA,HDS.out,HE.out,HDJ.out]
         rw[HPE.out,if_pos trivial,if_neg HO1n.out,if_neg (fun h=>HR1.out h.1)];simp
        rw[←HR.out,hno]
        exact⟨⟨_,_,rfl⟩,((BA.out.trans (B7.out.mono (by have:=BA.out.size;omega))).drew).drew⟩
     ·have qk:(kd !=1)=true:=by simpa using hk1
      have HK1:=hid hk1
      have bd:Below wr.heap.size wr (wr.alloc (.cells #[.int .i64 (ob:Int),.int .i64 op,.int .i64 ke,.int .i64 va,.int .i64 re,.int .i64 go,.int .i64 at_,.int .i64 ba] 112)):=(Below.refl _ wr).alloc (Nat.le_refl _) _
      have rd8:=row_new wr (.cells #[.int .i64 (ob:Int),.int .i64 op,.int .i64 ke,.int .i64 va,.int .i64 re,.int .i64 go,.int .i64 at_,.int .i64 ba] 112)
      have BD:=hid bd
      have RD8:=hid rd8
      have HId:=hid (HI.out.obj (bd.block _ hIl))
      have HSd:=hid (HS.out.obj (bd.block _ hSl))
      have hzd:(wr.alloc (.cells #[.int .i64 (ob:Int),.int .i64 op,.int .i64 ke,.int .i64 va,.int .i64 re,.int .i64 go,.int .i64 at_,.int .i64 ba] 112)).heap.size=wr.heap.size+1:=by simp
      have HZd:=hid hzd
      have y:=row_cell rd8
      have y0:=y 0
      have y1:=y 1
      have y2:=y 2
      have y3:=y 3
      have y4:=y 4
      have y5:=y 5
      have y6:=y 6
      have y7:=y 7
      simp at y0 y1 y2 y3 y4 y5 y6 y7
      have yl:=row_lt rd8
      clear y rd8 bd hzd
      clear hk1
      go_wp2_with fail
      have EVd:=cell_below BD.out hgl EVi
      generalize wr.alloc (.cells #[.int .i64 (ob:Int),.int .i64 op,.int .i64 ke,.int .i64 va,.int .i64 re,.int .i64 go,.int .i64 at_,.int .i64 ba] 112)=W6 at *
      have hgl6:6 < W6.heap.size:=by have:=HZd.out;omega
      refine wp_rN (W6.heap.size) [1,0,0] (.fin [0,1,2]) (by kernel_rfl) ?_
      simp only[wpT,selX,guardAt,sD,sE,sF,sG]
      repeat first|(refine wpL_p fun K hK=>?_;go_simp;refine hK _ _ ?_;clear hK K)|(apply wpL_s;(intro w2 hw2;have hk1:=hw2.cell;have hk3:=hw2.1;clear hw2;go_simp;with_reducible rfl);simp only[Act.put,sA,sB,sC])|refine wpL_nil ?_
      go_wp2_with fail
      refine bodyPost_ret (v:=.tuple #[.slice none 0 0,.iface t0 v0]) (by simp[results,Tryz.results43,go_sem]) rfl ?_
      have hno:premR os (some A)=none:=by
       show(if premA os [] A=true then some A else none)=none
       rw[if_neg]
       rw[HP.out,HDK.out,premA,HDS.out,HE.out,HDJ.out]
       rw[HPE.out,if_neg HK1.out];simp
      rw[←HR.out,hno]
      exact⟨⟨_,_,rfl⟩,(BA.out.trans (BD.out.mono (by have:=BA.out.size;omega))).drew⟩
    ·obtain rfl:j=ds.length:=by omega
     have hq:decide ((ds.length:Int) < (ds.length:Int))=false:=by simp
     have hend:premO os [] wl ds=some wk:=by rw[HE.out,List.drop_length];rfl
     have HEND:=hid hend
     clear hend
     go_wp2_with fail
     go_roundw
     case rel=>exact⟨k+1,wk,by omega,by go_num,HS.out,by rw[HP.out,HDK.out,premA,HDS.out,HEND.out],HB.out,by omega⟩
     case measure=>simp[intOf];omega
  ·obtain rfl:k=rs.length:=by omega
   have hq:decide ((rs.length:Int) < (rs.length:Int))=false:=by simp
   have hyes:premA os [] A=true:=by rw[HP.out,List.drop_of_length_le (by have:=HRL.out;omega)];rfl
   have HYES:=hid hyes
   clear hyes
   go_wp2_with fail
   refine bodyPost_ret (v:=.tuple #[.slice at1 rs.length ct1,.nilIface]) (by simp[results,Tryz.results43,go_sem]) rfl ?_
   have hall:premR os (some A)=some A:=by
    show(if premA os [] A=true then some A else none)=some A
    rw[if_pos HYES.out]
   rw[←HR.out,hall]
   refine⟨_,rfl,⟨rs,OwnF.base (OwnF.below O1.out HB.out) (by have:=B0.out.size;omega),HRL.out,fun i r s hr hs=>?_⟩,B1.out.trans (HB.out.mono (by have:=B1.out.size;omega))⟩
   have:=HRC.out i r s hr hs
   exact⟨this.1,OwnF.base (OwnF.below this.2 HB.out) (by have:=B0.out.size;omega)⟩
end
section
attribute [local irreducible] wpL
theorem p_same (ob:Int) {w:World} {q:Option Nat} {nb:Nat} {cs:Array Value} (hr:w.heap[nb]?=some (.cells cs 112 (0,0))) (hc:w.cell? ⟨nb,0,none⟩=some (.int .i64 ob)) (hq:q≠some nb) {L:Dd→Prop}:
  PredP Tryz.prog 108 #[.pointer (some ⟨nb,0,none⟩)] (fun d:Dd=>.agg d.cells.toArray) (fun d=>d.obj==ob) L w q:=by
 intro W x _ hg
 have hl:=row_lt hr
 have e:=hg.block nb hl fun h=>hq h.symm
 have hc':W.cell? ⟨nb,0,none⟩=some (.int .i64 ob):=by
  rw[←hc]
  simp only[World.cell?,e]
 have hlW:nb < W.heap.size:=Nat.lt_of_lt_of_le hl hg.size
 obtain⟨o,op,ke,va,re,go,at_,ba⟩:=x
 have b0:Below W.heap.size W (W.alloc (.cells #[.int .i64 o,.int .i64 op,.int .i64 ke,.int .i64 va,.int .i64 re,.int .i64 go,.int .i64 at_,.int .i64 ba] 112)):=(Below.refl _ W).alloc (Nat.le_refl _) _
 have B0:=hid b0
 obtain⟨r,hrr⟩:∃r:Bool,(o==ob)=r:=⟨_,rfl⟩
 have ea:∀a b:Value,(#[a]++#[b]:Array Value)=#[a,b]:=fun a b=>by simp
 rw[ea]
 simp only[Dd.cells]
 clear ea
 show Calls _ _ _ W fun e w'=>e=.returned (.bool (o==ob))∧Below W.heap.size W w'
 rw[hrr]
 clear e hg hc hr b0 hl
 trace_state
 go_enter Tryz.func108,Tryz.ntmps108
 go_wp2
 go_ret
 exact⟨rfl,B0.out⟩
theorem writesF_len (l:List Dd):(writesF l).length≤l.length:=by
 induction l using snoc_ind with
 |h0=>exact Nat.le_refl _
 |h1 l d ih=>
  rw[writesF_snoc,List.length_append,List.length_singleton]
  split
  ·rw [List.length_append,List.length_singleton]
   have:=List.length_filter_le (fun o:Dd=>o.obj !=d.obj) (writesF l)
   omega
  ·omega
theorem p_Writes (i th st be fi tr:Int) (dv:Value) (l:List Dd) (w:World) (hd:Sl w w.heap.size 8 dv l.length (l.flatMap Dd.cells)) (hl:l.length≤400):
  Calls Tryz.prog 65 #[.agg #[.int .i64 i,.int .i64 th,.int .i64 st,.int .i64 be,.int .i64 fi,.int .i64 tr,dv]] w fun e w'=>∃v,e=.returned v∧OwnD w' w.heap.size v (writesF l)∧Below w.heap.size w w':=by
 obtain⟨ad,cd,rfl,md⟩:=hd.ex
 have HD:=hid hd
 clear hd md
 go_enter Tryz.func65,Tryz.ntmps65
 go_wp2_with fail
 have B0:=hid (show Below w.heap.size w (w.alloc (.cells #[.int .i64 i,.int .i64 th,.int .i64 st,.int .i64 be,.int .i64 fi,.int .i64 tr,.slice ad l.length cd] 49)) from(Below.refl _ w).alloc (Nat.le_refl _) _)
 generalize w.alloc (.cells #[.int .i64 i,.int .i64 th,.int .i64 st,.int .i64 be,.int .i64 fi,.int .i64 tr,.slice ad l.length cd] 49)=W at *
 go_loopw [3,9] (fun q p wr=>∃(k:Nat),k≤l.length∧p=.int .i64 k∧OwnD wr w.heap.size q (writesF (l.take k))∧Below w.heap.size w wr) (fun _ p _=>l.length - (intOf p).toNat)
 case atStart=>exact⟨0,by omega,by go_num,OwnF.nil _ _,B0.out⟩
 case round=>
  obtain⟨k,hk,rfl,qo,qb⟩:=hrel
  clear B0 W
  have hsz:=qb.size
  obtain⟨X,hX⟩:∃X,writesF (l.take k)=X:=⟨_,rfl⟩
  rw[hX] at qo
  obtain⟨aq,cq,rfl⟩:=OwnF.sli qo
  have HXX:=hid hX
  have QO:=hid qo
  have QB:=hid qb
  clear qo qb hX
  by_cases hlt:k < l.length
  ·obtain ⟨b,off,d,rfl,hb,hdk,hc⟩:=HD.out.atF Dd.len rfl hlt
   have HR:=hid (show writesF (l.take (k+1))=if d.op=2∧d.ret=1 then X.filter (fun o=>o.obj !=d.obj)++[d] else X by
    rw[List.take_add_one,hdk,Option.toList_some,writesF_snoc,HXX.out])
   have hXl:X.length≤400:=by
    rw[←HXX.out]
    exact Nat.le_trans (writesF_len _) (by rw[List.length_take];omega)
   obtain⟨ob,op,ke,va,re,go,at_,ba⟩:=d
   have c0:wr.cell? ⟨b,off+k*8,none⟩=some (.int .i64 ob):=cell_below QB.out hb (hc 0 (by decide))
   have c1:wr.cell? ⟨b,off+k*8+1,none⟩=some (.int .i64 op):=cell_below QB.out hb (hc 1 (by decide))
   have c2:wr.cell? ⟨b,off+k*8+2,none⟩=some (.int .i64 ke):=cell_below QB.out hb (hc 2 (by decide))
   have c3:wr.cell? ⟨b,off+k*8+3,none⟩=some (.int .i64 va):=cell_below QB.out hb (hc 3 (by decide))
   have c4:wr.cell? ⟨b,off+k*8+4,none⟩=some (.int .i64 re):=cell_below QB.out hb (hc 4 (by decide))
   have c5:wr.cell? ⟨b,off+k*8+5,none⟩=some (.int .i64 go):=cell_below QB.out hb (hc 5 (by decide))
   have c6:wr.cell? ⟨b,off+k*8+6,none⟩=some (.int .i64 at_):=cell_below QB.out hb (hc 6 (by decide))
   have c7:wr.cell? ⟨b,off+k*8+7,none⟩=some (.int .i64 ba):=cell_below QB.out hb (hc 7 (by decide))
   have hbw:b < wr.heap.size:=by omega
   have b3:Below wr.heap.size wr (wr.alloc (.cells #[.int .i64 ob,.int .i64 op,.int .i64 ke,.int .i64 va,.int .i64 re,.int .i64 go,.int .i64 at_,.int .i64 ba] 112)):=(Below.refl _ wr).alloc (Nat.le_refl _) _
   have r3:=row_new wr (.cells #[.int .i64 ob,.int .i64 op,.int .i64 ke,.int .i64 va,.int .i64 re,.int .i64 go,.int .i64 at_,.int .i64 ba] 112)
   have QO3:=hid (OwnF.below QO.out b3)
   have B3:=hid (QB.out.trans (b3.mono hsz))
   have hz3:(wr.alloc (.cells #[.int .i64 ob,.int .i64 op,.int .i64 ke,.int .i64 va,.int .i64 re,.int .i64 go,.int .i64 at_,.int .i64 ba] 112)).heap.size=wr.heap.size+1:=by simp
   have HZ3:=hid (show w.heap.size≤(wr.alloc (.cells #[.int .i64 ob,.int .i64 op,.int .i64 ke,.int .i64 va,.int .i64 re,.int .i64 go,.int .i64 at_,.int .i64 ba] 112)).heap.size by omega)
   have hne3:(Value.slice aq X.length cq).ownBlock≠some wr.heap.size:=fun e=>absurd (OwnF.lt QO.out _ e).2 (Nat.lt_irrefl _)
   have z0:(wr.alloc (.cells #[.int .i64 ob,.int .i64 op,.int .i64 ke,.int .i64 va,.int .i64 re,.int .i64 go,.int .i64 at_,.int .i64 ba] 112)).cell? ⟨wr.heap.size,0,none⟩=some (.int .i64 ob):=row_cell r3 0
   have y:=row_cell r3
   have y0:=y 0
   have y1:=y 1
   have y4:=y 4
   simp at y0 y1 y4
   have yl:=row_lt r3
   have R3:=hid r3
   have DP:=hid (dd_Delete _ QO3.out hXl (enters_of Tryz.func108 (by kernel_rfl) rfl) (p_same ob r3 z0 hne3 (L:=(· ∈ X))))
   clear hc hdk y r3 b3 z0
   by_cases e1:op=2
   ·subst e1
    by_cases e4:re=1
    ·subst e4
     go_wp2_with fail
     generalize wr.alloc (.cells #[.int .i64 ob,.int .i64 2,.int .i64 ke,.int .i64 va,.int .i64 1,.int .i64 go,.int .i64 at_,.int .i64 ba] 112)=W3 at *
     refine(DP.out).mono ?_
     rintro e W4 ⟨v4,rfl,o4,G4⟩
     obtain⟨a4,c4,rfl⟩:=OwnF.sli o4
     obtain⟨Y,hY⟩:∃Y,(X.filter fun x=>!(x.obj==ob))=Y:=⟨_,rfl⟩
     rw[hY] at o4 G4
     have hYl:Y.length≤400:=by rw[←hY];exact Nat.le_trans (List.length_filter_le _ _) hXl
     have HY:=hid hY
     have r4:W4.heap[wr.heap.size]?=some _:=row_grw R3.out G4 hne3
     have z4:=G4.size
     have O4:=hid o4
     have HZ4:=hid (show w.heap.size≤W4.heap.size by have:=HZ3.out;omega)
     have B4:=hid (B3.out.trans (G4.below (B:=w.heap.size) HZ3.out fun j hj=>(OwnF.lt QO3.out j hj).1))
     clear y0 y1 y4 yl DP hY
     have y:=row_cell r4
     have y0:=y 0
     have y1:=y 1
     have y2:=y 2
     have y3:=y 3
     have y4:=y 4
     have y5:=y 5
     have y6:=y 6
     have y7:=y 7
     simp at y0 y1 y2 y3 y4 y5 y6 y7
     have yl:=row_lt r4
     rw[show (X.filter fun x=>!(x.obj==ob)).length=Y.length by rw[HY.out]]
     clear y r4 o4 G4
     go_wp2_with (at_builtin;refine wpList_appF rfl _ _ _ rfl _ 64 Tryz.underlying47 infoDd rfl O4.out (⟨ob,2,ke,va,1,go,at_,ba⟩:Dd) HZ4.out (by rfl) (by rfl) (by first|rfl|simp) rfl (dd_one _) (by first|omega|(simp only[List.length_append,List.length_cons,List.length_nil,List.length_replicate];omega)) (by first|omega|(simp only[List.length_append,List.length_cons,List.length_nil,List.length_replicate];omega)) ?_;refine Stop.halt ?_)
     refine Stop.go ?_
     intro g5 c5 w5 o5 G5
     have O5:=hid o5
     have B5:=hid (B4.out.trans (G5.below (B:=w.heap.size) HZ4.out fun j hj=>(OwnF.lt O4.out j hj).1))
     clear o5 G5
     go_wp2_with fail
     go_roundw
     case rel=>
      refine⟨k+1,by omega,by go_num,?_,B5.out⟩
      have e:=HR.out
      rw[if_pos ⟨trivial,trivial⟩,show(X.filter fun o=>o.obj !=ob)=Y from HY.out] at e
      rw[e]
      exact O5.out
     case measure=>simp[intOf];omega
    ·have q4:(re !=1)=true:=by simpa using e4
     have HE:=hid e4
     clear e4
     go_wp2_with fail
     generalize wr.alloc (.cells #[.int .i64 ob,.int .i64 2,.int .i64 ke,.int .i64 va,.int .i64 re,.int .i64 go,.int .i64 at_,.int .i64 ba] 112)=W3 at *
     go_roundw
     case rel=>
      refine⟨k+1,by omega,by go_num,?_,B3.out⟩
      have e:=HR.out
      rw[if_neg (fun h=>HE.out h.2)] at e
      rw[e]
      exact QO3.out
     case measure=>simp[intOf];omega
   ·have q1:(op !=2)=true:=by simpa using e1
    have HE:=hid e1
    clear e1
    go_wp2_with fail
    generalize wr.alloc (.cells #[.int .i64 ob,.int .i64 op,.int .i64 ke,.int .i64 va,.int .i64 re,.int .i64 go,.int .i64 at_,.int .i64 ba] 112)=W3 at *
    go_roundw
    case rel=>
     refine⟨k+1,by omega,by go_num,?_,B3.out⟩
     have e:=HR.out
     rw[if_neg (fun h=>HE.out h.1)] at e
     rw[e]
     exact QO3.out
    case measure=>simp[intOf];omega
  ·obtain rfl:k=l.length:=by omega
   have e:=HXX.out
   rw[List.take_length] at e
   have hq:decide ((l.length:Int) < (l.length:Int))=false:=by simp
   have HE:=hid e
   clear e
   go_wp2
   go_ret
   exact⟨_,rfl,by rw[HE.out];exact QO.out,QB.out⟩
end
