/- Parts of the proof, merged by program out of 3 texts (ShU, ShV, ShW): the first: The automaton of well-formed histories: made; fed with a history. Conditions: those of each theorem, as typed. -/
import Derived.Test.YtkfhgifhfkcehaaGreatDoorQL26
set_option linter.unusedVariables false
set_option linter.unusedSimpArgs false
set_option linter.unusedSectionVars false
set_option maxRecDepth 100000
set_option maxHeartbeats 4000000
namespace Go.Proofs.YtkfhgifhfkcehaaGreatDoor
open Go.Maps Go.RowKit
section
attribute [local irreducible] wpL
theorem StAt.base {w:World} {B B':Nat} {p:Nat×Value} {s:St} (h:StAt w B p s) (hB:B'≤B):StAt w B' p s:=⟨h.row,Nat.le_trans hB h.hB,OwnF.base h.dds hB⟩
theorem AuAt.base {w:World} {B B' bA n:Nat} {os:List Ob} {A:Au} (h:AuAt w B bA os n A) (hB:B'≤B):AuAt w B' bA os n A:=by
 obtain⟨bY,bZ,ov,tv,bs,h⟩:=h
 exact⟨bY,bZ,ov,tv,bs,h.row,Nat.le_trans hB h.hB,OwnF.base h.obs hB,OwnF.base h.txs hB,h.len,fun k p s hp hs=>(h.sts k p s hp hs).base hB,h.nod,h.dis,⟨Nat.le_trans hB h.by_.1,h.by_.2⟩,⟨Nat.le_trans hB h.bz.1,h.bz.2⟩,h.ne⟩
theorem AuAt.below {w w':World} {B bA n:Nat} {os:List Ob} {A:Au} (h:AuAt w B bA os n A) (hb:Below w.heap.size w w'):AuAt w' B bA os n A:=by
 obtain⟨bY,bZ,ov,tv,bs,h⟩:=h
 exact⟨bY,bZ,ov,tv,bs,h.below hb⟩
theorem s_CloneO (v:Value) (os:List Ob) (w:World) (h:Sl w w.heap.size 2 v os.length (os.flatMap Ob.cells)) (hne:os≠[]) (hl:os.length≤8):
  Calls Tryz.prog 116 #[v] w fun e w'=>∃v',e=.returned v'∧OwnF Ob.cells 96 2 w' w.heap.size v' os∧Below w.heap.size w w':=by
 obtain⟨a,c,rfl,hm⟩:=h.ex
 obtain⟨b,off,rfl⟩:∃b off,a=some ⟨b,off,none⟩:=by
  obtain⟨a',c',hv,-,-,hc⟩:=h
  simp only[Value.slice.injEq] at hv
  obtain⟨rfl,-,-⟩:=hv
  obtain⟨b,off,hb,-⟩:=hc (List.length_pos_iff.2 hne)
  exact⟨b,off,hb⟩
 have H:=hid h
 have b0:Below w.heap.size w (w.alloc (.cells #[] 96)):=(Below.refl _ w).alloc (Nat.le_refl _) _
 have ow:OwnF Ob.cells 96 2 (w.alloc (.cells #[] 96)) w.heap.size (.slice (some ⟨w.heap.size,0,none⟩) 0 0) []:=OwnF.lit (f:=Ob.cells) w w.heap.size (Nat.le_refl _) [] Ob.len (by decide)
 have hs:=h.alloc (Nat.le_refl _) (.cells #[] 96)
 have OW:=hid ow
 have HS:=hid hs
 have B0:=hid b0
 clear h b0 ow hs
 have heq:∀X,Sem.run Tryz.prog (binOp BinOp.eql 34 (.slice (some ⟨b,off,none⟩) os.length c) (.slice none 0 0)) X=.ok (.bool false) X:=fun X=>by kernel_rfl
 go_enter Tryz.func116,Tryz.ntmps116
 go_wp2_with (at_builtin;refine wpList_appA rfl _ _ _ rfl _ 16 Tryz.underlying34 infoO rfl OW.out os rfl HS.out (by first|omega|(simp <;> omega)) rfl rfl Ob.len ob_one (by first|omega|(simp <;> omega)) (by first|omega|(simp <;> omega)) ?_;refine Stop.halt ?_)
 refine Stop.go ?_
 intro v' w' o2 g2
 have b2:=B0.out.trans (g2.below B0.out.size fun k h=>(OW.out.lt k h).1)
 have O2:=hid o2
 have B2:=hid b2
 clear o2 g2 b2 heq
 obtain⟨av,cv,rfl,-⟩:∃a c,v'=.slice a os.length c∧True:=by
  rcases OwnF.form O2.out with⟨h1,h2⟩|⟨g,cap,h1,-⟩
  ·exact ⟨_,_,by rw[h1,h2];rfl,trivial⟩
  ·exact ⟨_,_,h1,trivial⟩
 go_wp2
 go_ret
 exact⟨_,rfl,O2.out,B2.out⟩
theorem sh_New (v:Value) (os:List Ob) (w:World) (h:Sl w w.heap.size 2 v os.length (os.flatMap Ob.cells)) (hne:os≠[]) (hr:RegOk os) (hW:WordsAt w):
  Calls Tryz.prog 69 #[v] w fun e w'=>∃bA,e=.returned (.tuple #[.pointer (some ⟨bA,0,none⟩),.nilIface])∧AuAt w' w.heap.size bA os 0 []∧Below w.heap.size w w':=by
 obtain⟨a,c,rfl,hm⟩:=h.ex
 have hmk:∀X:World,Sem.run Tryz.prog (Instr.makeMap 146 none) X=.ok (.map (some X.heap.size)) (X.alloc (.map #[] 0)):=fun X=>by kernel_rfl
 have hv:=hid (h_Valid (.slice a os.length c) (.slice none 0 0) os [] w h ⟨none,0,rfl,by simp,by simp,fun h=>by simp at h⟩ hr (by simp) (fun e he=>(nomatch he)) hW)
 have H:=hid h
 have HR:=hid hr
 clear h hW hr
 go_enter Tryz.func69,Tryz.ntmps69
 go_wp2_with fail
 refine(hv.out).mono ?_
 rintro e W1 ⟨rfl,b1⟩
 have B1:=hid b1
 have hz1:=b1.size
 have hc:=hid (s_CloneO (.slice a os.length c) os W1 ((H.out.below b1).more hz1) hne HR.out.1)
 clear b1 hv
 go_wp2_with fail
 refine(hc.out).mono ?_
 rintro e W2 ⟨v',rfl,o2,b2⟩
 have hz2:=b2.size
 obtain⟨av,cv,rfl,-⟩:∃a c,v'=.slice a os.length c∧True:=by
  rcases OwnF.form o2 with⟨h1,h2⟩|⟨g,cap,h1,-⟩
  ·exact ⟨_,_,by rw[h1,h2];rfl,trivial⟩
  ·exact ⟨_,_,h1,trivial⟩
 have O2:=hid o2
 have B2:=hid b2
 clear o2 b2 hc
 go_wp2
 refine bodyPost_ret (v:=.tuple #[.pointer (some ⟨W2.heap.size+2,0,none⟩),.nilIface]) (by simp[results,Tryz.results69,go_sem]) rfl ?_
 have m1:=row_new W2 (.map #[] 0)
 have m2:=row_new' (w:=W2.alloc (.map #[] 0)) (o:=.map #[] 0) (g:=W2.heap.size+1) (by simp)
 have m3:=row_new' (w:=(W2.alloc (.map #[] 0)).alloc (.map #[] 0)) (o:=.cells #[.slice av os.length cv,.int .i64 0,.slice none 0 0,.map (some W2.heap.size),.map (some (W2.heap.size+1))] 148) (g:=W2.heap.size+2) (by simp)
 refine⟨W2.heap.size+2,rfl,⟨W2.heap.size,W2.heap.size+1,.slice av os.length cv,.slice none 0 0,[],?_⟩,?_⟩
 ·exact ⟨m3,by omega,OwnF.base (OwnF.alloc (OwnF.alloc (OwnF.alloc O2.out _) _) _) hz1,OwnF.nil _ _,rfl,fun k p s hp=>by simp at hp,List.nodup_nil,fun j k p q hp=>by simp at hp,
   ⟨by omega,_,RawM.made (row_old (row_old m1)),fun k p s hp=>by simp at hp,fun x _=>rfl⟩,⟨by omega,_,RawM.made (row_old m2),fun x _=>rfl⟩,by omega⟩
 ·have hb:=(B1.out.trans (B2.out.mono hz1))
  exact((hb.alloc (by omega) _).alloc (by simp;omega) _).alloc (by simp;omega) _
theorem feed_all {B bA n:Nat} {os:List Ob} {A A':Au} (x:Ev) (w:World) (hf:Feed A n x A') (hx:EvOk os.length x) (hn:n < 400) (hA:A.length≤1000) (hl:∀s ∈ A,s.deeds.length≤1000) (hro:∀o ∈ os,o.kind=1) (h:AuAt w B bA os n A) (hW:WordsAt w):
  Calls Tryz.prog 70 #[.pointer (some ⟨bA,0,none⟩),evV x] w (FeedRet w B bA os n A'):=by
 obtain⟨xk,xx,xh,xj,xo,xy,xv,xr⟩:=x
 cases hf with
 |begin hk hi hb=>exact feed_begin xk xx xh xj xo xy xv xr w hx hk hi hb hn hA h hW
 |move k s s' hk hs hi hm=>
  by_cases h2:xk=2
  ·exact feed_call xk xx xh xj xo xy xv xr w hx h2 hs hi hm hn hA (hl s (List.mem_of_getElem? hs)) hro h hW
  ·exact feed_else xk xx xh xj xo xy xv xr w hx h2 hs hi hm hn hA (hl s (List.mem_of_getElem? hs)) hro h hW
theorem feed_bound {A A':Au} {n m:Nat} {x:Ev} (hf:Feed A n x A') (h:A.length≤m∧∀s ∈ A,s.deeds.length≤m):A'.length≤m+1∧∀s ∈ A',s.deeds.length≤m+1:=by
 obtain⟨h1,h2⟩:=h
 cases hf with
 |begin hk hi hb=>
  refine⟨by simp;exact h1,fun s hs=>?_⟩
  simp only[List.mem_append,List.mem_singleton] at hs
  rcases hs with hs|rfl
  ·have:=h2 s hs;omega
  ·simp [newSt]
 |move k s s' hk hs hi hm=>
  refine⟨by simp;omega,fun t ht=>?_⟩
  obtain⟨j,hj⟩:=List.mem_iff_getElem?.1 ht
  have hs2:=h2 s (List.mem_of_getElem? hs)
  rcases get_set hj with⟨rfl,rfl⟩|⟨-,hj⟩
  ·rcases move_cases hm with⟨-,-,rfl⟩|⟨-,-,d,hd,-,rfl⟩|⟨-,-,rfl⟩|⟨-,-,rfl⟩|⟨-,-,rfl⟩|⟨-,-,rfl⟩
   ·simp [callSt];exact hs2
   ·unfold retSt;rw[hd];simp;omega
   ·simp [tryS];omega
   ·simp [endS];omega
   ·simp [endS];omega
   ·simp [canS];omega
  ·have:=h2 t (List.mem_of_getElem? hj);omega
theorem sh_taken (ov vv:Value) (os:List Ob) (es:List Ev) (A:Au) (w:World) (ho:Sl w w.heap.size 2 ov os.length (os.flatMap Ob.cells)) (he:Sl w w.heap.size 8 vv es.length (es.flatMap Ev.cells)) (hne:os≠[]) (hr:RegOk os) (hel:es.length≤400) (hes:∀e ∈ es,EvOk os.length e) (hW:WordsAt w) (hF:Fed es A):
  Calls Tryz.prog 39 #[.agg #[ov,vv]] w fun e w'=>∃bA,e=.returned (.tuple #[.pointer (some ⟨bA,0,none⟩),.nilIface])∧AuAt w' w.heap.size bA os es.length A∧Below w.heap.size w w':=by
 obtain⟨f,hf0,hf1,hf2⟩:=fed_path hF
 have hfb:∀i,i≤es.length→(f i).length≤i∧∀s ∈ f i,s.deeds.length≤i:=fun i=>by
  induction i with
  |zero=>intro _;rw[hf0];exact⟨by simp,fun s hs=>(nomatch hs)⟩
  |succ i ih=>
   intro hi
   exact feed_bound (hf2 i es[i] (List.getElem?_eq_getElem hi)) (ih (by omega))
 obtain⟨ao,co,rfl,mo⟩:=ho.ex
 obtain⟨ae,ce,rfl,me⟩:=he.ex
 have b0:Below w.heap.size w (w.alloc (.cells #[.slice ao os.length co,.slice ae es.length ce] 37)):=(Below.refl _ w).alloc (Nat.le_refl _) _
 have r0:=row_new w (.cells #[.slice ao os.length co,.slice ae es.length ce] 37)
 have hz0:w.heap.size < (w.alloc (.cells #[.slice ao os.length co,.slice ae es.length ce] 37)).heap.size:=row_lt r0
 have hv:=hid (h_Valid (.slice ao os.length co) (.slice ae es.length ce) os es _ ((ho.below b0).more b0.size) ((he.below b0).more b0.size) hr hel hes (hW.below b0))
 have HO:=hid ho
 have HE:=hid he
 have HR:=hid hr
 have HES:=hid hes
 have HW:=hid hW
 have HF2:=hid hf2
 have HFB:=hid hfb
 have HF1:=hid hf1
 have HF0:=hid hf0
 have R0:=hid r0
 have B0:=hid b0
 clear ho he hr hes hW hf2 hfb hf1 hf0 r0 b0 hF
 go_enter Tryz.func39,Tryz.ntmps39
 go_wp2_with fail
 generalize w.alloc (.cells #[.slice ao os.length co,.slice ae es.length ce] 37)=W at *
 refine(hv.out).mono ?_
 rintro e W1 ⟨rfl,b1⟩
 have r1:=row_below R0.out b1 hz0
 have l1:=row_lt r1
 have y0:=row_cell r1 0
 have y1:=row_cell r1 1
 simp at y0 y1
 have b01:=B0.out.trans (b1.mono B0.out.size)
 have hz1:=b01.size
 have hN:=hid (sh_New (.slice ao os.length co) os W1 ((HO.out.below b01).more hz1) hne HR.out (HW.out.below b01))
 have R1:=hid r1
 have B1:=hid b01
 clear r1 b1 b01 hv
 go_wp2_with fail
 refine(hN.out).mono ?_
 rintro e W2 ⟨bA,rfl,hA2,b2⟩
 have r2:=row_below R1.out b2 l1
 have l2:=row_lt r2
 clear y0 y1
 have y0:=row_cell r2 0
 have y1:=row_cell r2 1
 simp at y0 y1
 have B2:=hid b2
 have HA2:=hid hA2
 have hz2:=b2.size
 clear r2 b2 hA2 hN
 go_wp2_with fail
 go_loopw [27] (fun p wr=>∃i:Nat,i≤es.length∧p=.int .i64 i∧AuAt wr W1.heap.size bA os i (f i)∧Below W1.heap.size W1 wr) (fun p _=>es.length - (intOf p).toNat)
 case atStart=>exact⟨0,by omega,by go_num,by rw[HF0.out];exact HA2.out,B2.out⟩
 case round=>
  obtain⟨i,hi,rfl,hAi,hB⟩:=hrel
  have hz:=hB.size
  have HB:=hid hB
  have HAI:=hid hAi
  clear hB hAi
  by_cases hlt:i < es.length
  ·obtain ⟨b,off,x,hat,hb,hx,hc⟩:=HE.out.atF Ev.len rfl hlt
   have BW:=hid (B1.out.trans (HB.out.mono hz1))
   have c0:=cell_below BW.out hb (hc 0 (by decide))
   have c1:=cell_below BW.out hb (hc 1 (by decide))
   have c2:=cell_below BW.out hb (hc 2 (by decide))
   have c3:=cell_below BW.out hb (hc 3 (by decide))
   have c4:=cell_below BW.out hb (hc 4 (by decide))
   have c5:=cell_below BW.out hb (hc 5 (by decide))
   have c6:=cell_below BW.out hb (hc 6 (by decide))
   have c7:=cell_below BW.out hb (hc 7 (by decide))
   have hok:=hid (HES.out x (List.mem_of_getElem? hx))
   have hfe:=hid (HF2.out i x hx)
   have hbd:=HFB.out i hi
   obtain⟨xk,xx,xh,xj,xo,xy,xv,xr⟩:=x
   simp at c0 c1 c2 c3 c4 c5 c6 c7
   have hbw:b < wr.heap.size:=by omega
   subst hat
   clear hx hc
   have bz:Below wr.heap.size wr (wr.alloc (.cells #[.int .i64 xk,.int .i64 xx,.int .i64 xh,.int .i64 xj,.int .i64 xo,.int .i64 xy,.int .i64 xv,.int .i64 xr] 53)):=(Below.refl _ wr).alloc (Nat.le_refl _) _
   have hfd:=hid (feed_all ⟨xk,xx,xh,xj,xo,xy,xv,xr⟩ _ hfe.out hok.out (by omega) (by omega) (fun s hs=>by have:=hbd.2 s hs;omega) (fun o ho=>(HR.out.2 o ho).1) (HAI.out.below bz) ((HW.out.below BW.out).below bz))
   have BZ:=hid bz
   clear bz hbd
   go_wp2_with fail
   generalize wr.alloc (.cells #[.int .i64 xk,.int .i64 xx,.int .i64 xh,.int .i64 xj,.int .i64 xo,.int .i64 xy,.int .i64 xv,.int .i64 xr] 53)=W3 at *
   refine(hfd.out).mono ?_
   rintro e W4 ⟨he,hA4,b4⟩
   subst he
   have hz3:=BZ.out.size
   have HA4:=hid hA4
   have B4:=hid ((HB.out.trans (BZ.out.mono hz)).trans b4)
   clear hfd b4 hA4
   go_wp2_with fail
   go_roundw
   case rel=>exact⟨i+1,by omega,by go_num,HA4.out,B4.out⟩
   case measure=>simp[intOf];omega
  ·obtain rfl:i=es.length:=by omega
   go_wp2
   refine bodyPost_ret (v:=.tuple #[.pointer (some ⟨bA,0,none⟩),.nilIface]) (by simp[results,Tryz.results39,go_sem]) rfl ?_
   refine⟨bA,rfl,?_,B1.out.trans (HB.out.mono hz1)⟩
   rw[HF1.out] at HAI
   exact HAI.out.base hz1
end
section
attribute [local irreducible] wpL
structure TxR where
 id:Int
 thread:Int
 status:Int
 beg:Int
 fin:Int
 tri:Int
 dv:Value
def TxR.cells (r:TxR):List Value:=[.int .i64 r.id,.int .i64 r.thread,.int .i64 r.status,.int .i64 r.beg,.int .i64 r.fin,.int .i64 r.tri,r.dv]
theorem TxR.len (r:TxR):r.cells.length=7:=rfl
theorem infoTx:(Tryz.prog.info? 56).map (fun i=>(i.zero,i.size,i.bytes))=some (some (.agg #[.int .i64 0,.int .i64 0,.int .i64 0,.int .i64 0,.int .i64 0,.int .i64 0,.slice none 0 0]),7,72):=by kernel_rfl
theorem tx_one (i:Int) {th st be fi tr:Int} {a:Option Addr} {n c:Nat}:∀u ∈ TxR.cells ⟨i,th,st,be,fi,tr,.slice a n c⟩,u.oneCell'=true:=by intro u hu;simp[TxR.cells] at hu;rcases hu with rfl|rfl|rfl|rfl|rfl|rfl|rfl <;> rfl
def TxOf (r:TxR) (s:St):Prop:=r.id=s.id∧r.thread=s.thread∧r.status=s.status∧r.beg=s.beg∧r.fin=s.fin∧r.tri=s.tri
def TxsAt (w:World) (B:Nat) (v:Value) (A:Au):Prop:=∃rs:List TxR,OwnF TxR.cells 56 7 w B v rs∧rs.length=A.length∧∀(k:Nat) (r:TxR) (s:St),rs[k]?=some r→A[k]?=some s→TxOf r s∧OwnD w B r.dv s.deeds
section
variable {w w':World} {B:Nat} {v:Value} {A:Au}
theorem TxsAt.below (h:TxsAt w B v A) (hb:Below w.heap.size w w'):TxsAt w' B v A:=
 let ⟨rs,a,b,c⟩:=h;⟨rs,OwnF.below a hb,b,fun k r s hr hs=>⟨(c k r s hr hs).1,OwnF.below (c k r s hr hs).2 hb⟩⟩
theorem TxsAt.base {B':Nat} (h:TxsAt w B v A) (hB:B'≤B):TxsAt w B' v A:=
 let ⟨rs,a,b,c⟩:=h;⟨rs,OwnF.base a hB,b,fun k r s hr hs=>⟨(c k r s hr hs).1,OwnF.base (c k r s hr hs).2 hB⟩⟩
theorem TxsAt.snoc {rs:List TxR} {r:TxR} {s:St} {v':Value} (hv:OwnF TxR.cells 56 7 w B v rs) (hl:rs.length=A.length) (hc:∀(k:Nat) (r:TxR) (s:St),rs[k]?=some r→A[k]?=some s→TxOf r s∧OwnD w B r.dv s.deeds) (h1:TxOf r s) (hu:OwnD w B r.dv s.deeds)
  (h':OwnF TxR.cells 56 7 w' B v' (rs++[r])) (hb:Grw w w' v v'):TxsAt w' B v' (A++[s]):=by
 refine⟨_,h',by simp[hl],fun k r' s' hr hs=>?_⟩
 rcases Nat.lt_trichotomy k A.length with h|h|h
 ·rw [List.getElem?_append_left (by omega)] at hr hs
  exact⟨(hc k r' s' hr hs).1,OwnF.grwT (hc k r' s' hr hs).2 hv (by decide) hb⟩
 ·subst h
  rw[List.getElem?_append_right (by omega)] at hr hs
  simp[hl] at hr hs
  subst hr hs
  exact⟨h1,OwnF.grwT hu hv (by decide) hb⟩
 ·rw [List.getElem?_eq_none (by simp;omega)] at hs
  cases hs
theorem OwnF.slv {α:Type} {f:α→List Value} {e:TypeId} {sz:Nat} {l:List α} (h:OwnF f e sz w B v l):∃a c,v=.slice a l.length c:=by
 rcases OwnF.form h with⟨h1,h2⟩|⟨g,cap,h1,-⟩
 ·exact ⟨_,_,by rw[h1,h2];rfl⟩
 ·exact ⟨_,_,h1⟩
end
theorem sh_Txs {B bA n:Nat} {os:List Ob} {A:Au} (w:World) (h:AuAt w B bA os n A) (hA:A.length≤1000) (hl:∀s ∈ A,s.deeds.length≤1000):
  Calls Tryz.prog 40 #[.pointer (some ⟨bA,0,none⟩)] w fun e w'=>∃v,e=.returned v∧TxsAt w' w.heap.size v A∧Below w.heap.size w w':=by
 obtain⟨bY,bZ,ov,tv,bs,h⟩:=h
 have r0:=h.row
 have l0:=row_lt r0
 have y:=row_cell r0
 have y2:=y 2
 simp at y2
 obtain⟨ta,tc,rfl⟩:=OwnF.slv h.txs
 simp only[List.length_map] at y2 r0
 have hlen:=h.len
 have hbl:bs.length≤1000:=by omega
 have H:=hid h
 have HL:=hid hl
 clear y r0 h hl
 go_enter Tryz.func40,Tryz.ntmps40
 go_wp2_with (at_make;refine wpList_makeF (f:=TxR.cells) (e:=56) (sz:=7) (B:=w.heap.size) rfl _ _ _ rfl _ 72 Tryz.underlying39 infoTx rfl rfl (by first|omega|(simp <;> omega)) (by first|omega|(simp <;> omega)) (by first|omega|(simp <;> omega)) ?_;refine Stop.halt ?_)
 refine Stop.go ?_
 intro w1 o1 b1 z1
 have y2:=cell_below b1 l0 y2
 have O1:=hid o1
 have B1:=hid b1
 have lw:w.heap.size < w1.heap.size:=by omega
 have l1:bA < w1.heap.size:=by omega
 clear o1 b1
 go_wp2_with fail
 go_loopw [3,18] (fun q p wr=>∃(k:Nat),k≤bs.length∧p=.int .i64 k∧TxsAt wr w.heap.size q (A.take k)∧Below w.heap.size w wr) (fun _ p _=>bs.length - (intOf p).toNat)
 case atStart=>exact⟨0,by omega,by go_num,⟨[],O1.out,by simp,fun k r s hr=>by simp at hr⟩,B1.out⟩
 case round=>
  obtain⟨k,hk,rfl,hT,hB⟩:=hrel
  have hz:=hB.size
  have HB:=hid hB
  have HT:=hid hT
  clear hB hT
  by_cases hlt:k < bs.length
  ·obtain ⟨s,hs⟩:∃s,A[k]?=some s:=⟨_,List.getElem?_eq_getElem (by omega)⟩
   have HW:=hid (H.out.below HB.out)
   obtain⟨bp,hbp,hst⟩:=HW.out.get hs
   obtain⟨p,dv⟩:=bp
   obtain⟨gt,u,hta,hgt,hu,hcu⟩:=HW.out.txs.at1 (by simp) (k:=k) (by simpa using hlt)
   rw[List.getElem?_map,hbp] at hu
   simp only[Option.map_some,Option.some.injEq] at hu
   subst hu
   subst hta
   unfold ptrV at hcu
   obtain⟨da,dc,hdv⟩:=OwnF.slv hst.dds
   simp only at hdv
   subst hdv
   have hdl:=HL.out s (List.mem_of_getElem? hs)
   have rp:=hst.row
   have lp:=row_lt rp
   simp only at lp
   have py:=row_cell rp
   have p0:=py 0
   have p1:=py 1
   have p2:=py 2
   have p3:=py 3
   have p4:=py 4
   have p5:=py 5
   have p6:=py 6
   simp[stCs] at p0 p1 p2 p3 p4 p5 p6
   have HST:=hid hst
   have HS:=hid hs
   obtain⟨rs,hv,hvl,hvc⟩:=HT.out
   obtain⟨aq,cq,rfl⟩:=OwnF.slv hv
   have hrl:rs.length=k:=by rw[hvl,List.length_take];omega
   have hrl2:rs.length≤1000:=by omega
   rw[hrl] at hv ⊢
   have HV:=hid hv
   have HRL:=hid hrl
   clear hrl
   have HVL:=hid hvl
   have HVC:=hid hvc
   clear py rp hst hs hbp hv hvl hvc HT
   obtain⟨wo,rfl⟩:∃wo,wo=wr:=⟨_,rfl⟩
   go_wp2_with fail
   obtain⟨dn,hdn⟩:∃dn,dn=s.deeds.length:=⟨_,rfl⟩
   have rt:=row_new wo (.cells #[.int .i64 s.id,.int .i64 s.thread,.int .i64 s.status,.int .i64 s.beg,.int .i64 s.fin,.int .i64 s.tri,.slice da s.deeds.length dc] 56)
   have bt:Below wo.heap.size wo (wo.alloc (.cells #[.int .i64 s.id,.int .i64 s.thread,.int .i64 s.status,.int .i64 s.beg,.int .i64 s.fin,.int .i64 s.tri,.slice da s.deeds.length dc] 56)):=(Below.refl _ wo).alloc (Nat.le_refl _) _
   generalize wo.alloc (.cells #[.int .i64 s.id,.int .i64 s.thread,.int .i64 s.status,.int .i64 s.beg,.int .i64 s.fin,.int .i64 s.tri,.slice da s.deeds.length dc] 56)=W6 at *
   have lt6:=row_lt rt
   have ty:=row_cell rt
   have t6:=ty 6
   simp at t6
   have RT:=hid rt
   have BT:=hid bt
   have zt:=bt.size
   clear ty rt bt p0 p1 p2 p3 p4 p5 p6 hdn
   refine wp_rN (W6.heap.size) [0,1,0,3,0,1,2,0,2] (.fin [0,1,2,4,5,3,6,7,8]) (by kernel_rfl) ?_
   simp only[wpT,selX,guardAt,sD,sE,sF,sG]
   repeat first|(refine wpL_p fun K hK=>?_;go_simp;refine hK _ _ ?_;clear hK K)|(apply wpL_s;(intro w2 hw2;have hk1:=hw2.cell;have hk3:=hw2.1;clear hw2;go_simp;with_reducible rfl);simp only[Act.put,sA,sB,sC])
   refine wpL_k (fun K hK=>?_)
   refine wp_makeF (f:=Dd.cells) (e:=291) (sz:=8) (B:=W6.heap.size) _ _ _ rfl _ 64 Tryz.underlying54 infoDd rfl rfl (by first|omega|(simp <;> omega)) (by first|omega|(simp <;> omega)) (by first|omega|(simp <;> omega)) ?_
   intro w3 o3 b3 z3
   refine hK _ _ (RN.KeepsN.of_below b3) ?_
   clear hK K
   have b3:Below W6.heap.size W6 w3:=(Below.refl _ W6).drew.trans b3
   have z3':W6.heap.size≤w3.heap.size:=b3.size
   refine wpL_e (fun K hK=>?_)
   refine wp_appA _ _ _ rfl _ 64 Tryz.underlying54 infoDd rfl o3 s.deeds rfl (OwnF.below HST.out.dds (BT.out.trans (b3.mono zt))).sl (by first|omega|(simp <;> omega)) rfl rfl Dd.len dd_one (by first|omega|(simp <;> omega)) (by first|omega|(simp <;> omega)) ?_
   intro v' w4 o4 g4
   refine hK _ _ ?_
   clear hK K
   have b4:=b3.trans (g4.below z3' fun j h=>(o3.lt j h).1)
   have o4:OwnD w4 W6.heap.size v' s.deeds:=o4
   obtain⟨an,cn,rfl⟩:=OwnF.slv o4
   have r4:=row_below RT.out b4 lt6
   have l4:=row_lt r4
   have ne4:=OwnF.neT o4 r4 (by decide)
   have z4:W6.heap.size≤w4.heap.size:=b4.size
   clear t6
   have ty:=row_cell r4
   have t0:=ty 0
   have t1:=ty 1
   have t2:=ty 2
   have t3:=ty 3
   have t4:=ty 4
   have t5:=ty 5
   have t6:=ty 6
   simp at t0 t1 t2 t3 t4 t5 t6
   have tf:∀j,w4.frozen? ⟨wo.heap.size,j,none⟩=false:=fun j=>row_free r4 j
   have O4:=hid o4
   have B4:=hid b4
   have R4:=hid r4
   clear ty o4 b4 r4 o3 b3 z3 g4
   repeat (refine wpL_p fun K hK=>?_;go_simp;refine hK _ _ ?_;clear hK K)
   refine wpL_e (fun K hK=>?_)
   go_simp
   refine hK _ _ ?_
   clear hK K
   repeat refine wpL_nil ?_
   have o5:=OwnF.other (j:=6) O4.out ne4 (.slice an s.deeds.length cn)
   have b5:Below wo.heap.size wo (w4.setCell ⟨wo.heap.size,6,none⟩ (.slice an s.deeds.length cn)):=(BT.out.trans (B4.out.mono zt)).setCell (p:=⟨wo.heap.size,6,none⟩) (Nat.le_refl _) _
   have r5:=row_set R4.out 6 (.slice an s.deeds.length cn)
   have l5:wo.heap.size < (w4.setCell ⟨wo.heap.size,6,none⟩ (.slice an s.deeds.length cn)).heap.size:=row_lt r5
   generalize w4.setCell ⟨wo.heap.size,6,none⟩ (.slice an s.deeds.length cn)=w5 at *
   clear t0 t1 t2 t3 t4 t5 t6 tf
   have ty:=row_cell r5
   have t0:=ty 0
   have t1:=ty 1
   have t2:=ty 2
   have t3:=ty 3
   have t4:=ty 4
   have t5:=ty 5
   have t6:=ty 6
   simp at t0 t1 t2 t3 t4 t5 t6
   have HV5:=hid (OwnF.below HV.out b5)
   have HVC5:=hid (fun(j:Nat) (r:TxR) (t:St) (h1:rs[j]?=some r) (h2:(A.take k)[j]?=some t)=>(show TxOf r t∧OwnD w5 w.heap.size r.dv t.deeds from⟨(HVC.out j r t h1 h2).1,OwnF.below (HVC.out j r t h1 h2).2 b5⟩))
   have O5:=hid (OwnF.base o5 (show w.heap.size≤W6.heap.size by omega))
   have B5:=hid (HB.out.trans (b5.mono hz))
   have hz5:w.heap.size≤w5.heap.size:=by omega
   clear ty r5 o5 b5 HV HVC
   go_wp2_with (at_builtin;refine wpList_appF rfl _ _ _ rfl _ 72 Tryz.underlying39 infoTx rfl HV5.out (⟨s.id,s.thread,s.status,s.beg,s.fin,s.tri,.slice an s.deeds.length cn⟩:TxR) hz5 (by rfl) (by rfl) (by first|rfl|simp) rfl (tx_one _) (by first|omega|(simp only[List.length_append,List.length_cons,List.length_nil,List.length_replicate];omega)) (by first|omega|(simp only[List.length_append,List.length_cons,List.length_nil,List.length_replicate];omega)) ?_;refine Stop.halt ?_)
   refine Stop.go ?_
   intro g6 c6 w6 o6 G6
   have o6:OwnF TxR.cells 56 7 w6 w.heap.size (.slice (some ⟨g6,0,none⟩) (rs.length+1) c6) (rs++[⟨s.id,s.thread,s.status,s.beg,s.fin,s.tri,.slice an s.deeds.length cn⟩]):=o6
   have T6:=hid (TxsAt.snoc HV5.out HVL.out HVC5.out (s:=s) ⟨rfl,rfl,rfl,rfl,rfl,rfl⟩ O5.out o6 G6)
   have B6:=hid (B5.out.trans (G6.below B5.out.size fun j h=>(HV5.out.lt j h).1))
   clear o6 G6
   go_wp2_with fail
   go_roundw
   case rel=>exact⟨k+1,by omega,by go_num,by rw[take_step HS.out];exact T6.out,B6.out⟩
   case measure=>simp[intOf];omega
  ·obtain rfl:k=bs.length:=by omega
   have hT:=HT.out
   rw[hlen,List.take_length] at hT
   obtain⟨rs,hv,hvl,hvc⟩:=hT
   obtain⟨aq,cq,rfl⟩:=OwnF.slv hv
   have HT2:=hid (show TxsAt wr w.heap.size (.slice aq rs.length cq) A from⟨rs,hv,hvl,hvc⟩)
   clear hv hvl hvc HT
   go_wp2
   go_ret
   exact⟨_,rfl,HT2.out,HB.out⟩
end
section
attribute [local irreducible] wpL
theorem fed_bound {es:List Ev} {A:Au} (hF:Fed es A):A.length≤es.length∧∀s ∈ A,s.deeds.length≤es.length:=by
 induction hF with
 |nil=>exact⟨by simp,fun s hs=>(nomatch hs)⟩
 |@snoc l A A' e h hf ih=>have:=feed_bound hf ih;simpa using this
theorem sh_Table (ov vv:Value) (os:List Ob) (es:List Ev) (A:Au) (w:World) (ho:Sl w w.heap.size 2 ov os.length (os.flatMap Ob.cells)) (he:Sl w w.heap.size 8 vv es.length (es.flatMap Ev.cells)) (hne:os≠[]) (hr:RegOk os) (hel:es.length≤400) (hes:∀e ∈ es,EvOk os.length e) (hW:WordsAt w) (hF:Fed es A):
  Calls Tryz.prog 13 #[.agg #[ov,vv]] w fun e w'=>∃v,e=.returned (.tuple #[v,.nilIface])∧TxsAt w' w.heap.size v A∧Below w.heap.size w w':=by
 obtain⟨ao,co,rfl,mo⟩:=ho.ex
 obtain⟨ae,ce,rfl,me⟩:=he.ex
 obtain⟨hA,hdl⟩:=fed_bound hF
 have b0:Below w.heap.size w (w.alloc (.cells #[.slice ao os.length co,.slice ae es.length ce] 37)):=(Below.refl _ w).alloc (Nat.le_refl _) _
 have hz0:w.heap.size < (w.alloc (.cells #[.slice ao os.length co,.slice ae es.length ce] 37)).heap.size:=by simp
 have hT:=hid (sh_taken (.slice ao os.length co) (.slice ae es.length ce) os es A _ ((ho.below b0).more b0.size) ((he.below b0).more b0.size) hne hr hel hes (hW.below b0) hF)
 have HD:=hid hdl
 have B0:=hid b0
 clear ho he hr hes hW b0 hF hdl
 go_enter Tryz.func13,Tryz.ntmps13
 go_wp2_with fail
 generalize w.alloc (.cells #[.slice ao os.length co,.slice ae es.length ce] 37)=W at *
 refine(hT.out).mono ?_
 rintro e W1 ⟨bA,rfl,hA1,b1⟩
 have hz1:=b1.size
 have hTx:=hid (sh_Txs W1 hA1 (by omega) fun s hs=>by have:=HD.out s hs;omega)
 have B1:=hid (B0.out.trans (b1.mono B0.out.size))
 clear b1 hA1 hT
 go_wp2_with fail
 refine(hTx.out).mono ?_
 rintro e W2 ⟨v,rfl,ht,b2⟩
 have HT:=hid (ht.base (show w.heap.size≤W1.heap.size by omega))
 have B2:=hid (B1.out.trans (b2.mono (by omega)))
 clear hTx b2 ht
 obtain⟨rs,hv,r⟩:=HT.out
 obtain⟨a,c,rfl⟩:=OwnF.slv hv
 clear hv r
 go_wp2
 refine bodyPost_ret (v:=.tuple #[.slice a rs.length c,.nilIface]) (by simp[results,Tryz.results13,go_sem]) rfl ?_
 exact⟨_,rfl,HT.out,B2.out⟩
theorem sh_Find (v:Value) (A:Au) (x:Int) (B:Nat) (w:World) (h:TxsAt w B v A) {k:Nat} {s:St} (hs:A[k]?=some s) (hx:s.id=x) (hn:∀(j:Nat) (t:St),j < k→A[j]?=some t→t.id≠x):
  Calls Tryz.prog 15 #[v,.int .i64 x] w fun e w'=>e=.returned (.tuple #[.int .i64 k,.bool true])∧Below w.heap.size w w':=by
 obtain⟨rs,hv,hvl,hvc⟩:=h
 obtain⟨a,c,rfl⟩:=OwnF.slv hv
 have hkl:=(List.getElem?_eq_some_iff.1 hs).1
 have hbig:A.length≤9223372036854775807:=by
  obtain⟨_,_,_,hb⟩:=OwnF.form2 hv
  omega
 have HV:=hid hv
 have HVC:=hid hvc
 have HN:=hid hn
 have HS:=hid hs
 clear hv hvc hn hs
 go_enter Tryz.func15,Tryz.ntmps15
 go_wp2_with fail
 obtain⟨W,rfl⟩:∃W,W=w:=⟨_,rfl⟩
 go_loopw [10] (fun p wr=>∃i:Nat,i≤k∧p=.int .i64 i∧Below W.heap.size W wr) (fun p _=>k - (intOf p).toNat)
 case atStart=>exact⟨0,by omega,by go_num,Below.refl _ _⟩
 case round=>
  obtain⟨i,hi,rfl,hB⟩:=hrel
  have hz:=hB.size
  have HB:=hid hB
  clear hB
  have hil:i < rs.length:=by omega
  obtain⟨b,off,r,hat,hb,hr,hc⟩:=(OwnF.sl HV.out).atF TxR.len rfl hil
  have c0:=cell_below HB.out hb (hc 0 (by decide))
  have c1:=cell_below HB.out hb (hc 1 (by decide))
  have c2:=cell_below HB.out hb (hc 2 (by decide))
  have c3:=cell_below HB.out hb (hc 3 (by decide))
  have c4:=cell_below HB.out hb (hc 4 (by decide))
  have c5:=cell_below HB.out hb (hc 5 (by decide))
  have c6:=cell_below HB.out hb (hc 6 (by decide))
  obtain⟨t,ht⟩:∃t,A[i]?=some t:=⟨_,List.getElem?_eq_getElem (by omega)⟩
  have hro:=(HVC.out i r t hr ht).1.1
  obtain⟨dA,dC,hdv⟩:=OwnF.slv (HVC.out i r t hr ht).2
  obtain⟨rid,rth,rst,rbe,rfi,rtr,rdv⟩:=r
  simp only at hro hdv
  subst hdv
  simp at c0 c1 c2 c3 c4 c5 c6
  have hbw:b < wr.heap.size:=by omega
  subst hat
  clear hr hc
  by_cases hik:i=k
  ·subst hik
   have e1:rid=x:=by
    rw[HS.out] at ht
    obtain rfl:=Option.some.inj ht
    rw[hro,hx]
   subst e1
   clear ht
   go_wp2
   refine bodyPost_ret (v:=.tuple #[.int .i64 i,.bool true]) (by simp[results,Tryz.results15,go_sem]) rfl ?_
   exact⟨rfl,HB.out.alloc hz _⟩
  ·have e1:(rid==x)=false:=by
    have:=HN.out i t (by omega) ht
    rw[←hro] at this
    simpa using this
   clear ht
   go_wp2_with fail
   go_roundw
   case rel=>exact⟨i+1,by omega,by go_num,HB.out.alloc hz _⟩
   case measure=>simp[intOf];omega
end
