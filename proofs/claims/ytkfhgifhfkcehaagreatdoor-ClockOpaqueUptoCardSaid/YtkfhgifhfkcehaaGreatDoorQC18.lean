/- Parts of the proof; the first: The automaton of well-formed histories: made; fed with a history. Conditions: those of each theorem, as typed. -/
import Derived.Test.YtkfhgifhfkcehaaGreatDoorQC17
import Derived.Test.YtkfhgifhfkcehaaGreatDoorQC15
set_option linter.unusedVariables false
set_option linter.unusedSimpArgs false
set_option linter.unusedSectionVars false
set_option maxRecDepth 100000
set_option maxHeartbeats 4000000
namespace Go.Proofs.YtkfhgifhfkcehaaGreatDoor
open Go.Maps Go.RowKit
section
attribute [local irreducible] xL
theorem zm.base {w:World} {B B':Nat} {p:Nat×Value} {s:St} (h:zm w B p s) (hB:B'<=B):zm w B' p s:=⟨h.row,Nat.le_trans hB h.hB,qq.base h.dds hB⟩
theorem AuAt.base {w:World} {B B' bA n:Nat} {os:List Ob} {A:Au} (h:AuAt w B bA os n A) (hB:B'<=B):AuAt w B' bA os n A:=by
 obtain⟨bY,bZ,ov,tv,bs,h⟩:=h;exact⟨bY,bZ,ov,tv,bs,h.row,Nat.le_trans hB h.hB,qq.base h.obs hB,qq.base h.txs hB,h.len,fun k p s hp hs=>(h.sts k p s hp hs).base hB,h.nod,h.dis,⟨Nat.le_trans hB h.by_.1,h.by_.2⟩,⟨Nat.le_trans hB h.bz.1,h.bz.2⟩,h.ne⟩
theorem AuAt.below {w w':World} {B bA n:Nat} {os:List Ob} {A:Au} (h:AuAt w B bA os n A) (hb:Below w.heap.size w w'):AuAt w' B bA os n A:=by
 obtain⟨bY,bZ,ov,tv,bs,h⟩:=h;exact⟨bY,bZ,ov,tv,bs,h.below hb⟩
theorem s_CloneO (v:Value) (os:List Ob) (w:World) (h:Sl w w.heap.size 2 v os.length (os.flatMap Ob.cells)) (hne:os≠[]) (hl:os.length<=8):
  Calls Tryz.prog 116 #[v] w fun e w'=>∃v',e=.returned v'/\qq Ob.cells 96 2 w' w.heap.size v' os/\Below w.heap.size w w':=by
 obtain⟨a,c,rfl,hm⟩:=h.ex;obtain⟨b,off,rfl⟩:∃b off,a=some ⟨b,off,none⟩:=by
  obtain⟨a',c',hv,-,-,hc⟩:=h;simp only[Value.slice.injEq] at hv;obtain⟨rfl,-,-⟩:=hv;obtain⟨b,off,hb,-⟩:=hc (List.length_pos_iff.2 hne);exact⟨b,off,hb⟩
 have H:=qj h;have b0:Below w.heap.size w (w.alloc (.cells #[] 96)):=(Below.refl _ w).alloc (Nat.le_refl _) _;have ow:qq Ob.cells 96 2 (w.alloc (.cells #[] 96)) w.heap.size (.slice (some ⟨w.heap.size,0,none⟩) 0 0) []:=qq.lit (f:=Ob.cells) w w.heap.size (Nat.le_refl _) [] Ob.len (by decide);have hs:=h.alloc (Nat.le_refl _) (.cells #[] 96);have OW:=qj ow;have HS:=qj hs;have B0:=qj b0;clear h b0 ow hs;have heq:∀X,Sem.run Tryz.prog (binOp BinOp.eql 34 (.slice (some ⟨b,off,none⟩) os.length c) (.slice none 0 0)) X=.ok (.bool false) X:=fun X=>by kernel_rfl
 go_enter Tryz.func116,Tryz.ntmps116;go_wp2_with (at_builtin;refine wpList_appA rfl _ _ _ rfl _ 16 Tryz.underlying34 infoO rfl OW.o os rfl HS.o (by first|omega|(simp <;> omega)) rfl rfl Ob.len ob_one (by first|omega|(simp <;> omega)) (by first|omega|(simp <;> omega)) ?_;refine xt.halt ?_)
 refine xt.go ?_;intro v' w' o2 g2;have b2:=B0.o.trans (g2.below B0.o.size fun k h=>(OW.o.lt k h).1);have O2:=qj o2;have B2:=qj b2;clear o2 g2 b2 heq;obtain⟨av,cv,rfl,-⟩:∃a c,v'=.slice a os.length c/\True:=by
  rcases qq.form O2.o with⟨h1,h2⟩|⟨g,cap,h1,-⟩
  ·exact ⟨_,_,by rw[h1,h2];rfl,trivial⟩
  ·exact ⟨_,_,h1,trivial⟩
 go_wp2;go_ret;exact⟨_,rfl,O2.o,B2.o⟩
theorem sh_New (v:Value) (os:List Ob) (w:World) (h:Sl w w.heap.size 2 v os.length (os.flatMap Ob.cells)) (hne:os≠[]) (hr:RegOk os) (hW:xa w):
  Calls Tryz.prog 69 #[v] w fun e w'=>∃bA,e=.returned (.tuple #[.pointer (some ⟨bA,0,none⟩),.nilIface])/\AuAt w' w.heap.size bA os 0 []/\Below w.heap.size w w':=by
 obtain⟨a,c,rfl,hm⟩:=h.ex;have hmk:∀X:World,Sem.run Tryz.prog (Instr.makeMap 146 none) X=.ok (.map (some X.heap.size)) (X.alloc (.map #[] 0)):=fun X=>by kernel_rfl
 have hv:=qj (h_Valid (.slice a os.length c) (.slice none 0 0) os [] w h ⟨none,0,rfl,by simp,by simp,fun h=>by simp at h⟩ hr (by simp) (fun e he=>(nomatch he)) hW);have H:=qj h;have HR:=qj hr;clear h hW hr;go_enter Tryz.func69,Tryz.ntmps69;go_wp2_with fail;refine(hv.o).mono ?_;rintro e W1 ⟨rfl,b1⟩;have B1:=qj b1;have hz1:=b1.size;have hc:=qj (s_CloneO (.slice a os.length c) os W1 ((H.o.below b1).more hz1) hne HR.o.1);clear b1 hv;go_wp2_with fail;refine(hc.o).mono ?_;rintro e W2 ⟨v',rfl,o2,b2⟩;have hz2:=b2.size;obtain⟨av,cv,rfl,-⟩:∃a c,v'=.slice a os.length c/\True:=by
  rcases qq.form o2 with⟨h1,h2⟩|⟨g,cap,h1,-⟩
  ·exact ⟨_,_,by rw[h1,h2];rfl,trivial⟩
  ·exact ⟨_,_,h1,trivial⟩
 have O2:=qj o2;have B2:=qj b2;clear o2 b2 hc;go_wp2;refine bodyPost_ret (v:=.tuple #[.pointer (some ⟨W2.heap.size+2,0,none⟩),.nilIface]) (by simp[results,Tryz.results69,go_sem]) rfl ?_;have m1:=qy W2 (.map #[] 0);have m2:=qL (w:=W2.alloc (.map #[] 0)) (o:=.map #[] 0) (g:=W2.heap.size+1) (by simp);have m3:=qL (w:=(W2.alloc (.map #[] 0)).alloc (.map #[] 0)) (o:=.cells #[.slice av os.length cv,.int .i64 0,.slice none 0 0,.map (some W2.heap.size),.map (some (W2.heap.size+1))] 148) (g:=W2.heap.size+2) (by simp);refine⟨W2.heap.size+2,rfl,⟨W2.heap.size,W2.heap.size+1,.slice av os.length cv,.slice none 0 0,[],?_⟩,?_⟩
 ·exact ⟨m3,by omega,qq.base (qq.alloc (qq.alloc (qq.alloc O2.o _) _) _) hz1,qq.nil _ _,rfl,fun k p s hp=>by simp at hp,List.nodup_nil,fun j k p q hp=>by simp at hp,
   ⟨by omega,_,xp.made (qF (qF m1)),fun k p s hp=>by simp at hp,fun x _=>rfl⟩,⟨by omega,_,xp.made (qF m2),fun x _=>rfl⟩,by omega⟩
 ·have hb:=(B1.o.trans (B2.o.mono hz1))
  exact((hb.alloc (by omega) _).alloc (by simp;omega) _).alloc (by simp;omega) _
theorem feed_all {B bA n:Nat} {os:List Ob} {A A':Au} (x:Ev) (w:World) (hf:Feed A n x A') (hx:EvOk os.length x) (hn:n < 400) (hA:A.length<=1000) (hl:∀s ∈ A,s.deeds.length<=1000) (hro:∀o ∈ os,o.kind=1) (h:AuAt w B bA os n A) (hW:xa w):
  Calls Tryz.prog 70 #[.pointer (some ⟨bA,0,none⟩),yv x] w (FeedRet w B bA os n A'):=by
 obtain⟨xk,xx,xh,xj,xo,xy,xv,xr⟩:=x;cases hf with
 |begin hk hi hb=>exact feed_begin xk xx xh xj xo xy xv xr w hx hk hi hb hn hA h hW
 |move k s s' hk hs hi hm=>
  by_cases h2:xk=2
  ·exact feed_call xk xx xh xj xo xy xv xr w hx h2 hs hi hm hn hA (hl s (List.mem_of_getElem? hs)) hro h hW
  ·exact feed_else xk xx xh xj xo xy xv xr w hx h2 hs hi hm hn hA (hl s (List.mem_of_getElem? hs)) hro h hW
theorem feed_bound {A A':Au} {n m:Nat} {x:Ev} (hf:Feed A n x A') (h:A.length<=m/\∀s ∈ A,s.deeds.length<=m):A'.length<=m+1/\∀s ∈ A',s.deeds.length<=m+1:=by
 obtain⟨h1,h2⟩:=h;cases hf with
 |begin hk hi hb=>
  refine⟨by simp;exact h1,fun s hs=>?_⟩;simp only[List.mem_append,List.mem_singleton] at hs;rcases hs with hs|rfl
  ·have:=h2 s hs;omega
  ·simp [yE]
 |move k s s' hk hs hi hm=>
  refine⟨by simp;omega,fun t ht=>?_⟩;obtain⟨j,hj⟩:=List.mem_iff_getElem?.1 ht;have hs2:=h2 s (List.mem_of_getElem? hs);rcases xd hj with⟨rfl,rfl⟩|⟨-,hj⟩
  ·rcases move_cases hm with⟨-,-,rfl⟩|⟨-,-,d,hd,-,rfl⟩|⟨-,-,rfl⟩|⟨-,-,rfl⟩|⟨-,-,rfl⟩|⟨-,-,rfl⟩
   ·simp [callSt];exact hs2
   ·unfold yU;rw[hd];simp;omega
   ·simp [tryS];omega
   ·simp [endS];omega
   ·simp [endS];omega
   ·simp [canS];omega
  ·have:=h2 t (List.mem_of_getElem? hj);omega
theorem sh_taken (ov vv:Value) (os:List Ob) (es:List Ev) (A:Au) (w:World) (ho:Sl w w.heap.size 2 ov os.length (os.flatMap Ob.cells)) (he:Sl w w.heap.size 8 vv es.length (es.flatMap Ev.cells)) (hne:os≠[]) (hr:RegOk os) (hel:es.length<=400) (hes:∀e ∈ es,EvOk os.length e) (hW:xa w) (hF:Fed es A):
  Calls Tryz.prog 39 #[.agg #[ov,vv]] w fun e w'=>∃bA,e=.returned (.tuple #[.pointer (some ⟨bA,0,none⟩),.nilIface])/\AuAt w' w.heap.size bA os es.length A/\Below w.heap.size w w':=by
 obtain⟨f,hf0,hf1,hf2⟩:=fed_path hF;have hfb:∀i,i<=es.length->(f i).length<=i/\∀s ∈ f i,s.deeds.length<=i:=fun i=>by
  induction i with
  |zero=>intro _;rw[hf0];exact⟨by simp,fun s hs=>(nomatch hs)⟩
  |succ i ih=>
   intro hi;exact feed_bound (hf2 i es[i] (List.getElem?_eq_getElem hi)) (ih (by omega))
 obtain⟨ao,co,rfl,mo⟩:=ho.ex;obtain⟨ae,ce,rfl,me⟩:=he.ex;have b0:Below w.heap.size w (w.alloc (.cells #[.slice ao os.length co,.slice ae es.length ce] 37)):=(Below.refl _ w).alloc (Nat.le_refl _) _;have r0:=qy w (.cells #[.slice ao os.length co,.slice ae es.length ce] 37);have hz0:w.heap.size < (w.alloc (.cells #[.slice ao os.length co,.slice ae es.length ce] 37)).heap.size:=qh r0;have hv:=qj (h_Valid (.slice ao os.length co) (.slice ae es.length ce) os es _ ((ho.below b0).more b0.size) ((he.below b0).more b0.size) hr hel hes (hW.below b0));have HO:=qj ho;have HE:=qj he;have HR:=qj hr;have HES:=qj hes;have HW:=qj hW;have HF2:=qj hf2;have HFB:=qj hfb;have HF1:=qj hf1;have HF0:=qj hf0;have R0:=qj r0;have B0:=qj b0;clear ho he hr hes hW hf2 hfb hf1 hf0 r0 b0 hF;go_enter Tryz.func39,Tryz.ntmps39;go_wp2_with fail;generalize w.alloc (.cells #[.slice ao os.length co,.slice ae es.length ce] 37)=W at *;refine(hv.o).mono ?_;rintro e W1 ⟨rfl,b1⟩;have r1:=qp R0.o b1 hz0;have l1:=qh r1;have y0:=qg r1 0;have y1:=qg r1 1;simp at y0 y1;have b01:=B0.o.trans (b1.mono B0.o.size);have hz1:=b01.size;have hN:=qj (sh_New (.slice ao os.length co) os W1 ((HO.o.below b01).more hz1) hne HR.o (HW.o.below b01));have R1:=qj r1;have B1:=qj b01;clear r1 b1 b01 hv;go_wp2_with fail;refine(hN.o).mono ?_;rintro e W2 ⟨bA,rfl,hA2,b2⟩;have r2:=qp R1.o b2 l1;have l2:=qh r2;clear y0 y1;have y0:=qg r2 0;have y1:=qg r2 1;simp at y0 y1;have B2:=qj b2;have HA2:=qj hA2;have hz2:=b2.size;clear r2 b2 hA2 hN;go_wp2_with fail
 go_loopw [27] (fun p wr=>∃i:Nat,i<=es.length/\p=.int .i64 i/\AuAt wr W1.heap.size bA os i (f i)/\Below W1.heap.size W1 wr) (fun p _=>es.length - (intOf p).toNat)
 case atStart=>exact⟨0,by omega,by go_num,by rw[HF0.o];exact HA2.o,B2.o⟩
 case round=>
  obtain⟨i,hi,rfl,hAi,hB⟩:=hrel;have hz:=hB.size;have HB:=qj hB;have HAI:=qj hAi;clear hB hAi;by_cases hlt:i < es.length
  ·obtain ⟨b,off,x,hat,hb,hx,hc⟩:=HE.o.atF Ev.len rfl hlt
   have BW:=qj (B1.o.trans (HB.o.mono hz1));have c0:=qu BW.o hb (hc 0 (by decide));have c1:=qu BW.o hb (hc 1 (by decide));have c2:=qu BW.o hb (hc 2 (by decide));have c3:=qu BW.o hb (hc 3 (by decide));have c4:=qu BW.o hb (hc 4 (by decide));have c5:=qu BW.o hb (hc 5 (by decide));have c6:=qu BW.o hb (hc 6 (by decide));have c7:=qu BW.o hb (hc 7 (by decide));have hok:=qj (HES.o x (List.mem_of_getElem? hx));have hfe:=qj (HF2.o i x hx);have hbd:=HFB.o i hi;obtain⟨xk,xx,xh,xj,xo,xy,xv,xr⟩:=x;simp at c0 c1 c2 c3 c4 c5 c6 c7;have hbw:b < wr.heap.size:=by omega
   subst hat;clear hx hc;have bz:Below wr.heap.size wr (wr.alloc (.cells #[.int .i64 xk,.int .i64 xx,.int .i64 xh,.int .i64 xj,.int .i64 xo,.int .i64 xy,.int .i64 xv,.int .i64 xr] 53)):=(Below.refl _ wr).alloc (Nat.le_refl _) _;have hfd:=qj (feed_all ⟨xk,xx,xh,xj,xo,xy,xv,xr⟩ _ hfe.o hok.o (by omega) (by omega) (fun s hs=>by have:=hbd.2 s hs;omega) (fun o ho=>(HR.o.2 o ho).1) (HAI.o.below bz) ((HW.o.below BW.o).below bz));have BZ:=qj bz;clear bz hbd;go_wp2_with fail;generalize wr.alloc (.cells #[.int .i64 xk,.int .i64 xx,.int .i64 xh,.int .i64 xj,.int .i64 xo,.int .i64 xy,.int .i64 xv,.int .i64 xr] 53)=W3 at *;refine(hfd.o).mono ?_;rintro e W4 ⟨he,hA4,b4⟩;subst he;have hz3:=BZ.o.size;have HA4:=qj hA4;have B4:=qj ((HB.o.trans (BZ.o.mono hz)).trans b4);clear hfd b4 hA4;go_wp2_with fail;go_roundw
   case rel=>exact⟨i+1,by omega,by go_num,HA4.o,B4.o⟩
   case measure=>simp[intOf];omega
  ·obtain rfl:i=es.length:=by omega
   go_wp2;refine bodyPost_ret (v:=.tuple #[.pointer (some ⟨bA,0,none⟩),.nilIface]) (by simp[results,Tryz.results39,go_sem]) rfl ?_;refine⟨bA,rfl,?_,B1.o.trans (HB.o.mono hz1)⟩;rw[HF1.o] at HAI;exact HAI.o.base hz1
end
section
attribute [local irreducible] xL
structure TxR where
 id:Int
 thread:Int
 status:Int
 beg:Int
 fin:Int
 tri:Int
 dv:Value
def TxR.cells (r:TxR):List Value:=[.int .i64 r.id,.int .i64 r.thread,.int .i64 r.status,.int .i64 r.beg,.int .i64 r.fin,.int .i64 r.tri,r.dv]
theorem TxR.len (r:TxR):r.cells.length=7:=rfl
theorem infoTx:(Tryz.prog.info? 56).map (fun i=>(i.zero,i.size,i.bytes))=some (some (.agg #[.int .i64 0,.int .i64 0,.int .i64 0,.int .i64 0,.int .i64 0,.int .i64 0,.slice none 0 0]),7,72):=by kernel_rfl
theorem tx_one (i:Int) {th st be fi tr:Int} {a:Option Addr} {n c:Nat}:∀u ∈ TxR.cells ⟨i,th,st,be,fi,tr,.slice a n c⟩,u.oneCell'=true:=by intro u hu;simp[TxR.cells] at hu;rcases hu with rfl|rfl|rfl|rfl|rfl|rfl|rfl <;> rfl
def TxOf (r:TxR) (s:St):Prop:=r.id=s.id/\r.thread=s.thread/\r.status=s.status/\r.beg=s.beg/\r.fin=s.fin/\r.tri=s.tri
def TxsAt (w:World) (B:Nat) (v:Value) (A:Au):Prop:=∃rs:List TxR,qq TxR.cells 56 7 w B v rs/\rs.length=A.length/\∀(k:Nat) (r:TxR) (s:St),rs[k]?=some r->A[k]?=some s->TxOf r s/\OwnD w B r.dv s.deeds
section
variable {w w':World} {B:Nat} {v:Value} {A:Au}
theorem TxsAt.below (h:TxsAt w B v A) (hb:Below w.heap.size w w'):TxsAt w' B v A:=
 let ⟨rs,a,b,c⟩:=h;⟨rs,qq.below a hb,b,fun k r s hr hs=>⟨(c k r s hr hs).1,qq.below (c k r s hr hs).2 hb⟩⟩
theorem TxsAt.base {B':Nat} (h:TxsAt w B v A) (hB:B'<=B):TxsAt w B' v A:=
 let ⟨rs,a,b,c⟩:=h;⟨rs,qq.base a hB,b,fun k r s hr hs=>⟨(c k r s hr hs).1,qq.base (c k r s hr hs).2 hB⟩⟩
theorem TxsAt.snoc {rs:List TxR} {r:TxR} {s:St} {v':Value} (hv:qq TxR.cells 56 7 w B v rs) (hl:rs.length=A.length) (hc:∀(k:Nat) (r:TxR) (s:St),rs[k]?=some r->A[k]?=some s->TxOf r s/\OwnD w B r.dv s.deeds) (h1:TxOf r s) (hu:OwnD w B r.dv s.deeds)
  (h':qq TxR.cells 56 7 w' B v' (rs++[r])) (hb:Grw w w' v v'):TxsAt w' B v' (A++[s]):=by
 refine⟨_,h',by simp[hl],fun k r' s' hr hs=>?_⟩;rcases Nat.lt_trichotomy k A.length with h|h|h
 ·rw [List.getElem?_append_left (by omega)] at hr hs
  exact⟨(hc k r' s' hr hs).1,qq.grwT (hc k r' s' hr hs).2 hv (by decide) hb⟩
 ·subst h
  rw[List.getElem?_append_right (by omega)] at hr hs;simp[hl] at hr hs;subst hr hs;exact⟨h1,qq.grwT hu hv (by decide) hb⟩
 ·rw [List.getElem?_eq_none (by simp;omega)] at hs
  cases hs
theorem qq.slv {α:Type} {f:α->List Value} {e:TypeId} {sz:Nat} {l:List α} (h:qq f e sz w B v l):∃a c,v=.slice a l.length c:=by
 rcases qq.form h with⟨h1,h2⟩|⟨g,cap,h1,-⟩
 ·exact ⟨_,_,by rw[h1,h2];rfl⟩
 ·exact ⟨_,_,h1⟩
end
theorem sh_Txs {B bA n:Nat} {os:List Ob} {A:Au} (w:World) (h:AuAt w B bA os n A) (hA:A.length<=1000) (hl:∀s ∈ A,s.deeds.length<=1000):
  Calls Tryz.prog 40 #[.pointer (some ⟨bA,0,none⟩)] w fun e w'=>∃v,e=.returned v/\TxsAt w' w.heap.size v A/\Below w.heap.size w w':=by
 obtain⟨bY,bZ,ov,tv,bs,h⟩:=h;have r0:=h.row;have l0:=qh r0;have y:=qg r0;have y2:=y 2;simp at y2;obtain⟨ta,tc,rfl⟩:=qq.slv h.txs;simp only[List.length_map] at y2 r0;have hlen:=h.len;have hbl:bs.length<=1000:=by omega
 have H:=qj h;have HL:=qj hl;clear y r0 h hl;go_enter Tryz.func40,Tryz.ntmps40;go_wp2_with (at_make;refine wpList_makeF (f:=TxR.cells) (e:=56) (sz:=7) (B:=w.heap.size) rfl _ _ _ rfl _ 72 Tryz.underlying39 infoTx rfl rfl (by first|omega|(simp <;> omega)) (by first|omega|(simp <;> omega)) (by first|omega|(simp <;> omega)) ?_;refine xt.halt ?_)
 refine xt.go ?_;intro w1 o1 b1 z1;have y2:=qu b1 l0 y2;have O1:=qj o1;have B1:=qj b1;have lw:w.heap.size < w1.heap.size:=by omega
 have l1:bA < w1.heap.size:=by omega
 clear o1 b1;go_wp2_with fail
 go_loopw [3,18] (fun q p wr=>∃(k:Nat),k<=bs.length/\p=.int .i64 k/\TxsAt wr w.heap.size q (A.take k)/\Below w.heap.size w wr) (fun _ p _=>bs.length - (intOf p).toNat)
 case atStart=>exact⟨0,by omega,by go_num,⟨[],O1.o,by simp,fun k r s hr=>by simp at hr⟩,B1.o⟩
 case round=>
  obtain⟨k,hk,rfl,hT,hB⟩:=hrel;have hz:=hB.size;have HB:=qj hB;have HT:=qj hT;clear hB hT;by_cases hlt:k < bs.length
  ·obtain ⟨s,hs⟩:∃s,A[k]?=some s:=⟨_,List.getElem?_eq_getElem (by omega)⟩
   have HW:=qj (H.o.below HB.o);obtain⟨bp,hbp,hst⟩:=HW.o.get hs;obtain⟨p,dv⟩:=bp;obtain⟨gt,u,hta,hgt,hu,hcu⟩:=HW.o.txs.at1 (by simp) (k:=k) (by simpa using hlt);rw[List.getElem?_map,hbp] at hu;simp only[Option.map_some,Option.some.injEq] at hu;subst hu;subst hta;unfold ptrV at hcu;obtain⟨da,dc,hdv⟩:=qq.slv hst.dds;simp only at hdv;subst hdv;have hdl:=HL.o s (List.mem_of_getElem? hs);have rp:=hst.row;have lp:=qh rp;simp only at lp;have py:=qg rp;have p0:=py 0;have p1:=py 1;have p2:=py 2;have p3:=py 3;have p4:=py 4;have p5:=py 5;have p6:=py 6;simp[stCs] at p0 p1 p2 p3 p4 p5 p6;have HST:=qj hst;have HS:=qj hs;obtain⟨rs,hv,hvl,hvc⟩:=HT.o;obtain⟨aq,cq,rfl⟩:=qq.slv hv;have hrl:rs.length=k:=by rw[hvl,List.length_take];omega
   have hrl2:rs.length<=1000:=by omega
   rw[hrl] at hv ⊢;have HV:=qj hv;have HRL:=qj hrl;clear hrl;have HVL:=qj hvl;have HVC:=qj hvc;clear py rp hst hs hbp hv hvl hvc HT;obtain⟨wo,rfl⟩:∃wo,wo=wr:=⟨_,rfl⟩
   go_wp2_with fail;obtain⟨dn,hdn⟩:∃dn,dn=s.deeds.length:=⟨_,rfl⟩
   have rt:=qy wo (.cells #[.int .i64 s.id,.int .i64 s.thread,.int .i64 s.status,.int .i64 s.beg,.int .i64 s.fin,.int .i64 s.tri,.slice da s.deeds.length dc] 56);have bt:Below wo.heap.size wo (wo.alloc (.cells #[.int .i64 s.id,.int .i64 s.thread,.int .i64 s.status,.int .i64 s.beg,.int .i64 s.fin,.int .i64 s.tri,.slice da s.deeds.length dc] 56)):=(Below.refl _ wo).alloc (Nat.le_refl _) _;generalize wo.alloc (.cells #[.int .i64 s.id,.int .i64 s.thread,.int .i64 s.status,.int .i64 s.beg,.int .i64 s.fin,.int .i64 s.tri,.slice da s.deeds.length dc] 56)=W6 at *;have lt6:=qh rt;have ty:=qg rt;have t6:=ty 6;simp at t6;have RT:=qj rt;have BT:=qj bt;have zt:=bt.size;clear ty rt bt p0 p1 p2 p3 p4 p5 p6 hdn;refine qT (W6.heap.size) [0,1,0,3,0,1,2,0,2] (.fin [0,1,2,4,5,3,6,7,8]) (by kernel_rfl) ?_;simp only[yp,qP,qD,sD,sE,sF,sG]
   repeat first|(refine qC fun K hK=>?_;go_simp;refine hK _ _ ?_;clear hK K)|(apply qJ;(intro w2 hw2;have hk1:=hw2.cell;have hk3:=hw2.1;clear hw2;go_simp;with_reducible rfl);simp only[Act.put,sA,sB,sC])
   refine qI (fun K hK=>?_);refine yF (f:=Dd.cells) (e:=291) (sz:=8) (B:=W6.heap.size) _ _ _ rfl _ 64 Tryz.underlying54 infoDd rfl rfl (by first|omega|(simp <;> omega)) (by first|omega|(simp <;> omega)) (by first|omega|(simp <;> omega)) ?_;intro w3 o3 b3 z3;refine hK _ _ (RN.KeepsN.of_below b3) ?_;clear hK K;have b3:Below W6.heap.size W6 w3:=(Below.refl _ W6).drew.trans b3;have z3':W6.heap.size<=w3.heap.size:=b3.size;refine qN (fun K hK=>?_);refine yD _ _ _ rfl _ 64 Tryz.underlying54 infoDd rfl o3 s.deeds rfl (qq.below HST.o.dds (BT.o.trans (b3.mono zt))).sl (by first|omega|(simp <;> omega)) rfl rfl Dd.len dd_one (by first|omega|(simp <;> omega)) (by first|omega|(simp <;> omega)) ?_;intro v' w4 o4 g4;refine hK _ _ ?_;clear hK K;have b4:=b3.trans (g4.below z3' fun j h=>(o3.lt j h).1);have o4:OwnD w4 W6.heap.size v' s.deeds:=o4;obtain⟨an,cn,rfl⟩:=qq.slv o4;have r4:=qp RT.o b4 lt6;have l4:=qh r4;have ne4:=qq.neT o4 r4 (by decide);have z4:W6.heap.size<=w4.heap.size:=b4.size;clear t6;have ty:=qg r4;have t0:=ty 0;have t1:=ty 1;have t2:=ty 2;have t3:=ty 3;have t4:=ty 4;have t5:=ty 5;have t6:=ty 6;simp at t0 t1 t2 t3 t4 t5 t6;have tf:∀j,w4.frozen? ⟨wo.heap.size,j,none⟩=false:=fun j=>qx r4 j;have O4:=qj o4;have B4:=qj b4;have R4:=qj r4;clear ty o4 b4 r4 o3 b3 z3 g4
   repeat (refine qC fun K hK=>?_;go_simp;refine hK _ _ ?_;clear hK K)
   refine qN (fun K hK=>?_);go_simp;refine hK _ _ ?_;clear hK K
   repeat refine qA ?_
   have o5:=qq.other (j:=6) O4.o ne4 (.slice an s.deeds.length cn);have b5:Below wo.heap.size wo (w4.setCell ⟨wo.heap.size,6,none⟩ (.slice an s.deeds.length cn)):=(BT.o.trans (B4.o.mono zt)).setCell (p:=⟨wo.heap.size,6,none⟩) (Nat.le_refl _) _;have r5:=qB R4.o 6 (.slice an s.deeds.length cn);have l5:wo.heap.size < (w4.setCell ⟨wo.heap.size,6,none⟩ (.slice an s.deeds.length cn)).heap.size:=qh r5;generalize w4.setCell ⟨wo.heap.size,6,none⟩ (.slice an s.deeds.length cn)=w5 at *;clear t0 t1 t2 t3 t4 t5 t6 tf;have ty:=qg r5;have t0:=ty 0;have t1:=ty 1;have t2:=ty 2;have t3:=ty 3;have t4:=ty 4;have t5:=ty 5;have t6:=ty 6;simp at t0 t1 t2 t3 t4 t5 t6;have HV5:=qj (qq.below HV.o b5);have HVC5:=qj (fun(j:Nat) (r:TxR) (t:St) (h1:rs[j]?=some r) (h2:(A.take k)[j]?=some t)=>(show TxOf r t/\OwnD w5 w.heap.size r.dv t.deeds from⟨(HVC.o j r t h1 h2).1,qq.below (HVC.o j r t h1 h2).2 b5⟩));have O5:=qj (qq.base o5 (show w.heap.size<=W6.heap.size by omega));have B5:=qj (HB.o.trans (b5.mono hz));have hz5:w.heap.size<=w5.heap.size:=by omega
   clear ty r5 o5 b5 HV HVC;go_wp2_with (at_builtin;refine qU rfl _ _ _ rfl _ 72 Tryz.underlying39 infoTx rfl HV5.o (⟨s.id,s.thread,s.status,s.beg,s.fin,s.tri,.slice an s.deeds.length cn⟩:TxR) hz5 (by rfl) (by rfl) (by first|rfl|simp) rfl (tx_one _) (by first|omega|(simp only[List.length_append,List.length_cons,List.length_nil,List.length_replicate];omega)) (by first|omega|(simp only[List.length_append,List.length_cons,List.length_nil,List.length_replicate];omega)) ?_;refine xt.halt ?_)
   refine xt.go ?_;intro g6 c6 w6 o6 G6;have o6:qq TxR.cells 56 7 w6 w.heap.size (.slice (some ⟨g6,0,none⟩) (rs.length+1) c6) (rs++[⟨s.id,s.thread,s.status,s.beg,s.fin,s.tri,.slice an s.deeds.length cn⟩]):=o6;have T6:=qj (TxsAt.snoc HV5.o HVL.o HVC5.o (s:=s) ⟨rfl,rfl,rfl,rfl,rfl,rfl⟩ O5.o o6 G6);have B6:=qj (B5.o.trans (G6.below B5.o.size fun j h=>(HV5.o.lt j h).1));clear o6 G6;go_wp2_with fail;go_roundw
   case rel=>exact⟨k+1,by omega,by go_num,by rw[take_step HS.o];exact T6.o,B6.o⟩
   case measure=>simp[intOf];omega
  ·obtain rfl:k=bs.length:=by omega
   have hT:=HT.o;rw[hlen,List.take_length] at hT;obtain⟨rs,hv,hvl,hvc⟩:=hT;obtain⟨aq,cq,rfl⟩:=qq.slv hv;have HT2:=qj (show TxsAt wr w.heap.size (.slice aq rs.length cq) A from⟨rs,hv,hvl,hvc⟩);clear hv hvl hvc HT;go_wp2;go_ret;exact⟨_,rfl,HT2.o,HB.o⟩
end
section
attribute [local irreducible] xL
theorem fed_bound {es:List Ev} {A:Au} (hF:Fed es A):A.length<=es.length/\∀s ∈ A,s.deeds.length<=es.length:=by
 induction hF with
 |nil=>exact⟨by simp,fun s hs=>(nomatch hs)⟩
 |@snoc l A A' e h hf ih=>have:=feed_bound hf ih;simpa using this
theorem sh_Table (ov vv:Value) (os:List Ob) (es:List Ev) (A:Au) (w:World) (ho:Sl w w.heap.size 2 ov os.length (os.flatMap Ob.cells)) (he:Sl w w.heap.size 8 vv es.length (es.flatMap Ev.cells)) (hne:os≠[]) (hr:RegOk os) (hel:es.length<=400) (hes:∀e ∈ es,EvOk os.length e) (hW:xa w) (hF:Fed es A):
  Calls Tryz.prog 13 #[.agg #[ov,vv]] w fun e w'=>∃v,e=.returned (.tuple #[v,.nilIface])/\TxsAt w' w.heap.size v A/\Below w.heap.size w w':=by
 obtain⟨ao,co,rfl,mo⟩:=ho.ex;obtain⟨ae,ce,rfl,me⟩:=he.ex;obtain⟨hA,hdl⟩:=fed_bound hF;have b0:Below w.heap.size w (w.alloc (.cells #[.slice ao os.length co,.slice ae es.length ce] 37)):=(Below.refl _ w).alloc (Nat.le_refl _) _;have hz0:w.heap.size < (w.alloc (.cells #[.slice ao os.length co,.slice ae es.length ce] 37)).heap.size:=by simp
 have hT:=qj (sh_taken (.slice ao os.length co) (.slice ae es.length ce) os es A _ ((ho.below b0).more b0.size) ((he.below b0).more b0.size) hne hr hel hes (hW.below b0) hF);have HD:=qj hdl;have B0:=qj b0;clear ho he hr hes hW b0 hF hdl;go_enter Tryz.func13,Tryz.ntmps13;go_wp2_with fail;generalize w.alloc (.cells #[.slice ao os.length co,.slice ae es.length ce] 37)=W at *;refine(hT.o).mono ?_;rintro e W1 ⟨bA,rfl,hA1,b1⟩;have hz1:=b1.size;have hTx:=qj (sh_Txs W1 hA1 (by omega) fun s hs=>by have:=HD.o s hs;omega);have B1:=qj (B0.o.trans (b1.mono B0.o.size));clear b1 hA1 hT;go_wp2_with fail;refine(hTx.o).mono ?_;rintro e W2 ⟨v,rfl,ht,b2⟩;have HT:=qj (ht.base (show w.heap.size<=W1.heap.size by omega));have B2:=qj (B1.o.trans (b2.mono (by omega)));clear hTx b2 ht;obtain⟨rs,hv,r⟩:=HT.o;obtain⟨a,c,rfl⟩:=qq.slv hv;clear hv r;go_wp2;refine bodyPost_ret (v:=.tuple #[.slice a rs.length c,.nilIface]) (by simp[results,Tryz.results13,go_sem]) rfl ?_;exact⟨_,rfl,HT.o,B2.o⟩
end
section
attribute [local irreducible] xL
def stpC (u:Int×Bool):List Value:=[.int .i64 u.1,.bool u.2]
theorem infoStep:(Tryz.prog.info? 58).map (fun i=>(i.zero,i.size,i.bytes))=some (some (.agg #[.int .i64 0,.bool false]),2,16):=by kernel_rfl
theorem step_one (u:Int×Bool):∀x ∈ stpC u,x.oneCell'=true:=by intro x hx;simp[stpC] at hx;rcases hx with rfl|rfl <;> rfl
def ErrAt (g:Nat) (w:World):Prop:=g < w.heap.size/\∃t v,w.cell? ⟨g,0,none⟩=some (.iface t v)
theorem ErrAt.below {g:Nat} {w w':World} (h:ErrAt g w) (hb:Below w.heap.size w w'):ErrAt g w':=by
 obtain⟨h1,t,v,h2⟩:=h;exact⟨by have:=hb.size;omega,t,v,qu hb h1 h2⟩
structure DdR (m:Nat) (d:Dd):Prop where
 obj:0<=d.obj/\d.obj < m
 op:d.op=1/\d.val=0\/d.op=2/\-1000000000<=d.val/\d.val<=1000000000
 key:d.key=0
theorem doD_R {ρ:List Int} {d:Dd} {m c:Nat} {x:Int} (h:DdR m d) (hr:d.ret≠0) (hc:d.obj=c) (hx:ρ[c]?=some x):
  doD ρ d=if (doR x d.op d.val).2.1=d.ret/\(doR x d.op d.val).2.2=d.got then some (ρ.set c (doR x d.op d.val).1) else none:=by
 unfold doD doR;rw[if_neg hr,hc,Int.toNat_natCast];rcases h.op with⟨h1,h2⟩|⟨h1,h2⟩
 ·have:¬d.op=2:=by omega
  rw[if_neg this,if_neg this,hx];have hs:ρ.set c x=ρ:=by
   apply List.ext_getElem?;intro j;by_cases e:c=j
   ·subst e;rw[List.getElem?_set_self (List.getElem?_eq_some_iff.1 hx).1,hx]
   ·rw [List.getElem?_set_ne e]
  simp only[hs,Option.some.injEq];by_cases h3:d.ret=3
  ·by_cases h4:x=d.got
   ·rw [if_pos ⟨h3,h4⟩,if_pos ⟨h3.symm,h4⟩]
   ·rw [if_neg (fun h=>h4 h.2),if_neg (fun h=>h4 h.2)]
  ·rw [if_neg (fun h=>h3 h.1),if_neg (fun h=>h3 h.1.symm)]
 ·rw [if_pos h1,if_pos h1]
  by_cases h3:d.ret=1/\d.got=0
  ·rw [if_pos h3,if_pos ⟨h3.1.symm,h3.2.symm⟩]
  ·rw [if_neg h3,if_neg (fun h=>h3 ⟨h.1.symm,h.2.symm⟩)]
theorem pl_fits_yes (d:Dd) (w:World):
  Calls Tryz.prog 172 #[.agg d.cells.toArray,.int .i64 d.ret,.int .i64 d.got] w fun e w'=>e=.returned .nilIface/\Below w.heap.size w w':=by
 obtain⟨o,p,k,v,r,g,a,b⟩:=d;have b0:Below w.heap.size w (w.alloc (.cells #[.int .i64 o,.int .i64 p,.int .i64 k,.int .i64 v,.int .i64 r,.int .i64 g,.int .i64 a,.int .i64 b] 291)):=(Below.refl _ w).alloc (Nat.le_refl _) _;have q1:(r !=r)=false:=by simp
 have q2:(g !=g)=false:=by simp
 simp only[Dd.cells];go_enter Tryz.func172,Tryz.ntmps172;go_wp2;go_ret;exact⟨rfl,b0⟩
theorem pl_fits_no (d:Dd) (ret got:Int) (hne:¬(ret=d.ret/\got=d.got)) (w:World) (hE:ErrAt 15 w):
  Calls Tryz.prog 172 #[.agg d.cells.toArray,.int .i64 ret,.int .i64 got] w fun e w'=>(∃t v,e=.returned (.iface t v))/\Below w.heap.size w w':=by
 obtain⟨hg,ty,va,hv⟩:=hE;obtain⟨o,p,k,v,r,g,a,b⟩:=d;have b0:Below w.heap.size w (w.alloc (.cells #[.int .i64 o,.int .i64 p,.int .i64 k,.int .i64 v,.int .i64 r,.int .i64 g,.int .i64 a,.int .i64 b] 291)):=(Below.refl _ w).alloc (Nat.le_refl _) _;simp only[Dd.cells] at hne ⊢;by_cases h1:ret=r
 ·have q1:(ret !=r)=false:=by simpa using h1
  have q2:(got !=g)=true:=by simpa using fun h2=>hne ⟨h1,h2⟩
  clear h1 hne;go_enter Tryz.func172,Tryz.ntmps172;go_wp2;go_ret;exact⟨⟨ty,va,rfl⟩,b0⟩
 ·have q1:(ret !=r)=true:=by simpa using h1
  clear h1 hne;go_enter Tryz.func172,Tryz.ntmps172;go_wp2;go_ret;exact⟨⟨ty,va,rfl⟩,b0⟩
theorem rep_none {σ:List Int} {ds:List Dd} {k:Nat} (h:rep σ (ds.take k)=none):rep σ ds=none:=by
 rw[←List.take_append_drop k ds,rep_app,h]
def PlPostF (w:World) (v:Value) (o:Option (List Int)) (e:Ending) (w':World):Prop:=(match o with
 |some τ=>∃v',e=.returned (.tuple #[stV v',.nilIface])/\OwnS w' 0 v' τ/\(v'=v\/∀k,v'.ownBlock=some k->w.heap.size<=k)
 |none=>∃t v,e=.returned (.tuple #[stV (.slice none 0 0),.iface t v]))/\Below w.heap.size w w'
def PlPost (w:World) (o:Option (List Int)) (e:Ending) (w':World):Prop:=(match o with
 |some τ=>∃v',e=.returned (.tuple #[stV v',.nilIface])/\OwnS w' 0 v' τ
 |none=>∃t v,e=.returned (.tuple #[stV (.slice none 0 0),.iface t v]))/\Below w.heap.size w w'
theorem pl_RunF (v dv:Value) (σ:List Int) (ds:List Dd) (w:World) (h:OwnS w 0 v σ) (hl:σ.length<=1000) (hd:Sl w w.heap.size 8 dv ds.length (ds.flatMap Dd.cells)) (hok:∀d ∈ ds,DdR σ.length d) (hE:ErrAt 15 w):
  Calls Tryz.prog 121 #[stV v,dv] w (PlPostF w v (rep σ ds)):=by
 obtain⟨a,c,rfl,hm⟩:=(qq.sl h).ex;obtain⟨ad,cd,rfl,md⟩:=hd.ex;have b0:Below w.heap.size w ((w.alloc (.cells #[.slice a σ.length c] 46)).alloc (.cells #[.slice none 0 0] 46)):=((Below.refl _ w).alloc (Nat.le_refl _) _).alloc (by simp) _;have r0:=qF (o:=.cells #[.slice none 0 0] 46) (qy w (.cells #[.slice a σ.length c] 46));have r1:=qy (w.alloc (.cells #[.slice a σ.length c] 46)) (.cells #[.slice none 0 0] 46);have hz:((w.alloc (.cells #[.slice a σ.length c] 46)).alloc (.cells #[.slice none 0 0] 46)).heap.size=w.heap.size+2:=by simp
 simp only[World.size_alloc] at r1;obtain⟨n0,hn0⟩:∃n0,n0=w.heap.size:=⟨_,rfl⟩
 go_enter Tryz.func121,Tryz.ntmps121;go_wp2_with fail;generalize (w.alloc (.cells #[.slice a σ.length c] 46)).alloc (.cells #[.slice none 0 0] 46)=W at *;have R0:=qj r0;have R1:=qj r1;have B0:=qj b0;have H:=qj h;have HD:=qj hd;have HOK:=qj hok;have HE:=qj hE;clear r0 r1 b0 h hd hok hE
 go_loopw [14] (fun p wr=>∃(i:Nat) (u:Value) (ρ:List Int),i<=ds.length/\p=.int .i64 i/\rep σ (ds.take i)=some ρ/\wr.heap[w.heap.size]?=some (.cells #[u] 46 (0,0))/\wr.heap[w.heap.size+1]?=some (.cells #[.slice none 0 0] 46 (0,0))/\OwnS wr 0 u ρ/\Below w.heap.size w wr/\W.heap.size<=wr.heap.size/\(u=.slice a σ.length c\/∀k,u.ownBlock=some k->w.heap.size<=k)) (fun p _=>ds.length - (intOf p).toNat)
 case atStart=>exact⟨0,_,σ,by omega,by go_num,rfl,R0.o,R1.o,qq.below H.o B0.o,B0.o,Nat.le_refl _,.inl rfl⟩
 case round=>
  obtain⟨i,u,ρ,hi,rfl,hrep,q0,q1,ho,hB,hz2,hu⟩:=hrel;have HU:=qj hu;have hρl:=rep_len hrep;obtain⟨au,cu,rfl,-⟩:=(qq.sl ho).ex;have HRL:=qj hρl;have HREP:=qj hrep;have HO:=qj ho;have HB:=qj hB;have Q0:=qj q0;have Q1:=qj q1;clear hrep ho hB q0 q1 hρl hu;by_cases hlt:i < ds.length
  ·obtain ⟨b,off,d,hat,hb,hx,hc⟩:=(HD.o.below HB.o).atF Dd.len rfl hlt
   have c0:=hc 0 (by decide);have c1:=hc 1 (by decide);have c2:=hc 2 (by decide);have c3:=hc 3 (by decide);have c4:=hc 4 (by decide);have c5:=hc 5 (by decide);have c6:=hc 6 (by decide);have c7:=hc 7 (by decide);have hdr:=HOK.o d (List.mem_of_getElem? hx);have htk:ds.take (i+1)=ds.take i++[d]:=by rw[List.take_add_one,hx];rfl
   have hsn:rep σ (ds.take (i+1))=doD ρ d:=by rw[htk,rep_snoc HREP.o]
   have hbw:b < wr.heap.size:=by omega
   obtain⟨o,p,k,vl,r,g,at0,bk⟩:=d;simp[Dd.cells] at c0 c1 c2 c3 c4 c5 c6 c7;have hkey:k=0:=hdr.key;subst hkey hat;have HX:=qj hx;have HS:=qj hsn;have HDR:=qj hdr;clear hc hx hsn htk hdr;by_cases hr0:r=0
   ·subst hr0
    go_wp2_with fail;go_roundw
    case rel=>
     have hb:=HB.o.alloc (show w.heap.size<=wr.heap.size by omega) (.cells #[.int .i64 o,.int .i64 p,.int .i64 0,.int .i64 vl,.int .i64 0,.int .i64 g,.int .i64 at0,.int .i64 bk] 291);refine⟨i+1,_,ρ,by omega,by go_num,by rw[HS.o];simp[doD],qF Q0.o,qF Q1.o,qq.alloc HO.o _,hb,by simp;omega,HU.o⟩
    case measure=>simp[intOf];omega
   ·have q1:(r==0)=false:=by simpa using hr0
    obtain⟨cc,hcc⟩:=Int.eq_ofNat_of_zero_le HDR.o.obj.1;simp only at hcc;subst hcc;have hcl:cc < ρ.length:=by have:=HDR.o.obj.2;have:=HRL.o;simp only at *;omega
    obtain⟨x,hxx⟩:∃x,ρ[cc]?=some x:=⟨_,List.getElem?_eq_getElem hcl⟩
    have hdo:=doD_R HDR.o hr0 rfl hxx;have hop:=HDR.o.op;simp only at hdo hop;have hDo:=fun(X:World) (hX:SlS X X.heap.size (.slice au ρ.length cu) ρ)=>st_Do _ ρ cc x p vl X hX (by have:=HRL.o;omega) hxx hop;generalize doR x p vl=D at *;obtain⟨D1,D2,D3⟩:=D;simp only at hdo;have HDO:=qj hdo;have y0:=qg Q0.o 0;simp at y0;have y0l:=qh Q0.o;obtain⟨W2,rfl⟩:∃W2,W2=wr:=⟨_,rfl⟩
    clear hdo hop hxx;go_wp2_with fail;have b2:Below W2.heap.size W2 (W2.alloc (.cells #[.int .i64 (cc:Int),.int .i64 p,.int .i64 0,.int .i64 vl,.int .i64 r,.int .i64 g,.int .i64 at0,.int .i64 bk] 291)):=(Below.refl _ W2).alloc (Nat.le_refl _) _;have rd:=qy W2 (.cells #[.int .i64 (cc:Int),.int .i64 p,.int .i64 0,.int .i64 vl,.int .i64 r,.int .i64 g,.int .i64 at0,.int .i64 bk] 291);have zd:W2.heap.size < (W2.alloc (.cells #[.int .i64 (cc:Int),.int .i64 p,.int .i64 0,.int .i64 vl,.int .i64 r,.int .i64 g,.int .i64 at0,.int .i64 bk] 291)).heap.size:=by simp
    generalize W2.alloc (.cells #[.int .i64 (cc:Int),.int .i64 p,.int .i64 0,.int .i64 vl,.int .i64 r,.int .i64 g,.int .i64 at0,.int .i64 bk] 291)=W3 at *;refine(hDo W3 (((qq.sl HO.o).below b2).more b2.size)).mono ?_;rintro e W4 ⟨v',rfl,o4,b4⟩;obtain⟨a',c',rfl,-⟩:=(qq.sl o4).ex;have rd:=qp rd b4 zd;have y:=qg rd;have e0:=y 0;have e1:=y 1;have e2:=y 2;have e3:=y 3;have e4:=y 4;have e5:=y 5;have e6:=y 6;have e7:=y 7;simp at e0 e1 e2 e3 e4 e5 e6 e7;have b5:Below W2.heap.size W2 W4:=b2.trans (b4.mono b2.size);have hz5:=b5.size;have rdl:=qh rd;have O4:=qj o4;have B5:=qj b5;clear y rd b2 b4 b5 o4;by_cases hfit:D2=r/\D3=g
    ·have hdo:=HDO.o
     rw[if_pos hfit] at hdo;obtain⟨rfl,rfl⟩:=hfit;go_wp2_with fail;have b6:Below W4.heap.size W4 (W4.alloc (.cells #[.slice a' ρ.length c'] 46)):=(Below.refl _ W4).alloc (Nat.le_refl _) _;have r6:=qy W4 (.cells #[.slice a' ρ.length c'] 46);have z6:W4.heap.size < (W4.alloc (.cells #[.slice a' ρ.length c'] 46)).heap.size:=by simp
     generalize W4.alloc (.cells #[.slice a' ρ.length c'] 46)=W5 at *;refine(pl_fits_yes ⟨cc,p,0,vl,D2,D3,at0,bk⟩ W5).mono ?_;rintro e W6 ⟨rfl,b7⟩;have r7:=qp r6 b7 z6;have f0:=qg r7 0;simp at f0;have f0l:=qh r7;have b8:Below W2.heap.size W2 W6:=B5.o.trans ((b6.mono hz5).trans (b7.mono (by omega)));have q0:=qp Q0.o b8 y0l;have q1:=qp Q1.o b8 (qh Q1.o);have p0:=qg q0 0;simp at p0;have p0f:=qx q0 0;have p0l:=qh q0;have hq0:=qB q0 0 (.slice a' ρ.length c');have hq1:=qK (g':=w.heap.size) (j:=0) (v:=.slice a' ρ.length c') q1 (by omega);have o8:=qq.below (qq.below O4.o b6) b7;have o9:=qq.other (j:=0) o8 (qq.neT o8 q0 (by decide)) (.slice a' ρ.length c');have B9:=qj ((HB.o.trans (b8.mono (by omega))).setCell (p:=⟨w.heap.size,0,none⟩) (Nat.le_refl _) (.slice a' ρ.length c'));have hz9:=b8.size;have Q0':=qj hq0;have Q1':=qj hq1;have O9:=qj o9;clear r6 r7 b6 b7 b8 q0 q1 hq0 hq1 o8 o9;go_wp2_with fail;go_roundw
     case rel=>exact⟨i+1,.slice a' ρ.length c',ρ.set cc D1,by omega,by go_num,by rw[HS.o,hdo],Q0'.o,Q1'.o,by simpa using qq.base O9.o (Nat.zero_le _),B9.o,by simp;omega,.inr fun k e=>by have:=(qq.lt O9.o k (by rwa [List.length_set])).1;omega⟩
     case measure=>simp[intOf];omega
    ·have hdo:=HDO.o
     rw[if_neg hfit] at hdo;go_wp2_with fail;have b6:Below W4.heap.size W4 (W4.alloc (.cells #[.slice a' ρ.length c'] 46)):=(Below.refl _ W4).alloc (Nat.le_refl _) _;generalize W4.alloc (.cells #[.slice a' ρ.length c'] 46)=W5 at *;have hE5:ErrAt 15 W5:=((HE.o.below HB.o).below B5.o).below b6;refine(pl_fits_no ⟨cc,p,0,vl,r,g,at0,bk⟩ D2 D3 hfit W5 hE5).mono ?_;rintro e W6 ⟨⟨ty,va,rfl⟩,b7⟩;have b8:Below W2.heap.size W2 W6:=B5.o.trans ((b6.mono hz5).trans (b7.mono (by have:=b6.size;omega)));have q1:=qp Q1.o b8 (qh Q1.o);have p0:=qg q1 0;simp at p0;have p0f:=qx q1 0;have p0l:=qh q1;have hq1:=qB q1 0 (.slice none 0 0);have B9:=qj ((HB.o.trans (b8.mono (by omega))).setCell (p:=⟨w.heap.size+1,0,none⟩) (show w.heap.size<=w.heap.size+1 by omega) (.slice none 0 0));have Q1':=qj hq1;clear b6 b7 b8 q1 hq1 hE5;go_wp2_with fail;have b10:=B9.o.alloc B9.o.size (.cells #[.int .i64 i,.iface ty va] 110);have c0:=qg (qF (o:=.cells #[.int .i64 i,.iface ty va] 110) Q1'.o) 0;simp at c0;refine bodyPost_ret (v:=.tuple #[stV (.slice none 0 0),.iface 108 (.pointer (some ⟨W6.heap.size,0,none⟩))]) (by simp[results,Tryz.results121,go_sem,c0]) rfl ?_;refine⟨?_,b10⟩;rw[rep_none (HS.o.trans hdo)];exact⟨_,_,rfl⟩
  ·obtain rfl:i=ds.length:=by omega
   have q0:=qg Q0.o 0;have q1:=qg Q1.o 0;simp at q0 q1;have q1f:=qx Q1.o 0;have ql0:=qh Q0.o;have ql1:=qh Q1.o;have hq1:=qj (qB Q1.o 0 (.slice au ρ.length cu));go_wp2_with fail;have c0:=qg hq1.o 0;simp at c0;refine bodyPost_ret (v:=.tuple #[stV (.slice au ρ.length cu),.nilIface]) (by simp[results,Tryz.results121,go_sem,c0]) rfl ?_;have hrep:=HREP.o;rw[List.take_length] at hrep;refine⟨?_,HB.o.setCell (p:=⟨w.heap.size+1,0,none⟩) (show w.heap.size<=w.heap.size+1 by omega) _⟩;rw[hrep];exact⟨_,rfl,qq.other (j:=0) HO.o (qq.neT HO.o Q1.o (by decide)) _,HU.o⟩
theorem pl_Run (v dv:Value) (σ:List Int) (ds:List Dd) (w:World) (h:OwnS w 0 v σ) (hl:σ.length<=1000) (hd:Sl w w.heap.size 8 dv ds.length (ds.flatMap Dd.cells)) (hok:∀d ∈ ds,DdR σ.length d) (hE:ErrAt 15 w):
  Calls Tryz.prog 121 #[stV v,dv] w (PlPost w (rep σ ds)):=(pl_RunF v dv σ ds w h hl hd hok hE).mono fun e w' ⟨h1,h2⟩=>⟨by
 cases hr:rep σ ds with
 |none=>rw[hr] at h1;exact h1
 |some τ=>rw[hr] at h1;obtain⟨v',k1,k2,-⟩:=h1;exact⟨v',k1,k2⟩,h2⟩
end
section
attribute [local irreducible] xL
def paC {m:Nat} (n:NdK m):List Value:=[.int .i64 (n.1.1:Nat),.string (keyB n.1.2)]
theorem infoPa:(Tryz.prog.info? 176).map (fun i=>(i.zero,i.size,i.bytes))=some (some (.agg #[.int .i64 0,.string ⟨#[]⟩]),2,24):=by kernel_rfl
theorem pa_one {m:Nat} (n:NdK m):∀u ∈ paC n,u.oneCell'=true:=by intro u hu;simp[paC] at hu;rcases hu with rfl|rfl <;> rfl
structure NR where
 p:Nat
 sv:Value
def NR.cells (r:NR):List Value:=[.int .i64 (r.p:Nat),r.sv]
theorem NR.len (r:NR):r.cells.length=2:=rfl
abbrev NR.val (r:NR):Value:=.agg #[.int .i64 (r.p:Nat),r.sv]
theorem infoNd:(Tryz.prog.info? 181).map (fun i=>(i.zero,i.size,i.bytes))=some (some (.agg #[.int .i64 0,.slice none 0 0]),2,32):=by kernel_rfl
theorem nd_one (p:Nat) {a:Option Addr} {n c:Nat}:∀u ∈ NR.cells ⟨p,.slice a n c⟩,u.oneCell'=true:=by intro u hu;simp[NR.cells] at hu;rcases hu with rfl|rfl <;> rfl
def yO (w:World) (r:NR) (n:Nd):Prop:=r.p=n.1/\OwnS w 0 r.sv n.2
theorem yO.below {w w':World} {r:NR} {n:Nd} (h:yO w r n) (hb:Below w.heap.size w w'):yO w' r n:=⟨h.1,qq.below h.2 hb⟩
theorem yO.kd {w w':World} {r:NR} {n:Nd} {T:TypeId->Prop} (h:yO w r n) (hk:Kd T w w') (ht:¬T 99):yO w' r n:=⟨h.1,qq.kd h.2 hk ht⟩
theorem yO.slv {w:World} {r:NR} {n:Nd} (h:yO w r n):∃a c,r.sv=.slice a n.2.length c:=let ⟨a,c,e,_⟩:=(qq.sl h.2).ex;⟨a,c,e⟩
structure SetAt (m:Nat) (w:World) (B bS bm:Nat) (most:Nat) (cv:Value) (L:List (NdK m)):Prop where
 row:w.heap[bS]?=some (.cells #[.int .i64 (most:Nat),.map (some bm),cv] 262 (0,0))
 map:∃M:NdK m->Option Value,yL kapV w bm M/\(∀k,(M k).isSome=true↔k ∈ L)/\∀k u,M k=some u->∃n:Int,u=.int .i64 n
 came:qq paC 176 2 w B cv L
 hB:B<=bS/\B<=bm
section
variable {m B bS bm most:Nat} {cv:Value} {L:List (NdK m)} {w w':World}
theorem SetAt.below (h:SetAt m w B bS bm most cv L) (hb:Below w.heap.size w w'):SetAt m w' B bS bm most cv L:=by
 obtain⟨h1,⟨M,h2,h3⟩,h4,h5⟩:=h;exact⟨qp h1 hb (qh h1),⟨M,h2.below hb h2.lt,h3⟩,qq.below h4 hb,h5⟩
theorem zeroIdx (w:World):(zeroValue 3).run Tryz.prog w=.ok (.int .i64 0) w:=by kernel_rfl
theorem set_look (h:SetAt m w B bS bm most cv L) (k:NdK m) {b:Bool} (hb:b=true↔k ∈ L):∃v,∀X:World,X.heap[bm]?=w.heap[bm]?->(Instr.lookup 259 (.map (some bm)) (kapV k) true).run Tryz.prog X=.ok (.tuple #[.int .i64 v,.bool b]) X:=by
 obtain⟨M,h2,h3,h4⟩:=h.map;have e:(M k).isSome=b:=by
  cases hM:(M k).isSome with
  |true=>exact(hb.2 ((h3 k).1 hM)).symm
  |false=>
   cases hbb:b with
   |false=>rfl
   |true=>rw[(h3 k).2 (hb.1 hbb)] at hM;cases hM
 cases hM:M k with
 |none=>
  refine⟨0,fun X hX=>?_⟩;have:=((h2.obj hX).look (kap m) Tryz.underlying259 (zeroIdx X) k rfl).2;rw[e,hM] at this;exact this
 |some u=>
  obtain⟨n,rfl⟩:=h4 k u hM;refine⟨n,fun X hX=>?_⟩;have:=((h2.obj hX).look (kap m) Tryz.underlying259 (zeroIdx X) k rfl).2;rw[e,hM] at this;exact this
theorem m_Has (h:SetAt m w B bS bm most cv L) (k:NdK m) {p:Nat} {s:ByteArray} (hk:kapV k=.agg #[.int .i64 p,.string s]) {b:Bool} (hb:b=true↔k ∈ L):
  Calls Tryz.prog 139 #[.pointer (some ⟨bS,0,none⟩),.agg #[.int .i64 p,.string s]] w fun e w'=>e=.returned (.bool b)/\Below w.heap.size w w':=by
 have b0:Below w.heap.size w (w.alloc (.cells #[.int .i64 p,.string s] 176)):=(Below.refl _ w).alloc (Nat.le_refl _) _;have h0:=h.below b0;have y1:=qg h0.row 1;simp at y1;have yl:=qh h0.row;have r0:=qy w (.cells #[.int .i64 p,.string s] 176);have bl:bm < w.heap.size:=by obtain⟨M,h2,-⟩:=h.map;exact h2.lt
 go_enter Tryz.func139,Tryz.ntmps139;go_wp2_with fail;have hz:w.heap.size < (w.alloc (.cells #[.int .i64 p,.string s] 176)).heap.size:=by simp
 generalize w.alloc (.cells #[.int .i64 p,.string s] 176)=W at *;have z0:=qg r0 0;have z1:=qg r0 1;simp at z0 z1;have zl:=qh r0;obtain⟨v,lk⟩:=set_look h0 k hb;rw[hk] at lk;have blW:bm < W.heap.size:=by omega
 refine qT (W.heap.size) [0,0,0,1,1,1,0,0,0,0,0] (.fin [0,1,2,3,4,5,6,7,8,9,10]) (by kernel_rfl) ?_;simp only[yp,qP,qD,sD,sE,sF,sG]
 repeat first|(refine qC fun K hK=>?_;go_simp;refine hK _ _ ?_;clear hK K)|(apply qJ;(intro w2 hw2;have hk1:=hw2.cell;have hk3:=hw2.1;clear hw2;go_simp;with_reducible rfl);simp only[Act.put,sA,sB,sC])
 refine wpL_r (fun K hK=>?_);refine⟨.tuple #[.int .i64 v,.bool b],fun w2 hw2=>?_,?_⟩
 ·have:=lk w2 (hw2.2 bm blW)
  go_simp
 refine hK _ _ ?_;clear hK K
 repeat first|(refine qC fun K hK=>?_;go_simp;refine hK _ _ ?_;clear hK K)|refine qA ?_
 go_wp2;go_ret;exact⟨rfl,b0.drew⟩
def SFr (w w':World) (B:Nat):Prop:=Kd (fun t=>t=262\/t=176) w w'/\Below B w w'
def AddPost (m:Nat) (w:World) (B bS bm most:Nat) (L:List (NdK m)) (k:NdK m) (ev:Value) (e:Ending) (w':World):Prop:=
 (k ∈ L/\e=.returned (.tuple #[.bool false,.nilIface])/\Below w.heap.size w w')\/
 (k ∉ L/\L.length=most/\e=.returned (.tuple #[.bool false,ev])/\Below w.heap.size w w')\/
 (k ∉ L/\L.length < most/\e=.returned (.tuple #[.bool true,.nilIface])/\(∃cv',SetAt m w' B bS bm most cv' (L++[k]))/\SFr w w' B)
theorem m_Add (h:SetAt m w B bS bm most cv L) (hB:B<=w.heap.size) (hl:L.length<=most) (hm:most<=70000) (k:NdK m) {t0:TypeId} {v0:Value} (hev:w.cell? ⟨0,0,none⟩=some (.iface t0 v0)) (hel:0 < w.heap.size):
  Calls Tryz.prog 92 #[.pointer (some ⟨bS,0,none⟩),kapV k] w (AddPost m w B bS bm most L k (.iface t0 v0)):=by
 classical
 have b0:Below w.heap.size w (w.alloc (.cells #[.int .i64 (k.1.1:Nat),.string (keyB k.1.2)] 176)):=(Below.refl _ w).alloc (Nat.le_refl _) _;have h0:=h.below b0;have r0:=qy w (.cells #[.int .i64 (k.1.1:Nat),.string (keyB k.1.2)] 176);have hev0:=qu b0 hel hev;have hz:(w.alloc (.cells #[.int .i64 (k.1.1:Nat),.string (keyB k.1.2)] 176)).heap.size=w.heap.size+1:=by simp
 unfold kapV;go_enter Tryz.func92,Tryz.ntmps92;go_wp2_with fail;generalize w.alloc (.cells #[.int .i64 (k.1.1:Nat),.string (keyB k.1.2)] 176)=W at *;obtain⟨bb,hbb⟩:∃bb:Bool,bb=true↔k ∈ L:=⟨decide (k ∈ L),by simp⟩
 refine(m_Has h0 k rfl hbb).mono ?_;rintro e W1 ⟨rfl,b1⟩;have h1:=h0.below b1;have r1:=qp r0 b1 (by omega);have hev1:=qu b1 (by omega) hev0;have B1:=qj (b0.trans (b1.mono (by omega)));have hz1:=b1.size;have hel1:0 < W1.heap.size:=by omega
 clear h h0 r0 hev hev0 b0 b1;cases hbc:bb with
 |true=>
  have hkL:k ∈ L:=hbb.1 hbc;clear hbb;subst hbc;go_wp2_with fail;refine bodyPost_ret (v:=.tuple #[.bool false,.nilIface]) (by simp[results,Tryz.results92,go_sem]) rfl ?_;exact .inl ⟨hkL,rfl,B1.o⟩
 |false=>
  subst hbc;have hnk:k ∉ L:=fun hk=>by have:=hbb.2 hk;cases this
  obtain⟨ac,cc,rfl,-⟩:=(qq.sl h1.came).ex;have y:=qg h1.row;have y0:=y 0;have y1:=y 1;have y2:=y 2;simp at y0 y1 y2;have yl:=qh h1.row;have z0:=qg r1 0;have z1:=qg r1 1;simp at z0 z1;have zl:=qh r1;have HN:=qj hnk;clear y hbb hnk;by_cases hfull:L.length=most
  ·have q1:((L.length:Int)==(most:Int))=true:=by simp;omega
   go_wp2_with fail;refine qT (W1.heap.size) [0,0,0,1,0,0,0,0,1,0] (.fin [0,1,2,3,4,5,6,7,8,9]) (by kernel_rfl) ?_;simp only[yp,qP,qD,sD,sE,sF,sG]
   repeat first|(refine qC fun K hK=>?_;go_simp;refine hK _ _ ?_;clear hK K)|(apply qJ;(intro w2 hw2;have hk1:=hw2.cell;have hk3:=hw2.1;clear hw2;go_simp;with_reducible rfl);simp only[Act.put,sA,sB,sC])|refine qA ?_
   go_wp2_with fail;refine qT (W1.heap.size) [1,0,0] (.fin [0,1,2]) (by kernel_rfl) ?_;simp only[yp,qP,qD,sD,sE,sF,sG]
   repeat first|(refine qC fun K hK=>?_;go_simp;refine hK _ _ ?_;clear hK K)|(apply qJ;(intro w2 hw2;have hk1:=hw2.cell;have hk3:=hw2.1;clear hw2;go_simp;with_reducible rfl);simp only[Act.put,sA,sB,sC])|refine qA ?_
   go_wp2_with fail;refine bodyPost_ret (v:=.tuple #[.bool false,.iface t0 v0]) (by simp[results,Tryz.results92,go_sem]) rfl ?_;exact .inr (.inl ⟨HN.o,hfull,rfl,B1.o.drew.drew⟩)
  ·have q1:((L.length:Int)==(most:Int))=false:=by simp;omega
   have hltm:L.length < most:=by omega
   clear hfull;go_wp2_with fail;refine qT (W1.heap.size) [0,0,0,1,0,0,0,0,1,0] (.fin [0,1,2,3,4,5,6,7,8,9]) (by kernel_rfl) ?_;simp only[yp,qP,qD,sD,sE,sF,sG]
   repeat first|(refine qC fun K hK=>?_;go_simp;refine hK _ _ ?_;clear hK K)|(apply qJ;(intro w2 hw2;have hk1:=hw2.cell;have hk3:=hw2.1;clear hw2;go_simp;with_reducible rfl);simp only[Act.put,sA,sB,sC])|refine qA ?_
   go_wp2_with fail;obtain⟨M,hM,hM2,hM3'⟩:=h1.map;refine qT (W1.heap.size) [0,0,0,1,1,0,0,0,1,0,2] (.fin [0,1,2,3,4,5,6,7,8,9,10]) (by kernel_rfl) ?_;simp only[yp,qP,qD,sD,sE,sF,sG]
   repeat first|(refine qC fun K hK=>?_;go_simp;refine hK _ _ ?_;clear hK K)|(apply qJ;(intro w2 hw2;have hk1:=hw2.cell;have hk3:=hw2.1;clear hw2;go_simp;with_reducible rfl);simp only[Act.put,sA,sB,sC])
   refine qN (fun K hK=>?_);obtain⟨w2,hrun,hMw,ht⟩:=hM.drew.drew.store (kap m) (t:=259) Tryz.underlying259 k (.int .i64 L.length);unfold kapV at hrun;go_simp;refine hK _ _ ?_;clear hK K
   repeat refine qA ?_
   have bt:Below B W1 w2:=(Below.refl _ W1).drew.drew.trans (Below.turned ht h1.hB.2);have hz2:w2.heap.size=W1.heap.size:=turned_size (w:=W1.drew.drew) ht;have hBw2:B<=w2.heap.size:=by have:=h1.hB.1;have:=yl;omega
   have rS:w2.heap[bS]?=_:=(xb (w:=W1.drew.drew) ht (g:=bS) h1.row).trans h1.row;have rP:w2.heap[w.heap.size]?=_:=(xb (w:=W1.drew.drew) ht (g:=w.heap.size) r1).trans r1;have oC:qq paC 176 2 w2 B (.slice ac L.length cc) L:=qq.kd (T:=fun _=>False) h1.came (Kd.turned (w:=W1.drew.drew) ht) (fun h=>h);have kd2:Kd (fun t=>t=262\/t=176) W1 w2:=Kd.turned (w:=W1.drew.drew) ht;have y:=qg rS;have y0:=y 0;have y1:=y 1;have y2:=y 2;simp at y0 y1 y2;have yl:=qh rS;have z:=qg rP;have z0:=z 0;have z1:=z 1;simp at z0 z1;have zl:=qh rP;have zf:=fun j=>qx rS j;clear y z hz2;go_wp2_with fail;refine qT (w2.heap.size) [0,0,0,0,1,1,3,2,0,0,2] (.fin [0,1,2,3,4,5,6,7,8,9,10]) (by kernel_rfl) ?_;simp only[yp,qP,qD,sD,sE,sF,sG]
   repeat first|(refine qC fun K hK=>?_;go_simp;refine hK _ _ ?_;clear hK K)|(apply qJ;(intro w2 hw2;have hk1:=hw2.cell;have hk3:=hw2.1;clear hw2;go_simp;with_reducible rfl);simp only[Act.put,sA,sB,sC])
   refine qI (fun K hK=>?_);go_simp;refine hK _ _ (RN.KeepsN.alloc w2.drew _ (Nat.le_refl _)) ?_;clear hK K;refine qN (fun K hK=>?_);rw[drew_alloc];refine wp_appF _ _ _ rfl _ 24 Tryz.underlying260 infoPa rfl oC.drew k (show B<=w2.drew.heap.size from hBw2) (by rfl) (by rfl) (by first|rfl|simp) rfl (pa_one _) (by first|omega|(simp only[List.length_append,List.length_cons,List.length_nil,List.length_replicate];omega)) (by first|omega|(simp only[List.length_append,List.length_cons,List.length_nil,List.length_replicate];omega)) ?_;intro g1 c1 w3 o3 G3;refine hK _ _ ?_;clear hK K;have neS:(Value.slice ac L.length cc).ownBlock≠some bS:=qq.neT oC rS (by decide);have neM:(Value.slice ac L.length cc).ownBlock≠some bm:=fun e=>by
    obtain⟨es,cl,hes⟩:=hMw.isMap;obtain⟨c2,hc2⟩:=oC.keepObj bm e;rw[hes] at hc2;cases hc2
   have rS3:w3.heap[bS]?=some _:=qQ (w:=w2.drew) rS G3 neS;have hM3:w3.heap[bm]?=w2.heap[bm]?:=G3.grown.block bm hMw.lt fun e=>neM e.symm;have y:=qg rS3;have y2:=y 2;simp at y2;have yf:=qx rS3 2;have yl3:=qh rS3;have z3:w2.heap.size<=w3.heap.size:=G3.size;have rF:=qB rS3 2 (.slice (some ⟨g1,0,none⟩) (L.length+1) c1);have oF:=qq.other (j:=2) o3 (qq.neT o3 rS3 (by decide)) (.slice (some ⟨g1,0,none⟩) (L.length+1) c1);have hMF:yL kapV (w3.setCell ⟨bS,2,none⟩ (.slice (some ⟨g1,0,none⟩) (L.length+1) c1)) bm (rupV M k (some (.int .i64 L.length))):=(hMw.obj hM3).set fun e=>by
    subst e;obtain⟨es,cl,hes⟩:=hMw.isMap;rw[rS] at hes;cases hes
   have bF:Below B w3 (w3.setCell ⟨bS,2,none⟩ (.slice (some ⟨g1,0,none⟩) (L.length+1) c1)):=(Below.refl _ w3).setCell (p:=⟨bS,2,none⟩) h1.hB.1 _;have kF:Kd (fun t=>t=262\/t=176) w3 (w3.setCell ⟨bS,2,none⟩ (.slice (some ⟨g1,0,none⟩) (L.length+1) c1)):=Kd.set rS3 (.inl rfl) _;have k3:Kd (fun t=>t=262\/t=176) w2 w3:=(Kd.grw (w:=w2.drew) oC.drew G3).mono fun t e=>.inr e;have b3:Below B w2 w3:=(Below.refl B w2).drew.trans (G3.below (show B<=w2.drew.heap.size from hBw2) fun j hj=>(qq.lt oC j hj).1);have BF:=qj ((((B1.o.mono hB).trans bt).trans b3).trans bF);have KF:=qj (((Kd.below B1.o).trans (kd2.trans k3)).trans kF);have RF:=qj rF;have OF:=qj oF;have MF:=qj hMF;clear y y0 y1 bt oC kd2 rS rP hMw hM3 G3 o3 rS3 rF oF hMF bF kF k3 b3 neS neM hM
   repeat (refine qC fun K hK=>?_;go_simp;refine hK _ _ ?_;clear hK K)
   refine qN (fun K hK=>?_);go_simp;refine hK _ _ ?_;clear hK K
   repeat refine qA ?_
   go_wp2_with fail;refine bodyPost_ret (v:=.tuple #[.bool true,.nilIface]) (by simp[results,Tryz.results92,go_sem]) rfl ?_;refine .inr (.inr ⟨HN.o,hltm,rfl,⟨_,⟨by simpa using RF.o,⟨_,MF.o,fun x=>?_,fun x u hx=>?_⟩,by simpa using OF.o,h1.hB⟩⟩,KF.o,BF.o⟩)
   ·by_cases e:x=k
    ·subst e;simp[rupV_same]
    ·rw [rupV_ne e,hM2 x];simp[e]
   ·by_cases e:x=k
    ·subst e;rw[rupV_same] at hx;exact⟨_,(Option.some.inj hx).symm⟩
    ·rw [rupV_ne e] at hx;exact hM3' x u hx
end
end
