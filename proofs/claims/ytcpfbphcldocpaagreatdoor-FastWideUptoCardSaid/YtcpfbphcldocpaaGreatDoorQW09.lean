/- Parts of the proof; the first: The automaton of well-formed histories of all kinds of objects is made. Conditions: those of each theorem, as typed. -/
import Derived.Test.YtcpfbphcldocpaaGreatDoorQW08
import Derived.Test.YtcpfbphcldocpaaGreatDoorQW01
import Derived.Test.YtcpfbphcldocpaaGreatDoorQW03
import Derived.Test.YtcpfbphcldocpaaGreatDoorQW07
set_option linter.unusedVariables false
set_option linter.unusedSimpArgs false
set_option linter.unusedSectionVars false
set_option maxRecDepth 100000
set_option maxHeartbeats 4000000
namespace Go.Proofs.YtcpfbphcldocpaaGreatDoor
open Go.Maps Go.RowKit
theorem qcA (ad:Addr) (c:Nat) (os:List Ob) (w:World) (h:Sl w w.heap.size 2 (.slice (some ad) os.length c) os.length (os.flatMap Ob.cells)) (hl:os.length<=8):
  Calls Tryz.prog 127 #[.slice (some ad) os.length c] w fun e w'=>∃v',e=.returned v'/\qj Ob.cells 62 2 w' w.heap.size v' os/\Below w.heap.size w w':=by
 have H:=qh h;have b0:Below w.heap.size w (w.alloc (.cells #[] 62)):=(Below.refl _ w).alloc (Nat.le_refl _) _;have ow:qj Ob.cells 62 2 (w.alloc (.cells #[] 62)) w.heap.size (.slice (some ⟨w.heap.size,0,none⟩) 0 0) []:=qj.lit (f:=Ob.cells) w w.heap.size (Nat.le_refl _) [] Ob.len (by decide);have hs:=h.alloc (Nat.le_refl _) (.cells #[] 62);have OW:=qh ow;have HS:=qh hs;have B0:=qh b0;clear h b0 ow hs;have heq:∀X,Sem.run Tryz.prog (binOp BinOp.eql 22 (.slice (some ad) os.length c) (.slice none 0 0)) X=.ok (.bool false) X:=fun X=>by kernel_rfl
 go_enter Tryz.func127,Tryz.ntmps127;go_wp2_with (at_builtin;refine xU rfl _ _ _ rfl _ 16 Tryz.underlying22 Vg rfl OW.o os rfl HS.o (by first|omega|(simp <;> omega)) rfl rfl Ob.len VS (by first|omega|(simp <;> omega)) (by first|omega|(simp <;> omega)) ?_;refine qK.halt ?_)
 refine qK.go ?_;intro v' w' o2 g2;have b2:=B0.o.trans (g2.below B0.o.size fun k h=>(OW.o.lt k h).1);have O2:=qh o2;have B2:=qh b2;clear o2 g2 b2 heq;obtain⟨av,cv,rfl,-⟩:∃a c,v'=.slice a os.length c/\True:=by
  rcases qj.form O2.o with⟨h1,h2⟩|⟨g,cap,h1,-⟩
  ·exact ⟨_,_,by rw[h1,h2];rfl,trivial⟩
  ·exact ⟨_,_,h1,trivial⟩
 go_wp2;go_ret;exact⟨_,rfl,O2.o,B2.o⟩
theorem qcB (v:Value) (os:List Ob) (w:World) (h:Sl w w.heap.size 2 v os.length (os.flatMap Ob.cells)) (hl:os.length<=8):
  Calls Tryz.prog 127 #[v] w fun e w'=>∃v',e=.returned v'/\qj Ob.cells 62 2 w' w.heap.size v' os/\Below w.heap.size w w':=by
 obtain⟨a,c,hv,h1,h2,h3⟩:=h;cases a with
 |some ad=>
  subst hv;exact qcA ad c os w ⟨_,_,rfl,h1,h2,h3⟩ hl
 |none=>
  have hne:os=[]:=by
   cases os with
   |nil=>rfl
   |cons o l=>obtain⟨b,off,hb,-⟩:=h3 (by simp);cases hb
  subst hne;subst hv;have heq:∀X,Sem.run Tryz.prog (binOp BinOp.eql 22 (.slice none 0 c) (.slice none 0 0)) X=.ok (.bool true) X:=fun X=>by kernel_rfl
  go_enter Tryz.func127,Tryz.ntmps127;go_wp2;go_ret;exact⟨_,rfl,qj.nil _ _,Below.refl _ _⟩
theorem qgZ (v:Value) (os:List Ob) (w:World) (h:Sl w w.heap.size 2 v os.length (os.flatMap Ob.cells)) (hr:yz os []=true) (hod:∀o ∈ os,dI o.kind) (hW:xu w) (hG:Ul w):
  Calls Tryz.prog 77 #[v] w fun e w'=>∃bA,e=.returned (.tuple #[.pointer (some ⟨bA,0,none⟩),.nilIface])/\uH w' w.heap.size bA os 0 []/\Below w.heap.size w w':=by
 obtain⟨a,c,rfl,hm⟩:=h.ex;have hmk:∀X:World,Sem.run Tryz.prog (Instr.makeMap 174 none) X=.ok (.map (some X.heap.size)) (X.alloc (.map #[] 0)):=fun X=>by kernel_rfl
 have hr8:os.length<=8:=by
  unfold yz at hr;simp only[Bool.and_eq_true,decide_eq_true_eq] at hr;exact hr.1.1.1
 have hv:=JH (.slice a os.length c) (.slice none 0 0) os [] w h ⟨none,0,rfl,by simp,by simp,fun h=>by simp at h⟩ hod (fun e he=>(nomatch he)) hW hG;rw[hr] at hv;have hv:=qh hv;have H:=qh h;clear h hW hr hod hG;go_enter Tryz.func77,Tryz.ntmps77;go_wp2_with fail;refine(hv.o).mono ?_;rintro e W1 ⟨⟨ve,rfl,hvn,-⟩,b1⟩;obtain rfl:=hvn rfl;clear hvn;have B1:=qh b1;have hz1:=b1.size;have hc:=qh (qcB (.slice a os.length c) os W1 ((H.o.below b1).more hz1) hr8);clear b1 hv;go_wp2_with fail;refine(hc.o).mono ?_;rintro e W2 ⟨v',rfl,o2,b2⟩;have hz2:=b2.size;obtain⟨av,cv,rfl,-⟩:∃a c,v'=.slice a os.length c/\True:=by
  rcases qj.form o2 with⟨h1,h2⟩|⟨g,cap,h1,-⟩
  ·exact ⟨_,_,by rw[h1,h2];rfl,trivial⟩
  ·exact ⟨_,_,h1,trivial⟩
 have O2:=qh o2;have B2:=qh b2;clear o2 b2 hc;go_wp2;refine bodyPost_ret (v:=.tuple #[.pointer (some ⟨W2.heap.size+2,0,none⟩),.nilIface]) (by simp[results,Tryz.results77,go_sem]) rfl ?_;have m1:=qy W2 (.map #[] 0);have m2:=qV (w:=W2.alloc (.map #[] 0)) (o:=.map #[] 0) (g:=W2.heap.size+1) (by simp);have m3:=qV (w:=(W2.alloc (.map #[] 0)).alloc (.map #[] 0)) (o:=.cells #[.slice av os.length cv,.int .i64 0,.slice none 0 0,.map (some W2.heap.size),.map (some (W2.heap.size+1))] 176) (g:=W2.heap.size+2) (by simp);refine⟨W2.heap.size+2,rfl,⟨W2.heap.size,W2.heap.size+1,.slice av os.length cv,.slice none 0 0,[],?_⟩,?_⟩
 ·exact ⟨m3,by omega,qj.base (qj.alloc (qj.alloc (qj.alloc O2.o _) _) _) hz1,qj.nil _ _,rfl,fun k p s hp=>by simp at hp,List.nodup_nil,fun j k p q hp=>by simp at hp,
   ⟨by omega,_,qS.made (qD (qD m1)),fun k p s hp=>by simp at hp,fun x _=>rfl⟩,⟨by omega,_,qS.made (qD m2),⟨fun x _=>rfl,fun x hx=>by obtain⟨s,hs,-⟩:=hx;simp at hs⟩⟩,by omega⟩
 ·have hb:=(B1.o.trans (B2.o.mono hz1))
  exact((hb.alloc (by omega) _).alloc (by simp;omega) _).alloc (by simp;omega) _
section
attribute [local irreducible] xE
theorem jo.base {w:World} {B B':Nat} {p:Nat×Value} {s:St} (h:jo w B p s) (hB:B'<=B):jo w B' p s:=⟨h.row,Nat.le_trans hB h.hB,qj.base h.dds hB⟩
theorem uH.base {w:World} {B B' bA n:Nat} {os:List Ob} {A:Au} (h:uH w B bA os n A) (hB:B'<=B):uH w B' bA os n A:=by
 obtain⟨bY,bZ,ov,tv,bs,h⟩:=h;exact⟨bY,bZ,ov,tv,bs,h.row,Nat.le_trans hB h.hB,qj.base h.obs hB,qj.base h.txs hB,h.len,fun k p s hp hs=>(h.sts k p s hp hs).base hB,h.nod,h.dis,⟨Nat.le_trans hB h.by_.1,h.by_.2⟩,⟨Nat.le_trans hB h.bz.1,h.bz.2⟩,h.ne⟩
theorem uH.below {w w':World} {B bA n:Nat} {os:List Ob} {A:Au} (h:uH w B bA os n A) (hb:Below w.heap.size w w'):uH w' B bA os n A:=by
 obtain⟨bY,bZ,ov,tv,bs,h⟩:=h;exact⟨bY,bZ,ov,tv,bs,h.below hb⟩
def KW (w:World) (os:List Ob) (es:List Ev) (r:Option Au) (e:Ending) (w':World):Prop:=match r with
 |some A=>∃bA,e=.returned (.tuple #[.pointer (some ⟨bA,0,none⟩),.nilIface])/\uH w' w.heap.size bA os es.length A/\Below w.heap.size w w'
 |none=>(∃t x,e=.returned (.tuple #[.pointer none,.iface t x]))/\Below w.heap.size w w'
def Xh (w:World) (os:List Ob) (es:List Ev):Ending->World->Prop:=KW w os es (xg os es)
theorem UQ:∀{l m:List Ev} {A:Au} {n:Nat},zr A n l=none->zr A n (l++m)=none
 |[],m,A,n,h=>by simp[zr] at h
 |e::l,m,A,n,h=>by
  simp only[List.cons_append,zr] at h ⊢;cases hs:jP A n e with
  |none=>rfl
  |some A'=>
   rw[hs] at h;exact UQ (l:=l) h
theorem qei (ov vv:Value) (os:List Ob) (es:List Ev) (w:World) (ho:Sl w w.heap.size 2 ov os.length (os.flatMap Ob.cells)) (he:Sl w w.heap.size 8 vv es.length (es.flatMap Ev.cells)) (hod:∀o ∈ os,dI o.kind) (hed:∀e ∈ es,dI e.ret) (hW:xu w) (hG:jy w):
  Calls Tryz.prog 39 #[.agg #[ov,vv]] w (Xh w os es):=by
 obtain⟨ao,co,rfl,mo⟩:=ho.ex;obtain⟨ae,ce,rfl,me⟩:=he.ex;have b0:Below w.heap.size w (w.alloc (.cells #[.slice ao os.length co,.slice ae es.length ce] 25)):=(Below.refl _ w).alloc (Nat.le_refl _) _;have r0:=qy w (.cells #[.slice ao os.length co,.slice ae es.length ce] 25);have hz0:w.heap.size < (w.alloc (.cells #[.slice ao os.length co,.slice ae es.length ce] 25)).heap.size:=qd r0;have hv:=qh (JH (.slice ao os.length co) (.slice ae es.length ce) os es _ ((ho.below b0).more b0.size) ((he.below b0).more b0.size) hod hed (hW.below b0) (hG.g.below b0));have HO:=qh ho;have HE:=qh he;have HOD:=qh hod;have HED:=qh hed;have HW:=qh hW;have HG:=qh hG;have R0:=qh r0;have B0:=qh b0;clear ho he hod hed hW hG r0 b0;obtain⟨R,hR⟩:∃R,R=xg os es:=⟨_,rfl⟩
 have hP:Xh w os es=KW w os es R:=by unfold Xh;rw[hR]
 rw[hP];have HTB:=qh hR;clear hP hR;go_enter Tryz.func39,Tryz.ntmps39;go_wp2_with fail;generalize w.alloc (.cells #[.slice ao os.length co,.slice ae es.length ce] 25)=W at *;refine(hv.o).mono ?_;rintro e W1 ⟨⟨ve,rfl,hvn,hve⟩,b1⟩;cases hhb:yz os es with
 |false=>
  obtain⟨te,xe,rfl⟩:=hve hhb;have hR:=HTB.o;unfold xg at hR;rw[hhb] at hR;simp only[Bool.false_eq_true,if_false] at hR;subst hR;clear hvn hve HTB hhb hv;have B1:=qh (B0.o.trans (b1.mono B0.o.size));clear b1;go_wp2;refine bodyPost_ret (v:=.tuple #[.pointer none,.iface te xe]) (by simp[results,Tryz.results39,go_sem]) rfl ?_;exact⟨⟨_,_,rfl⟩,B1.o⟩
 |true=>
 obtain rfl:=hvn hhb;have HHB:=qh hhb;have hHO:yz os []=true:=by
  unfold yz at hhb ⊢;simp only[Bool.and_eq_true,decide_eq_true_eq] at hhb;simp[hhb.1.1.1,hhb.1.2]
 have hev:∀e ∈ es,Un os e=true:=by
  unfold yz at hhb;simp only[Bool.and_eq_true,List.all_eq_true] at hhb;exact hhb.2
 have hel:es.length<=400:=by
  unfold yz at hhb;simp only[Bool.and_eq_true,decide_eq_true_eq] at hhb;exact hhb.1.1.2
 have HEV:=qh hev;clear hvn hve hhb hev;have r1:=qp R0.o b1 hz0;have l1:=qd r1;have y0:=qa r1 0;have y1:=qa r1 1;simp at y0 y1;have b01:=B0.o.trans (b1.mono B0.o.size);have hz1:=b01.size;have hN:=qh (qgZ (.slice ao os.length co) os W1 ((HO.o.below b01).more hz1) hHO HOD.o (HW.o.below b01) (HG.o.g.below b01));have R1:=qh r1;have B1:=qh b01;clear r1 b1 b01 hv;go_wp2_with fail;refine(hN.o).mono ?_;rintro e W2 ⟨bA,rfl,hA2,b2⟩;have r2:=qp R1.o b2 l1;have l2:=qd r2;clear y0 y1;have y0:=qa r2 0;have y1:=qa r2 1;simp at y0 y1;have B2:=qh b2;have HA2:=qh hA2;have hz2:=b2.size;clear r2 b2 hA2 hN;go_wp2_with fail
 go_loopw [27] (fun p wr=>∃i:Nat,i<=es.length/\p=.int .i64 i/\(∃Ai,zr [] 0 (es.take i)=some Ai/\KZ Ai/\(Ai.length<=i/\∀s ∈ Ai,s.deeds.length<=i)/\uH wr W1.heap.size bA os i Ai)/\Below W1.heap.size W1 wr) (fun p _=>es.length - (intOf p).toNat)
 case atStart=>exact⟨0,by omega,by go_num,⟨[],by simp[zr],KZ.nil,⟨by simp,fun s hs=>(nomatch hs)⟩,HA2.o⟩,B2.o⟩
 case round=>
  obtain⟨i,hi,rfl,⟨Ai,hrun,hRI,hbd,hAi⟩,hB⟩:=hrel;have HRUN:=qh hrun;have HRI:=qh hRI;have HBD:=qh hbd;clear hrun hRI hbd;have hz:=hB.size;have HB:=qh hB;have HAI:=qh hAi;clear hB hAi;by_cases hlt:i < es.length
  ·obtain ⟨b,off,x,hat,hb,hx,hc⟩:=HE.o.atF Ev.len rfl hlt
   have BW:=qh (B1.o.trans (HB.o.mono hz1));have c0:=qx BW.o hb (hc 0 (by decide));have c1:=qx BW.o hb (hc 1 (by decide));have c2:=qx BW.o hb (hc 2 (by decide));have c3:=qx BW.o hb (hc 3 (by decide));have c4:=qx BW.o hb (hc 4 (by decide));have c5:=qx BW.o hb (hc 5 (by decide));have c6:=qx BW.o hb (hc 6 (by decide));have c7:=qx BW.o hb (hc 7 (by decide));have hok:=qh (HEV.o x (List.mem_of_getElem? hx));have hdr:=HED.o x (List.mem_of_getElem? hx);have HX:=qh hx;obtain⟨xk,xx,xh,xj,xo,xy,xv,xr⟩:=x;simp only at hdr;simp at c0 c1 c2 c3 c4 c5 c6 c7;have hbw:b < wr.heap.size:=by omega
   subst hat;clear hx hc;have bz:Below wr.heap.size wr (wr.alloc (.cells #[.int .i64 xk,.int .i64 xx,.int .i64 xh,.int .i64 xj,.int .i64 xo,.int .i64 xy,.int .i64 xv,.int .i64 xr] 69)):=(Below.refl _ wr).alloc (Nat.le_refl _) _;have hbl:=HBD.o.1;have hbl2:=HBD.o.2;have hfd:=qfZ (n:=i) ⟨xk,xx,xh,xj,xo,xy,xv,xr⟩ _ hok.o hdr (by omega) (by omega) (fun s hs=>by have:=hbl2 s hs;omega) HRI.o (HAI.o.below bz) ((HW.o.below BW.o).below bz) ((HG.o.below BW.o).below bz);obtain⟨r,hr⟩:∃r,r=jP Ai i ⟨xk,xx,xh,xj,xo,xy,xv,xr⟩:=⟨_,rfl⟩
   rw[←hr] at hfd;have hfd:=qh hfd;have HSTEP:=qh hr;clear hbl2 hr;have BZ:=qh bz;clear bz;go_wp2_with fail;generalize wr.alloc (.cells #[.int .i64 xk,.int .i64 xx,.int .i64 xh,.int .i64 xj,.int .i64 xo,.int .i64 xy,.int .i64 xv,.int .i64 xr] 69)=W3 at *;have hsn:zr [] 0 (es.take (i+1))=r:=by
    rw[List.take_add_one,HX.o];show zr [] 0 (es.take i++[_])=r;rw[vd,HRUN.o,HSTEP.o];simp only[Option.bind_some,List.length_take,Nat.zero_add];rw[Nat.min_eq_left hi]
   have HSN:=qh hsn;clear hsn;cases r with
   |some A4=>
    refine(hfd.o).mono ?_;rintro e W4 ⟨he,hA4,b4⟩;subst he;have hz3:=BZ.o.size;have HA4:=qh hA4;have B4:=qh ((HB.o.trans (BZ.o.mono hz)).trans b4);clear hfd b4 hA4;go_wp2_with fail;go_roundw
    case rel=>exact⟨i+1,by omega,by go_num,⟨A4,HSN.o,HRI.o.step HSTEP.o.symm,Zb HSTEP.o.symm HBD.o,HA4.o⟩,B4.o⟩
    case measure=>simp[intOf];omega
   |none=>
    have hR:=HTB.o;unfold xg at hR;rw[HHB.o,if_pos rfl] at hR;have hno:zr [] 0 es=none:=by
     have:=List.take_append_drop (i+1) es;rw[←this];exact UQ HSN.o
    rw[hno] at hR;subst hR;refine(hfd.o).mono ?_;rintro e W4 ⟨⟨te,xe,rfl⟩,b4⟩;have B4:=qh (B1.o.trans (((HB.o.trans (BZ.o.mono hz)).trans b4).mono hz1));clear hfd b4 HTB;go_wp2;refine bodyPost_ret (v:=.tuple #[.pointer none,.iface 128 (.pointer (some ⟨W4.heap.size,0,none⟩))]) (by simp[results,Tryz.results39,go_sem]) rfl ?_;exact⟨⟨_,_,rfl⟩,B4.o.alloc B4.o.size _⟩
  ·obtain rfl:i=es.length:=by omega
   go_wp2;refine bodyPost_ret (v:=.tuple #[.pointer (some ⟨bA,0,none⟩),.nilIface]) (by simp[results,Tryz.results39,go_sem]) rfl ?_;have hR:=HTB.o;unfold xg at hR;have hrun:=HRUN.o;rw[List.take_length] at hrun;rw[HHB.o,if_pos rfl,hrun] at hR;subst hR;exact⟨bA,rfl,HAI.o.base hz1,B1.o.trans (HB.o.mono hz1)⟩
end
section
attribute [local irreducible] xE
structure uG where
 id:Int
 thread:Int
 status:Int
 beg:Int
 fin:Int
 tri:Int
 dv:Value
def uG.cells (r:uG):List Value:=[.int .i64 r.id,.int .i64 r.thread,.int .i64 r.status,.int .i64 r.beg,.int .i64 r.fin,.int .i64 r.tri,r.dv]
theorem uG.len (r:uG):r.cells.length=7:=rfl
theorem Wf:(Tryz.prog.info? 49).map (fun i=>(i.zero,i.size,i.bytes))=some (some (.agg #[.int .i64 0,.int .i64 0,.int .i64 0,.int .i64 0,.int .i64 0,.int .i64 0,.slice none 0 0]),7,72):=by kernel_rfl
theorem Rj (i:Int) {th st be fi tr:Int} {a:Option Addr} {n c:Nat}:∀u ∈ uG.cells ⟨i,th,st,be,fi,tr,.slice a n c⟩,u.oneCell'=true:=by intro u hu;simp[uG.cells] at hu;rcases hu with rfl|rfl|rfl|rfl|rfl|rfl|rfl <;> rfl
def NG (r:uG) (s:St):Prop:=r.id=s.id/\r.thread=s.thread/\r.status=s.status/\r.beg=s.beg/\r.fin=s.fin/\r.tri=s.tri
def ue (w:World) (B:Nat) (v:Value) (A:Au):Prop:=∃rs:List uG,qj uG.cells 49 7 w B v rs/\rs.length=A.length/\∀(k:Nat) (r:uG) (s:St),rs[k]?=some r->A[k]?=some s->NG r s/\XG w B r.dv s.deeds
section
variable {w w':World} {B:Nat} {v:Value} {A:Au}
theorem ue.below (h:ue w B v A) (hb:Below w.heap.size w w'):ue w' B v A:=
 let ⟨rs,a,b,c⟩:=h;⟨rs,qj.below a hb,b,fun k r s hr hs=>⟨(c k r s hr hs).1,qj.below (c k r s hr hs).2 hb⟩⟩
theorem ue.base {B':Nat} (h:ue w B v A) (hB:B'<=B):ue w B' v A:=
 let ⟨rs,a,b,c⟩:=h;⟨rs,qj.base a hB,b,fun k r s hr hs=>⟨(c k r s hr hs).1,qj.base (c k r s hr hs).2 hB⟩⟩
theorem ue.snoc {rs:List uG} {r:uG} {s:St} {v':Value} (hv:qj uG.cells 49 7 w B v rs) (hl:rs.length=A.length) (hc:∀(k:Nat) (r:uG) (s:St),rs[k]?=some r->A[k]?=some s->NG r s/\XG w B r.dv s.deeds) (h1:NG r s) (hu:XG w B r.dv s.deeds)
  (h':qj uG.cells 49 7 w' B v' (rs++[r])) (hb:Yt w w' v v'):ue w' B v' (A++[s]):=by
 refine⟨_,h',by simp[hl],fun k r' s' hr hs=>?_⟩;rcases Nat.lt_trichotomy k A.length with h|h|h
 ·rw [List.getElem?_append_left (by omega)] at hr hs
  exact⟨(hc k r' s' hr hs).1,qj.grwT (hc k r' s' hr hs).2 hv (by decide) hb⟩
 ·subst h
  rw[List.getElem?_append_right (by omega)] at hr hs;simp[hl] at hr hs;subst hr hs;exact⟨h1,qj.grwT hu hv (by decide) hb⟩
 ·rw [List.getElem?_eq_none (by simp;omega)] at hs
  cases hs
theorem qj.slv {α:Type} {f:α->List Value} {e:TypeId} {sz:Nat} {l:List α} (h:qj f e sz w B v l):∃a c,v=.slice a l.length c:=by
 rcases qj.form h with⟨h1,h2⟩|⟨g,cap,h1,-⟩
 ·exact ⟨_,_,by rw[h1,h2];rfl⟩
 ·exact ⟨_,_,h1⟩
end
theorem qfq {B bA n:Nat} {os:List Ob} {A:Au} (w:World) (h:uH w B bA os n A) (hA:A.length<=1000) (hl:∀s ∈ A,s.deeds.length<=1000):
  Calls Tryz.prog 40 #[.pointer (some ⟨bA,0,none⟩)] w fun e w'=>∃v,e=.returned v/\ue w' w.heap.size v A/\Below w.heap.size w w':=by
 obtain⟨bY,bZ,ov,tv,bs,h⟩:=h;have r0:=h.row;have l0:=qd r0;have y:=qa r0;have y2:=y 2;simp at y2;obtain⟨ta,tc,rfl⟩:=qj.slv h.txs;simp only[List.length_map] at y2 r0;have hlen:=h.len;have hbl:bs.length<=1000:=by omega
 have H:=qh h;have HL:=qh hl;clear y r0 h hl;go_enter Tryz.func40,Tryz.ntmps40;go_wp2_with (at_make;refine vx (f:=uG.cells) (e:=49) (sz:=7) (B:=w.heap.size) rfl _ _ _ rfl _ 72 Tryz.underlying42 Wf rfl rfl (by first|omega|(simp <;> omega)) (by first|omega|(simp <;> omega)) (by first|omega|(simp <;> omega)) ?_;refine qK.halt ?_)
 refine qK.go ?_;intro w1 o1 b1 z1;have y2:=qx b1 l0 y2;have O1:=qh o1;have B1:=qh b1;have lw:w.heap.size < w1.heap.size:=by omega
 have l1:bA < w1.heap.size:=by omega
 clear o1 b1;go_wp2_with fail
 go_loopw [3,18] (fun q p wr=>∃(k:Nat),k<=bs.length/\p=.int .i64 k/\ue wr w.heap.size q (A.take k)/\Below w.heap.size w wr) (fun _ p _=>bs.length - (intOf p).toNat)
 case atStart=>exact⟨0,by omega,by go_num,⟨[],O1.o,by simp,fun k r s hr=>by simp at hr⟩,B1.o⟩
 case round=>
  obtain⟨k,hk,rfl,hT,hB⟩:=hrel;have hz:=hB.size;have HB:=qh hB;have HT:=qh hT;clear hB hT;by_cases hlt:k < bs.length
  ·obtain ⟨s,hs⟩:∃s,A[k]?=some s:=⟨_,List.getElem?_eq_getElem (by omega)⟩
   have HW:=qh (H.o.below HB.o);obtain⟨bp,hbp,hst⟩:=HW.o.get hs;obtain⟨p,dv⟩:=bp;obtain⟨gt,u,hta,hgt,hu,hcu⟩:=HW.o.txs.at1 (by simp) (k:=k) (by simpa using hlt);rw[List.getElem?_map,hbp] at hu;simp only[Option.map_some,Option.some.injEq] at hu;subst hu;subst hta;unfold xD at hcu;obtain⟨da,dc,hdv⟩:=qj.slv hst.dds;simp only at hdv;subst hdv;have hdl:=HL.o s (List.mem_of_getElem? hs);have rp:=hst.row;have lp:=qd rp;simp only at lp;have py:=qa rp;have p0:=py 0;have p1:=py 1;have p2:=py 2;have p3:=py 3;have p4:=py 4;have p5:=py 5;have p6:=py 6;simp[uX] at p0 p1 p2 p3 p4 p5 p6;have HST:=qh hst;have HS:=qh hs;obtain⟨rs,hv,hvl,hvc⟩:=HT.o;obtain⟨aq,cq,rfl⟩:=qj.slv hv;have hrl:rs.length=k:=by rw[hvl,List.length_take];omega
   have hrl2:rs.length<=1000:=by omega
   rw[hrl] at hv ⊢;have HV:=qh hv;have HRL:=qh hrl;clear hrl;have HVL:=qh hvl;have HVC:=qh hvc;clear py rp hst hs hbp hv hvl hvc HT;obtain⟨wo,rfl⟩:∃wo,wo=wr:=⟨_,rfl⟩
   go_wp2_with fail;obtain⟨dn,hdn⟩:∃dn,dn=s.deeds.length:=⟨_,rfl⟩
   have rt:=qy wo (.cells #[.int .i64 s.id,.int .i64 s.thread,.int .i64 s.status,.int .i64 s.beg,.int .i64 s.fin,.int .i64 s.tri,.slice da s.deeds.length dc] 49);have bt:Below wo.heap.size wo (wo.alloc (.cells #[.int .i64 s.id,.int .i64 s.thread,.int .i64 s.status,.int .i64 s.beg,.int .i64 s.fin,.int .i64 s.tri,.slice da s.deeds.length dc] 49)):=(Below.refl _ wo).alloc (Nat.le_refl _) _;generalize wo.alloc (.cells #[.int .i64 s.id,.int .i64 s.thread,.int .i64 s.status,.int .i64 s.beg,.int .i64 s.fin,.int .i64 s.tri,.slice da s.deeds.length dc] 49)=W6 at *;have lt6:=qd rt;have ty:=qa rt;have t6:=ty 6;simp at t6;have RT:=qh rt;have BT:=qh bt;have zt:=bt.size;clear ty rt bt p0 p1 p2 p3 p4 p5 p6 hdn;refine qI (W6.heap.size) [0,1,0,3,0,1,2,0,2] (.fin [0,1,2,4,5,3,6,7,8]) (by kernel_rfl) ?_;simp only[xi,qP,qA,sD,sE,sF,sG]
   repeat first|(refine qz fun K hK=>?_;go_simp;refine hK _ _ ?_;clear hK K)|(apply qC;(intro w2 hw2;have hk1:=hw2.cell;have hk3:=hw2.1;clear hw2;go_simp;with_reducible rfl);simp only[Act.put,sA,sB,sC])
   refine qG (fun K hK=>?_);refine jN (f:=Dd.cells) (e:=112) (sz:=8) (B:=W6.heap.size) _ _ _ rfl _ 64 Tryz.underlying47 JF rfl rfl (by first|omega|(simp <;> omega)) (by first|omega|(simp <;> omega)) (by first|omega|(simp <;> omega)) ?_;intro w3 o3 b3 z3;refine hK _ _ (RN.KeepsN.of_below b3) ?_;clear hK K;have b3:Below W6.heap.size W6 w3:=(Below.refl _ W6).drew.trans b3;have z3':W6.heap.size<=w3.heap.size:=b3.size;refine qM (fun K hK=>?_);refine jH _ _ _ rfl _ 64 Tryz.underlying47 JF rfl o3 s.deeds rfl (qj.below HST.o.dds (BT.o.trans (b3.mono zt))).sl (by first|omega|(simp <;> omega)) rfl rfl Dd.len Wt (by first|omega|(simp <;> omega)) (by first|omega|(simp <;> omega)) ?_;intro v' w4 o4 g4;refine hK _ _ ?_;clear hK K;have b4:=b3.trans (g4.below z3' fun j h=>(o3.lt j h).1);have o4:XG w4 W6.heap.size v' s.deeds:=o4;obtain⟨an,cn,rfl⟩:=qj.slv o4;have r4:=qp RT.o b4 lt6;have l4:=qd r4;have ne4:=qj.neT o4 r4 (by decide);have z4:W6.heap.size<=w4.heap.size:=b4.size;clear t6;have ty:=qa r4;have t0:=ty 0;have t1:=ty 1;have t2:=ty 2;have t3:=ty 3;have t4:=ty 4;have t5:=ty 5;have t6:=ty 6;simp at t0 t1 t2 t3 t4 t5 t6;have tf:∀j,w4.frozen? ⟨wo.heap.size,j,none⟩=false:=fun j=>qB r4 j;have O4:=qh o4;have B4:=qh b4;have R4:=qh r4;clear ty o4 b4 r4 o3 b3 z3 g4
   repeat (refine qz fun K hK=>?_;go_simp;refine hK _ _ ?_;clear hK K)
   refine qM (fun K hK=>?_);go_simp;refine hK _ _ ?_;clear hK K
   repeat refine qu ?_
   have o5:=qj.other (j:=6) O4.o ne4 (.slice an s.deeds.length cn);have b5:Below wo.heap.size wo (w4.setCell ⟨wo.heap.size,6,none⟩ (.slice an s.deeds.length cn)):=(BT.o.trans (B4.o.mono zt)).setCell (p:=⟨wo.heap.size,6,none⟩) (Nat.le_refl _) _;have r5:=qq R4.o 6 (.slice an s.deeds.length cn);have l5:wo.heap.size < (w4.setCell ⟨wo.heap.size,6,none⟩ (.slice an s.deeds.length cn)).heap.size:=qd r5;generalize w4.setCell ⟨wo.heap.size,6,none⟩ (.slice an s.deeds.length cn)=w5 at *;clear t0 t1 t2 t3 t4 t5 t6 tf;have ty:=qa r5;have t0:=ty 0;have t1:=ty 1;have t2:=ty 2;have t3:=ty 3;have t4:=ty 4;have t5:=ty 5;have t6:=ty 6;simp at t0 t1 t2 t3 t4 t5 t6;have HV5:=qh (qj.below HV.o b5);have HVC5:=qh (fun(j:Nat) (r:uG) (t:St) (h1:rs[j]?=some r) (h2:(A.take k)[j]?=some t)=>(show NG r t/\XG w5 w.heap.size r.dv t.deeds from⟨(HVC.o j r t h1 h2).1,qj.below (HVC.o j r t h1 h2).2 b5⟩));have O5:=qh (qj.base o5 (show w.heap.size<=W6.heap.size by omega));have B5:=qh (HB.o.trans (b5.mono hz));have hz5:w.heap.size<=w5.heap.size:=by omega
   clear ty r5 o5 b5 HV HVC;go_wp2_with (at_builtin;refine qN rfl _ _ _ rfl _ 72 Tryz.underlying42 Wf rfl HV5.o (⟨s.id,s.thread,s.status,s.beg,s.fin,s.tri,.slice an s.deeds.length cn⟩:uG) hz5 (by rfl) (by rfl) (by first|rfl|simp) rfl (Rj _) (by first|omega|(simp only[List.length_append,List.length_cons,List.length_nil,List.length_replicate];omega)) (by first|omega|(simp only[List.length_append,List.length_cons,List.length_nil,List.length_replicate];omega)) ?_;refine qK.halt ?_)
   refine qK.go ?_;intro g6 c6 w6 o6 G6;have o6:qj uG.cells 49 7 w6 w.heap.size (.slice (some ⟨g6,0,none⟩) (rs.length+1) c6) (rs++[⟨s.id,s.thread,s.status,s.beg,s.fin,s.tri,.slice an s.deeds.length cn⟩]):=o6;have T6:=qh (ue.snoc HV5.o HVL.o HVC5.o (s:=s) ⟨rfl,rfl,rfl,rfl,rfl,rfl⟩ O5.o o6 G6);have B6:=qh (B5.o.trans (G6.below B5.o.size fun j h=>(HV5.o.lt j h).1));clear o6 G6;go_wp2_with fail;go_roundw
   case rel=>exact⟨k+1,by omega,by go_num,by rw[jA HS.o];exact T6.o,B6.o⟩
   case measure=>simp[intOf];omega
  ·obtain rfl:k=bs.length:=by omega
   have hT:=HT.o;rw[hlen,List.take_length] at hT;obtain⟨rs,hv,hvl,hvc⟩:=hT;obtain⟨aq,cq,rfl⟩:=qj.slv hv;have HT2:=qh (show ue wr w.heap.size (.slice aq rs.length cq) A from⟨rs,hv,hvl,hvc⟩);clear hv hvl hvc HT;go_wp2;go_ret;exact⟨_,rfl,HT2.o,HB.o⟩
end
section
attribute [local irreducible] xE
def QH (w:World) (r:Option Au) (e:Ending) (w':World):Prop:=match r with
 |some A=>∃v,e=.returned (.tuple #[v,.nilIface])/\ue w' w.heap.size v A/\Below w.heap.size w w'
 |none=>(∃t x,e=.returned (.tuple #[.slice none 0 0,.iface t x]))/\Below w.heap.size w w'
structure UF (os:List Ob) (A:Au):Prop where
 ol:os.length<=8
 len:A.length<=400
 dl:∀s ∈ A,s.deeds.length<=400
 id:∀s ∈ A,dI s.id
 obj:∀s ∈ A,∀d ∈ s.deeds,0<=d.obj/\d.obj < os.length
 val:∀s ∈ A,∀d ∈ s.deeds,dI d.val/\dI d.got
theorem UF.dobj {os:List Ob} {A:Au} (h:UF os A) {s:St} (hs:s ∈ A) {d:Dd} (hd:d ∈ s.deeds):dI d.obj:=by
 have h1:=h.obj s hs d hd;have h2:=h.ol;unfold dI Lit.wf;simp[IntKind.min,IntKind.max,IntKind.bits,IntKind.signed];omega
def yB (os:List Ob) (r:Option Au):Option Au:=match r with
 |some A=>if xA os [] A=true then some A else none
 |none=>none
theorem Wp (ov vv:Value) (os:List Ob) (w:World) (ho:Sl w w.heap.size 2 ov os.length (os.flatMap Ob.cells)) (hvv:∃a n c,vv=.slice a n c)
  (hT:∀W,Below w.heap.size w W->Calls Tryz.prog 13 #[.agg #[ov,vv]] W (QH W none)):
  Calls Tryz.prog 43 #[.agg #[ov,vv]] w (QH w none):=by
 obtain⟨ao,co,rfl,mo⟩:=ho.ex;obtain⟨av,nv,cv,rfl⟩:=hvv;have b0:Below w.heap.size w (w.alloc (.cells #[.slice ao os.length co,.slice av nv cv] 25)):=(Below.refl _ w).alloc (Nat.le_refl _) _;have TC:=qh (hT _ b0);have B0:=qh b0;clear b0 hT ho mo;go_enter Tryz.func43,Tryz.ntmps43;go_wp2_with fail;generalize w.alloc (.cells #[.slice ao os.length co,.slice av nv cv] 25)=W at *;refine TC.o.mono ?_;rintro e W1 ⟨⟨te,xe,rfl⟩,b1⟩;have B1:=qh (B0.o.trans (b1.mono B0.o.size));clear b1 TC;go_wp2;refine bodyPost_ret (v:=.tuple #[.slice none 0 0,.iface te xe]) (by simp[results,Tryz.results43,go_sem]) rfl ?_;exact⟨⟨_,_,rfl⟩,B1.o⟩
theorem JN (ov vv:Value) (os:List Ob) (A:Au) (w:World) (ho:Sl w w.heap.size 2 ov os.length (os.flatMap Ob.cells)) (hvv:∃a n c,vv=.slice a n c)
  (hT:∀W,Below w.heap.size w W->Calls Tryz.prog 13 #[.agg #[ov,vv]] W (QH W (some A))) (hD:UF os A) {t0:TypeId} {v0:Value} (hev:w.cell? ⟨6,0,none⟩=some (.iface t0 v0)) (hel:6 < w.heap.size):
  Calls Tryz.prog 43 #[.agg #[ov,vv]] w (QH w (yB os (some A))):=by
 obtain⟨ao,co,rfl,mo⟩:=ho.ex;obtain⟨av,nv,cv,rfl⟩:=hvv;have b0:Below w.heap.size w (w.alloc (.cells #[.slice ao os.length co,.slice av nv cv] 25)):=(Below.refl _ w).alloc (Nat.le_refl _) _;have r0:=qy w (.cells #[.slice ao os.length co,.slice av nv cv] 25);have TC:=qh (hT _ b0);have HO:=qh ((ho.below b0).more b0.size);have B0:=qh b0;have R0:=qh r0;have EV:=qh (qx b0 hel hev);have HD:=qh hD;have hz0:w.heap.size < (w.alloc (.cells #[.slice ao os.length co,.slice av nv cv] 25)).heap.size:=by simp
 have hmm:=@run_makeMap Tryz.prog;obtain⟨R,hR⟩:∃R,yB os (some A)=R:=⟨_,rfl⟩
 rw[hR];have HR:=qh hR;clear b0 r0 hT ho mo hev hD hR;go_enter Tryz.func43,Tryz.ntmps43;go_wp2_with fail;generalize w.alloc (.cells #[.slice ao os.length co,.slice av nv cv] 25)=W at *;refine TC.o.mono ?_;rintro e W1 ⟨tv,rfl,⟨rs,o1,hrl,hrc⟩,b1⟩;obtain⟨at1,ct1,rfl⟩:=qj.slv o1;have hz1:=b1.size;have B1:=qh (B0.o.trans (b1.mono B0.o.size));have R1:=qh (qp R0.o b1 (qd R0.o));have EV1:=qh (qx b1 (by have:=B0.o.size;omega) EV.o);have HO1:=qh ((HO.o.below b1).more b1.size);have O1:=qh o1;have HRC:=qh hrc;have HRL:=qh hrl;have hrl4:rs.length<=400:=by have:=HD.o.len;omega
 clear b1 o1 hrc hrl TC R0 EV HO;go_wp2_with fail;have CS:=qh (show jY (W1.alloc (.map #[] 0)) W1.heap.size [] from jY.made (heap_alloc_new W1 _));have BS:=qh (show Below W1.heap.size W1 (W1.alloc (.map #[] 0)) from(Below.refl _ W1).alloc (Nat.le_refl _) _);have hzS:W1.heap.size < (W1.alloc (.map #[] 0)).heap.size:=by simp
 generalize W1.alloc (.map #[] 0)=W2 at *
 go_loopw [24] (fun p wr=>∃(k:Nat) (wl:List (Int×Int)),k<=rs.length/\p=.int .i64 k/\jY wr W1.heap.size wl/\xA os [] A=xA os wl (A.drop k)/\Below W1.heap.size W1 wr/\W1.heap.size < wr.heap.size) (fun p _=>rs.length - (intOf p).toNat)
 case atStart=>exact⟨0,[],by omega,by go_num,CS.o,rfl,BS.o,hzS⟩
 case round=>
  obtain⟨k,wl,hk,rfl,hS,hP,hB,hzw⟩:=hrel;have HS:=qh hS;have HP:=qh hP;have HB:=qh hB;clear CS BS hzS W2 hS hP hB;by_cases hlt:k < rs.length
  ·obtain ⟨b,off,r,rfl,hb,hr,hc⟩:=(qj.sl (qj.below O1.o HB.o)).atF uG.len rfl hlt
   obtain⟨s,hs⟩:∃s,A[k]?=some s:=⟨_,List.getElem?_eq_getElem (by have:=HRL.o;omega)⟩
   have hdv:=(HRC.o k r s hr hs).2;have HDK:=qh (show A.drop k=s::A.drop (k+1) from List.drop_eq_getElem?_toList_append▸by rw[hs];rfl);have hsm:=List.mem_of_getElem? hs;have HSM:=qh hsm;have hnd:=HD.o.dl s hsm;have HOb:=qh (HD.o.obj s hsm);have HVa:=qh (HD.o.val s hsm);have HDo:=qh (fun(d:Dd) (hd:d ∈ s.deeds)=>HD.o.dobj hsm hd);have hol:=HD.o.ol;obtain⟨i1,th1,st1,be1,fi1,tr1,dv⟩:=r;simp only at hdv;obtain⟨ad,cd,rfl⟩:=qj.slv hdv;have c0:wr.cell? ⟨b,off+k*7,none⟩=some (.int .i64 i1):=hc 0 (by decide);have c1:wr.cell? ⟨b,off+k*7+1,none⟩=some (.int .i64 th1):=hc 1 (by decide);have c2:wr.cell? ⟨b,off+k*7+2,none⟩=some (.int .i64 st1):=hc 2 (by decide);have c3:wr.cell? ⟨b,off+k*7+3,none⟩=some (.int .i64 be1):=hc 3 (by decide);have c4:wr.cell? ⟨b,off+k*7+4,none⟩=some (.int .i64 fi1):=hc 4 (by decide);have c5:wr.cell? ⟨b,off+k*7+5,none⟩=some (.int .i64 tr1):=hc 5 (by decide);have c6:wr.cell? ⟨b,off+k*7+6,none⟩=some (.slice ad s.deeds.length cd):=hc 6 (by decide);have HDV:=qh hdv;obtain⟨ds,hds⟩:∃ds,s.deeds=ds:=⟨_,rfl⟩
   rw[hds] at HDV HOb HVa HDo c6 hnd;have HDS:=qh hds;clear hr hs hc hsm hds hdv;have b5:Below W1.heap.size W1 ((wr.alloc (.cells #[.int .i64 i1,.int .i64 th1,.int .i64 st1,.int .i64 be1,.int .i64 fi1,.int .i64 tr1,.slice ad ds.length cd] 49)).alloc (.map #[] 0)):=(HB.o.alloc (Nat.le_of_lt hzw) _).alloc (by simp;omega) _;have B5:=qh b5;have S5:=qh (show jY ((wr.alloc (.cells #[.int .i64 i1,.int .i64 th1,.int .i64 st1,.int .i64 be1,.int .i64 fi1,.int .i64 tr1,.slice ad ds.length cd] 49)).alloc (.map #[] 0)) W1.heap.size wl from HS.o.obj (by rw[heap_alloc_old _ _ (by simp;omega),heap_alloc_old _ _ (by omega)]));have I5:=qh (show zn ((wr.alloc (.cells #[.int .i64 i1,.int .i64 th1,.int .i64 st1,.int .i64 be1,.int .i64 fi1,.int .i64 tr1,.slice ad ds.length cd] 49)).alloc (.map #[] 0)) (wr.heap.size+1) [] from zn.made (by have:=heap_alloc_new (wr.alloc (.cells #[.int .i64 i1,.int .i64 th1,.int .i64 st1,.int .i64 be1,.int .i64 fi1,.int .i64 tr1,.slice ad ds.length cd] 49)) (.map #[] 0);simpa using this));have hz5:wr.heap.size+1 < ((wr.alloc (.cells #[.int .i64 i1,.int .i64 th1,.int .i64 st1,.int .i64 be1,.int .i64 fi1,.int .i64 tr1,.slice ad ds.length cd] 49)).alloc (.map #[] 0)).heap.size:=by simp
   clear b5;go_wp2_with fail;generalize ((wr.alloc (.cells #[.int .i64 i1,.int .i64 th1,.int .i64 st1,.int .i64 be1,.int .i64 fi1,.int .i64 tr1,.slice ad ds.length cd] 49)).alloc (.map #[] 0))=W5 at *;clear c0 c1 c2 c3 c4 c5 c6 HS HB hb;generalize wr.heap.size=nb at *
   go_loopw [32] (fun q wi=>∃(j:Nat) (rd:List Int) (wk:List (Int×Int)),j<=ds.length/\q=.int .i64 j/\zn wi (nb+1) rd/\jY wi W1.heap.size wk/\xX os [] wl ds=xX os rd wk (ds.drop j)/\Below W1.heap.size W1 wi/\nb+1 < wi.heap.size) (fun q _=>ds.length - (intOf q).toNat)
   case atStart=>exact⟨0,[],wl,by omega,by go_num,I5.o,S5.o,rfl,B5.o,hz5⟩
   case round=>
    obtain⟨j,rd,wk,hj,rfl,hI,hS,hE,hB,hzi⟩:=hrel;clear S5 I5 B5 hz5 W5;have hz1i:=hB.size;have hIl:=hI.lt;have hSl:=hS.lt;have HI:=qh hI;have HS:=qh hS;have HE:=qh hE;have HB:=qh hB;clear hI hS hE hB;by_cases hlt2:j < ds.length
    ·obtain ⟨b2,off2,d,hq2,hb2,hdj,hc2⟩:=(qj.sl (qj.below HDV.o HB.o)).atF Dd.len rfl hlt2
     subst hq2;have HDJ:=qh (show ds.drop j=d::ds.drop (j+1) from List.drop_eq_getElem?_toList_append▸by rw[hdj];rfl);have hdm:=List.mem_of_getElem? hdj;have hob:=HOb.o d hdm;have hva:=HVa.o d hdm;have hdo:=HDo.o d hdm;obtain⟨ob',op,ke,va,re,go,at_,ba⟩:=d;obtain⟨ob,rfl⟩:∃ob:Nat,ob'=(ob:Int):=⟨ob'.toNat,by have:=hob.1;simp only at this;omega⟩
     have hobl:ob < os.length:=by have:=hob.2;simp only at this;omega
     have HCk:=qh (⟨hdo,hva.1⟩:dI (ob:Int)/\dI va);have c0:wr.cell? ⟨b2,off2+j*8,none⟩=some (.int .i64 (ob:Int)):=hc2 0 (by decide);have c1:wr.cell? ⟨b2,off2+j*8+1,none⟩=some (.int .i64 op):=hc2 1 (by decide);have c2:wr.cell? ⟨b2,off2+j*8+2,none⟩=some (.int .i64 ke):=hc2 2 (by decide);have c3:wr.cell? ⟨b2,off2+j*8+3,none⟩=some (.int .i64 va):=hc2 3 (by decide);have c4:wr.cell? ⟨b2,off2+j*8+4,none⟩=some (.int .i64 re):=hc2 4 (by decide);have c5:wr.cell? ⟨b2,off2+j*8+5,none⟩=some (.int .i64 go):=hc2 5 (by decide);have c6:wr.cell? ⟨b2,off2+j*8+6,none⟩=some (.int .i64 at_):=hc2 6 (by decide);have c7:wr.cell? ⟨b2,off2+j*8+7,none⟩=some (.int .i64 ba):=hc2 7 (by decide);obtain⟨bo,offo,o,hqo,hbo,hoo,hco⟩:=(HO1.o.below HB.o).atF Ob.len rfl hobl;subst hqo;obtain⟨kd,ini⟩:=o;have k0:wr.cell? ⟨bo,offo+ob*2,none⟩=some (.int .i64 kd):=hco 0 (by decide);have k1:wr.cell? ⟨bo,offo+ob*2+1,none⟩=some (.int .i64 ini):=hco 1 (by decide);have HOO:=qh (show os[((ob:Nat):Int).toNat]?=some ⟨kd,ini⟩ by simpa using hoo);have rh:=qp R1.o HB.o (qd R1.o);have z0:=qa rh 0;simp at z0;have zl:=qd rh;have EVi:=qx HB.o (by have:=B1.o.size;omega) EV1.o;have hgl:6 < wr.heap.size:=by have:=B1.o.size;omega
     have hbow:bo < wr.heap.size:=by omega
     have hb2w:b2 < wr.heap.size:=by omega
     have BA:=qh (B1.o.trans (HB.o.mono (by have:=B1.o.size;omega)));have hPE:xX os rd wk (⟨(ob:Int),op,ke,va,re,go,at_,ba⟩::ds.drop (j+1))=(if kd=1 then(if op=1 then xX os (if re=3 then(ob:Int)::rd else rd) wk (ds.drop (j+1)) else if (ob:Int) ∈ rd/\((ob:Int),va) ∉ wk/\ini≠va then xX os rd (((ob:Int),va)::wk) (ds.drop (j+1)) else none) else none):=by
      rw[xX,HOO.o]
     have HPE:=qh hPE;clear hPE hco hc2 hoo rh hdj hdm hob hva hdo;by_cases hk1:kd=1
     ·subst hk1
      by_cases ho1:op=1
      ·subst ho1
       have bd:Below wr.heap.size wr (wr.alloc (.cells #[.int .i64 (ob:Int),.int .i64 1,.int .i64 ke,.int .i64 va,.int .i64 re,.int .i64 go,.int .i64 at_,.int .i64 ba] 112)):=(Below.refl _ wr).alloc (Nat.le_refl _) _;have rd8:=qy wr (.cells #[.int .i64 (ob:Int),.int .i64 1,.int .i64 ke,.int .i64 va,.int .i64 re,.int .i64 go,.int .i64 at_,.int .i64 ba] 112);have BD:=qh bd;have RD8:=qh rd8;have HId:=qh (HI.o.obj (bd.block _ hIl));have HSd:=qh (HS.o.obj (bd.block _ hSl));have hzd:(wr.alloc (.cells #[.int .i64 (ob:Int),.int .i64 1,.int .i64 ke,.int .i64 va,.int .i64 re,.int .i64 go,.int .i64 at_,.int .i64 ba] 112)).heap.size=wr.heap.size+1:=by simp
       have HZd:=qh hzd;have y:=qa rd8;have y0:=y 0;have y1:=y 1;have y2:=y 2;have y3:=y 3;have y4:=y 4;have y5:=y 5;have y6:=y 6;have y7:=y 7;simp at y0 y1 y2 y3 y4 y5 y6 y7;have yl:=qd rd8;clear y rd8 bd hzd;obtain⟨M,hM,hM2⟩:=HId.o;have hlk:=(hM.look Tryz.underlying3 Tryz.underlying102 (ZR _) (ob:Int) rfl).1;rw[hM2] at hlk;have HM2:=qh hM2;obtain⟨x,hx⟩:∃x:Bool,x=(decide ((ob:Int) ∈ rd)||decide (re=3)):=⟨_,rfl⟩
       have HX:=qh hx;clear hM2 HId hx;by_cases hr:(ob:Int) ∈ rd
       ·have e1:decide ((ob:Int) ∈ rd)=true:=by simpa using hr
        rw[e1] at hlk;have ex:x=true:=by rw[HX.o,e1];rfl
        subst ex;clear hr e1;go_wp2_with (at_mapUpdate;refine qK.halt ?_)
        refine qK.go ?_;refine hM.wpList_store Tryz.underlying3 Tryz.underlying102 (a:=(ob:Int)) (v:=.bool true) rfl (.inl rfl) (by rfl) (by rfl) (by first|rfl|(subst_vars;rfl)) ?_;intro w6 hM6 t6;have I6:=qh (zn.put (rd':=if re=3 then(ob:Int)::rd else rd) hM6 HM2.o (by rw[HX.o];by_cases h3:re=3 <;> simp[h3]) (fun k hk=>by by_cases h3:re=3 <;> simp[h3,hk]));have S6:=qh (HSd.o.obj (qE t6 (by omega)));have B6:=qh ((HB.o.trans (BD.o.mono hz1i)).trans (Below.turned t6 (by omega)));have z6:=qU t6;have hz7:nb+1 < w6.heap.size:=by have:=HZd.o;omega
        clear t6 hM6;go_wp2_with fail;go_roundw
        case rel=>exact⟨j+1,_,wk,by omega,by go_num,I6.o,S6.o,by rw[HE.o,HDJ.o,HPE.o,if_pos trivial,if_pos trivial],B6.o,hz7⟩
        case measure=>simp[intOf];omega
       ·have e1:decide ((ob:Int) ∈ rd)=false:=by simpa using hr
        rw[e1] at hlk;by_cases h3:re=3
        ·have q3:(re==3)=true:=by simpa using h3
         have ex:x=true:=by rw[HX.o,e1,h3];rfl
         subst ex;clear hr e1 h3;go_wp2_with (at_mapUpdate;refine qK.halt ?_)
         refine qK.go ?_;refine hM.wpList_store Tryz.underlying3 Tryz.underlying102 (a:=(ob:Int)) (v:=.bool true) rfl (.inl rfl) (by rfl) (by rfl) (by first|rfl|(subst_vars;rfl)) ?_;intro w6 hM6 t6;have I6:=qh (zn.put (rd':=if re=3 then(ob:Int)::rd else rd) hM6 HM2.o (by rw[HX.o];by_cases h3:re=3 <;> simp[h3]) (fun k hk=>by by_cases h3:re=3 <;> simp[h3,hk]));have S6:=qh (HSd.o.obj (qE t6 (by omega)));have B6:=qh ((HB.o.trans (BD.o.mono hz1i)).trans (Below.turned t6 (by omega)));have z6:=qU t6;have hz7:nb+1 < w6.heap.size:=by have:=HZd.o;omega
         clear t6 hM6;go_wp2_with fail;go_roundw
         case rel=>exact⟨j+1,_,wk,by omega,by go_num,I6.o,S6.o,by rw[HE.o,HDJ.o,HPE.o,if_pos trivial,if_pos trivial],B6.o,hz7⟩
         case measure=>simp[intOf];omega
        ·have q3:(re==3)=false:=by simpa using h3
         have ex:x=false:=by rw[HX.o,e1];simpa using h3
         subst ex;clear hr e1 h3;go_wp2_with (at_mapUpdate;refine qK.halt ?_)
         refine qK.go ?_;refine hM.wpList_store Tryz.underlying3 Tryz.underlying102 (a:=(ob:Int)) (v:=.bool false) rfl (.inl rfl) (by rfl) (by rfl) (by first|rfl|(subst_vars;rfl)) ?_;intro w6 hM6 t6;have I6:=qh (zn.put (rd':=if re=3 then(ob:Int)::rd else rd) hM6 HM2.o (by rw[HX.o];by_cases h3:re=3 <;> simp[h3]) (fun k hk=>by by_cases h3:re=3 <;> simp[h3,hk]));have S6:=qh (HSd.o.obj (qE t6 (by omega)));have B6:=qh ((HB.o.trans (BD.o.mono hz1i)).trans (Below.turned t6 (by omega)));have z6:=qU t6;have hz7:nb+1 < w6.heap.size:=by have:=HZd.o;omega
         clear t6 hM6;go_wp2_with fail;go_roundw
         case rel=>exact⟨j+1,_,wk,by omega,by go_num,I6.o,S6.o,by rw[HE.o,HDJ.o,HPE.o,if_pos trivial,if_pos trivial],B6.o,hz7⟩
         case measure=>simp[intOf];omega
      ·have qo:(op==1)=false:=by simpa using ho1
       have HO1n:=qh ho1;have bd:Below wr.heap.size wr (wr.alloc (.cells #[.int .i64 (ob:Int),.int .i64 op,.int .i64 ke,.int .i64 va,.int .i64 re,.int .i64 go,.int .i64 at_,.int .i64 ba] 112)):=(Below.refl _ wr).alloc (Nat.le_refl _) _;have rd8:=qy wr (.cells #[.int .i64 (ob:Int),.int .i64 op,.int .i64 ke,.int .i64 va,.int .i64 re,.int .i64 go,.int .i64 at_,.int .i64 ba] 112);have BD:=qh bd;have RD8:=qh rd8;have HId:=qh (HI.o.obj (bd.block _ hIl));have HSd:=qh (HS.o.obj (bd.block _ hSl));have hzd:(wr.alloc (.cells #[.int .i64 (ob:Int),.int .i64 op,.int .i64 ke,.int .i64 va,.int .i64 re,.int .i64 go,.int .i64 at_,.int .i64 ba] 112)).heap.size=wr.heap.size+1:=by simp
       have HZd:=qh hzd;have y:=qa rd8;have y0:=y 0;have y1:=y 1;have y2:=y 2;have y3:=y 3;have y4:=y 4;have y5:=y 5;have y6:=y 6;have y7:=y 7;simp at y0 y1 y2 y3 y4 y5 y6 y7;have yl:=qd rd8;clear y rd8 bd hzd;clear ho1;have hne7:((wr.alloc (.cells #[.int .i64 (ob:Int),.int .i64 op,.int .i64 ke,.int .i64 va,.int .i64 re,.int .i64 go,.int .i64 at_,.int .i64 ba] 112)).alloc (.cells #[.int .i64 (ob:Int),.int .i64 va] 157)).heap.size=wr.heap.size+2:=by simp
       have b7:Below wr.heap.size wr ((wr.alloc (.cells #[.int .i64 (ob:Int),.int .i64 op,.int .i64 ke,.int .i64 va,.int .i64 re,.int .i64 go,.int .i64 at_,.int .i64 ba] 112)).alloc (.cells #[.int .i64 (ob:Int),.int .i64 va] 157)):=BD.o.alloc (by simp) _;have R7:=qh (show((wr.alloc (.cells #[.int .i64 (ob:Int),.int .i64 op,.int .i64 ke,.int .i64 va,.int .i64 re,.int .i64 go,.int .i64 at_,.int .i64 ba] 112)).alloc (.cells #[.int .i64 (ob:Int),.int .i64 va] 157)).heap[wr.heap.size]?=_ from qp RD8.o ((Below.refl _ _).alloc (Nat.le_refl _) _) (by have:=HZd.o;omega));have C7:=qh (show((wr.alloc (.cells #[.int .i64 (ob:Int),.int .i64 op,.int .i64 ke,.int .i64 va,.int .i64 re,.int .i64 go,.int .i64 at_,.int .i64 ba] 112)).alloc (.cells #[.int .i64 (ob:Int),.int .i64 va] 157)).heap[wr.heap.size+1]?=some (.cells #[.int .i64 (ob:Int),.int .i64 va] 157 (0,0)) by have:=qy (wr.alloc (.cells #[.int .i64 (ob:Int),.int .i64 op,.int .i64 ke,.int .i64 va,.int .i64 re,.int .i64 go,.int .i64 at_,.int .i64 ba] 112)) (.cells #[.int .i64 (ob:Int),.int .i64 va] 157);rw[HZd.o] at this;exact this);have B7:=qh b7;have HZ7:=qh hne7;have I7:=qh (HI.o.obj (b7.block _ hIl));have S7:=qh (HS.o.obj (b7.block _ hSl));have HIl:=qh hIl;have HSl:=qh hSl;have Z7:=qh (qx b7 zl z0);have K7:=qh (qx b7 hbow k1);have EV7:=qh (qx b7 hgl EVi);clear b7 hne7;go_wp2_with fail;generalize ((wr.alloc (.cells #[.int .i64 (ob:Int),.int .i64 op,.int .i64 ke,.int .i64 va,.int .i64 re,.int .i64 go,.int .i64 at_,.int .i64 ba] 112)).alloc (.cells #[.int .i64 (ob:Int),.int .i64 va] 157))=W7 at *;clear c0 c1 c2 c3 c4 c5 c6 c7 k0 k1 y0 y1 y2 y3 y4 y5 y6 y7 yl z0 EVi;have y:=qa R7.o;have y0:=y 0;have y3:=y 3;have yc:=qa C7.o;have yc0:=yc 0;have yc1:=yc 1;simp at y0 y3 yc0 yc1;have z0:=Z7.o;have k1:=K7.o;have EVi:=EV7.o;have hz7:=HZ7.o;have yl:wr.heap.size < W7.heap.size:=by omega
       have ycl:wr.heap.size+1 < W7.heap.size:=by omega
       have hobW:bo < W7.heap.size:=by omega
       have hwW:w.heap.size < W7.heap.size:=by omega
       have hgW:6 < W7.heap.size:=by omega
       have hI7l:nb+1 < W7.heap.size:=by omega
       have hS7l:W1.heap.size < W7.heap.size:=by omega
       clear y yc hz7;have LR:=qh (fun(X:World) (hX:X.heap[nb+1]?=W7.heap[nb+1]?)=>(I7.o.obj hX).look (ob:Int));have LW:=qh (fun(X:World) (hX:X.heap[W1.heap.size]?=W7.heap[W1.heap.size]?)=>(S7.o.obj hX).look ⟨((ob:Int),va),HCk.o⟩);by_cases hr:(ob:Int) ∈ rd
       ·have E1:=qh (show decide ((ob:Int) ∈ rd)=true by simpa using hr)
        have HR1:=qh hr;clear hr;by_cases hw:((ob:Int),va) ∈ wk
        ·have E2:=qh (show decide (((ob:Int),va) ∈ wk)=true by simpa using hw)
         have HW1:=qh hw;clear hw;refine qI (W7.heap.size) [0,0,1,1,0,0,0,1,1,0,0,0,1,0,1,0,0,1,0,1,0,0] (.fin [0,1,2,3,4,5,6,7,8,9,10,11,12,13,14,15,16,17,18,19,20,21]) (by kernel_rfl) ?_;simp only[xi,qP,qA,sD,sE,sF,sG,Option.bind_some]
         repeat first|(refine qz fun K hK=>?_;go_simp;refine hK _ _ ?_;clear hK K)|(apply qC;(intro w2 hw2;have hk1:=hw2.cell;have hk3:=hw2.1;clear hw2;go_simp;with_reducible rfl);simp only[Act.put,sA,sB,sC])
         refine xM (fun K hK=>?_);refine⟨.bool true,fun w2 hw2=>?_,?_⟩
         ·have lk:=LR.o w2 (hw2.2 (nb+1) hI7l)
          rw[E1.o] at lk;go_simp
         refine hK _ _ ?_;clear hK K
         repeat first|(refine qz fun K hK=>?_;go_simp;refine hK _ _ ?_;clear hK K)|(apply qC;(intro w2 hw2;have hk1:=hw2.cell;have hk3:=hw2.1;clear hw2;go_simp;with_reducible rfl);simp only[Act.put,sA,sB,sC])|refine qH rfl rfl ?_
         refine xM (fun K hK=>?_);refine⟨.bool true,fun w2 hw2=>?_,?_⟩
         ·have lk:=LW.o w2 (hw2.2 W1.heap.size hS7l)
          unfold ZA at lk;rw[E2.o] at lk;go_simp
         refine hK _ _ ?_;clear hK K
         repeat first|(refine qz fun K hK=>?_;go_simp;refine hK _ _ ?_;clear hK K)|(apply qC;(intro w2 hw2;have hk1:=hw2.cell;have hk3:=hw2.1;clear hw2;go_simp;with_reducible rfl);simp only[Act.put,sA,sB,sC])|refine qH rfl rfl ?_|(refine qQ rfl rfl fun K hK=>?_;simp only[Act.put,sA,sB,sC];refine hK _ _ ?_;clear hK K)|(refine qW rfl fun K hK=>?_;simp only[Act.put,sA,sB,sC];refine hK _ _ ?_;clear hK K)|refine qu ?_
         go_wp2_with fail;refine qI (W7.heap.size) [1,0,0] (.fin [0,1,2]) (by kernel_rfl) ?_;simp only[xi,qP,qA,sD,sE,sF,sG]
         repeat first|(refine qz fun K hK=>?_;go_simp;refine hK _ _ ?_;clear hK K)|(apply qC;(intro w2 hw2;have hk1:=hw2.cell;have hk3:=hw2.1;clear hw2;go_simp;with_reducible rfl);simp only[Act.put,sA,sB,sC])|refine qu ?_
         go_wp2_with fail;refine bodyPost_ret (v:=.tuple #[.slice none 0 0,.iface t0 v0]) (by simp[results,Tryz.results43,go_sem]) rfl ?_;have hno:yB os (some A)=none:=by
          show(if xA os [] A=true then some A else none)=none;rw[if_neg];rw[HP.o,HDK.o,xA,HDS.o,HE.o,HDJ.o];rw[HPE.o,if_pos trivial,if_neg HO1n.o,if_neg (fun h=>h.2.1 HW1.o)];simp
         rw[←HR.o,hno];exact⟨⟨_,_,rfl⟩,((BA.o.trans (B7.o.mono (by have:=BA.o.size;omega))).drew).drew⟩
        ·have E2:=qh (show decide (((ob:Int),va) ∈ wk)=false by simpa using hw)
         have HW1:=qh hw;clear hw;by_cases hi:ini=va
         ·have qi:(ini==va)=true:=by simpa using hi
          have HIN:=qh hi;clear hi;refine qI (W7.heap.size) [0,0,1,1,0,0,0,1,1,0,0,0,1,0,1,0,0,1,0,1,0,0] (.fin [0,1,2,3,4,5,6,7,8,9,10,11,12,13,14,15,16,17,18,19,20,21]) (by kernel_rfl) ?_;simp only[xi,qP,qA,sD,sE,sF,sG,Option.bind_some]
          repeat first|(refine qz fun K hK=>?_;go_simp;refine hK _ _ ?_;clear hK K)|(apply qC;(intro w2 hw2;have hk1:=hw2.cell;have hk3:=hw2.1;clear hw2;go_simp;with_reducible rfl);simp only[Act.put,sA,sB,sC])
          refine xM (fun K hK=>?_);refine⟨.bool true,fun w2 hw2=>?_,?_⟩
          ·have lk:=LR.o w2 (hw2.2 (nb+1) hI7l)
           rw[E1.o] at lk;go_simp
          refine hK _ _ ?_;clear hK K
          repeat first|(refine qz fun K hK=>?_;go_simp;refine hK _ _ ?_;clear hK K)|(apply qC;(intro w2 hw2;have hk1:=hw2.cell;have hk3:=hw2.1;clear hw2;go_simp;with_reducible rfl);simp only[Act.put,sA,sB,sC])|refine qH rfl rfl ?_
          refine xM (fun K hK=>?_);refine⟨.bool false,fun w2 hw2=>?_,?_⟩
          ·have lk:=LW.o w2 (hw2.2 W1.heap.size hS7l)
           unfold ZA at lk;rw[E2.o] at lk;go_simp
          refine hK _ _ ?_;clear hK K
          repeat first|(refine qz fun K hK=>?_;go_simp;refine hK _ _ ?_;clear hK K)|(apply qC;(intro w2 hw2;have hk1:=hw2.cell;have hk3:=hw2.1;clear hw2;go_simp;with_reducible rfl);simp only[Act.put,sA,sB,sC])|refine qH rfl rfl ?_|(refine qQ rfl rfl fun K hK=>?_;simp only[Act.put,sA,sB,sC];refine hK _ _ ?_;clear hK K)|(refine qW rfl fun K hK=>?_;simp only[Act.put,sA,sB,sC];refine hK _ _ ?_;clear hK K)|refine qu ?_
          go_wp2_with fail;refine qI (W7.heap.size) [1,0,0] (.fin [0,1,2]) (by kernel_rfl) ?_;simp only[xi,qP,qA,sD,sE,sF,sG]
          repeat first|(refine qz fun K hK=>?_;go_simp;refine hK _ _ ?_;clear hK K)|(apply qC;(intro w2 hw2;have hk1:=hw2.cell;have hk3:=hw2.1;clear hw2;go_simp;with_reducible rfl);simp only[Act.put,sA,sB,sC])|refine qu ?_
          go_wp2_with fail;refine bodyPost_ret (v:=.tuple #[.slice none 0 0,.iface t0 v0]) (by simp[results,Tryz.results43,go_sem]) rfl ?_;have hno:yB os (some A)=none:=by
           show(if xA os [] A=true then some A else none)=none;rw[if_neg];rw[HP.o,HDK.o,xA,HDS.o,HE.o,HDJ.o];rw[HPE.o,if_pos trivial,if_neg HO1n.o,if_neg (fun h=>h.2.2 HIN.o)];simp
          rw[←HR.o,hno];exact⟨⟨_,_,rfl⟩,((BA.o.trans (B7.o.mono (by have:=BA.o.size;omega))).drew).drew⟩
         ·have qi:(ini==va)=false:=by simpa using hi
          have HIN:=qh hi;clear hi;refine qI (W7.heap.size) [0,0,1,1,0,0,0,1,1,0,0,0,1,0,1,0,0,1,0,1,0,0] (.fin [0,1,2,3,4,5,6,7,8,9,10,11,12,13,14,15,16,17,18,19,20,21]) (by kernel_rfl) ?_;simp only[xi,qP,qA,sD,sE,sF,sG,Option.bind_some]
          repeat first|(refine qz fun K hK=>?_;go_simp;refine hK _ _ ?_;clear hK K)|(apply qC;(intro w2 hw2;have hk1:=hw2.cell;have hk3:=hw2.1;clear hw2;go_simp;with_reducible rfl);simp only[Act.put,sA,sB,sC])
          refine xM (fun K hK=>?_);refine⟨.bool true,fun w2 hw2=>?_,?_⟩
          ·have lk:=LR.o w2 (hw2.2 (nb+1) hI7l)
           rw[E1.o] at lk;go_simp
          refine hK _ _ ?_;clear hK K
          repeat first|(refine qz fun K hK=>?_;go_simp;refine hK _ _ ?_;clear hK K)|(apply qC;(intro w2 hw2;have hk1:=hw2.cell;have hk3:=hw2.1;clear hw2;go_simp;with_reducible rfl);simp only[Act.put,sA,sB,sC])|refine qH rfl rfl ?_
          refine xM (fun K hK=>?_);refine⟨.bool false,fun w2 hw2=>?_,?_⟩
          ·have lk:=LW.o w2 (hw2.2 W1.heap.size hS7l)
           unfold ZA at lk;rw[E2.o] at lk;go_simp
          refine hK _ _ ?_;clear hK K
          repeat first|(refine qz fun K hK=>?_;go_simp;refine hK _ _ ?_;clear hK K)|(apply qC;(intro w2 hw2;have hk1:=hw2.cell;have hk3:=hw2.1;clear hw2;go_simp;with_reducible rfl);simp only[Act.put,sA,sB,sC])|refine qH rfl rfl ?_|(refine qQ rfl rfl fun K hK=>?_;simp only[Act.put,sA,sB,sC];refine hK _ _ ?_;clear hK K)|(refine qW rfl fun K hK=>?_;simp only[Act.put,sA,sB,sC];refine hK _ _ ?_;clear hK K)|refine qu ?_
          go_wp2_with (at_mapUpdate;refine qK.halt ?_)
          refine qK.go ?_;obtain⟨MwV,hMw,hMw2⟩:=S7.o;refine hMw.drew.wpList_store ck Tryz.underlying180 (a:=⟨((ob:Int),va),HCk.o⟩) (v:=.bool true) rfl rfl (by rfl) (by rfl) (by rfl) ?_;intro w8 hM8 t8;have z8:=qU (w:=W7.drew) t8;have S8:=qh (jY.put hM8 hMw2);have I8:=qh (I7.o.obj (qE (w:=W7.drew) t8 (by omega)));have B8:=qh ((HB.o.trans (B7.o.mono hz1i)).drew.trans (Below.turned t8 (Nat.le_refl _)));have hz9:nb+1 < w8.heap.size:=by have:W7.drew.heap.size=W7.heap.size:=rfl;omega
          clear t8 hM8 hMw hMw2;go_wp2_with fail;go_roundw
          case rel=>exact⟨j+1,rd,_,by omega,by go_num,I8.o,S8.o,by rw[HE.o,HDJ.o,HPE.o,if_pos trivial,if_neg HO1n.o,if_pos ⟨HR1.o,HW1.o,HIN.o⟩],B8.o,hz9⟩
          case measure=>simp[intOf];omega
       ·have E1:=qh (show decide ((ob:Int) ∈ rd)=false by simpa using hr)
        have HR1:=qh hr;clear hr;refine qI (W7.heap.size) [0,0,1,1,0,0,0,1,1,0,0,0,1,0,1,0,0,1,0,1,0,0] (.fin [0,1,2,3,4,5,6,7,8,9,10,11,12,13,14,15,16,17,18,19,20,21]) (by kernel_rfl) ?_;simp only[xi,qP,qA,sD,sE,sF,sG,Option.bind_some]
        repeat first|(refine qz fun K hK=>?_;go_simp;refine hK _ _ ?_;clear hK K)|(apply qC;(intro w2 hw2;have hk1:=hw2.cell;have hk3:=hw2.1;clear hw2;go_simp;with_reducible rfl);simp only[Act.put,sA,sB,sC])
        refine xM (fun K hK=>?_);refine⟨.bool false,fun w2 hw2=>?_,?_⟩
        ·have lk:=LR.o w2 (hw2.2 (nb+1) hI7l)
         rw[E1.o] at lk;go_simp
        refine hK _ _ ?_;clear hK K
        repeat first|(refine qz fun K hK=>?_;go_simp;refine hK _ _ ?_;clear hK K)|(apply qC;(intro w2 hw2;have hk1:=hw2.cell;have hk3:=hw2.1;clear hw2;go_simp;with_reducible rfl);simp only[Act.put,sA,sB,sC])|refine qH rfl rfl ?_|(refine qQ rfl rfl fun K hK=>?_;simp only[Act.put,sA,sB,sC];refine hK _ _ ?_;clear hK K)|(refine qW rfl fun K hK=>?_;simp only[Act.put,sA,sB,sC];refine hK _ _ ?_;clear hK K)|refine qu ?_
        go_wp2_with fail;refine qI (W7.heap.size) [1,0,0] (.fin [0,1,2]) (by kernel_rfl) ?_;simp only[xi,qP,qA,sD,sE,sF,sG]
        repeat first|(refine qz fun K hK=>?_;go_simp;refine hK _ _ ?_;clear hK K)|(apply qC;(intro w2 hw2;have hk1:=hw2.cell;have hk3:=hw2.1;clear hw2;go_simp;with_reducible rfl);simp only[Act.put,sA,sB,sC])|refine qu ?_
        go_wp2_with fail;refine bodyPost_ret (v:=.tuple #[.slice none 0 0,.iface t0 v0]) (by simp[results,Tryz.results43,go_sem]) rfl ?_;have hno:yB os (some A)=none:=by
         show(if xA os [] A=true then some A else none)=none;rw[if_neg];rw[HP.o,HDK.o,xA,HDS.o,HE.o,HDJ.o];rw[HPE.o,if_pos trivial,if_neg HO1n.o,if_neg (fun h=>HR1.o h.1)];simp
        rw[←HR.o,hno];exact⟨⟨_,_,rfl⟩,((BA.o.trans (B7.o.mono (by have:=BA.o.size;omega))).drew).drew⟩
     ·have qk:(kd !=1)=true:=by simpa using hk1
      have HK1:=qh hk1;have bd:Below wr.heap.size wr (wr.alloc (.cells #[.int .i64 (ob:Int),.int .i64 op,.int .i64 ke,.int .i64 va,.int .i64 re,.int .i64 go,.int .i64 at_,.int .i64 ba] 112)):=(Below.refl _ wr).alloc (Nat.le_refl _) _;have rd8:=qy wr (.cells #[.int .i64 (ob:Int),.int .i64 op,.int .i64 ke,.int .i64 va,.int .i64 re,.int .i64 go,.int .i64 at_,.int .i64 ba] 112);have BD:=qh bd;have RD8:=qh rd8;have HId:=qh (HI.o.obj (bd.block _ hIl));have HSd:=qh (HS.o.obj (bd.block _ hSl));have hzd:(wr.alloc (.cells #[.int .i64 (ob:Int),.int .i64 op,.int .i64 ke,.int .i64 va,.int .i64 re,.int .i64 go,.int .i64 at_,.int .i64 ba] 112)).heap.size=wr.heap.size+1:=by simp
      have HZd:=qh hzd;have y:=qa rd8;have y0:=y 0;have y1:=y 1;have y2:=y 2;have y3:=y 3;have y4:=y 4;have y5:=y 5;have y6:=y 6;have y7:=y 7;simp at y0 y1 y2 y3 y4 y5 y6 y7;have yl:=qd rd8;clear y rd8 bd hzd;clear hk1;go_wp2_with fail;have EVd:=qx BD.o hgl EVi;generalize wr.alloc (.cells #[.int .i64 (ob:Int),.int .i64 op,.int .i64 ke,.int .i64 va,.int .i64 re,.int .i64 go,.int .i64 at_,.int .i64 ba] 112)=W6 at *;have hgl6:6 < W6.heap.size:=by have:=HZd.o;omega
      refine qI (W6.heap.size) [1,0,0] (.fin [0,1,2]) (by kernel_rfl) ?_;simp only[xi,qP,qA,sD,sE,sF,sG]
      repeat first|(refine qz fun K hK=>?_;go_simp;refine hK _ _ ?_;clear hK K)|(apply qC;(intro w2 hw2;have hk1:=hw2.cell;have hk3:=hw2.1;clear hw2;go_simp;with_reducible rfl);simp only[Act.put,sA,sB,sC])|refine qu ?_
      go_wp2_with fail;refine bodyPost_ret (v:=.tuple #[.slice none 0 0,.iface t0 v0]) (by simp[results,Tryz.results43,go_sem]) rfl ?_;have hno:yB os (some A)=none:=by
       show(if xA os [] A=true then some A else none)=none;rw[if_neg];rw[HP.o,HDK.o,xA,HDS.o,HE.o,HDJ.o];rw[HPE.o,if_neg HK1.o];simp
      rw[←HR.o,hno];exact⟨⟨_,_,rfl⟩,(BA.o.trans (BD.o.mono (by have:=BA.o.size;omega))).drew⟩
    ·obtain rfl:j=ds.length:=by omega
     have hq:decide ((ds.length:Int) < (ds.length:Int))=false:=by simp
     have hend:xX os [] wl ds=some wk:=by rw[HE.o,List.drop_length];rfl
     have HEND:=qh hend;clear hend;go_wp2_with fail;go_roundw
     case rel=>exact⟨k+1,wk,by omega,by go_num,HS.o,by rw[HP.o,HDK.o,xA,HDS.o,HEND.o],HB.o,by omega⟩
     case measure=>simp[intOf];omega
  ·obtain rfl:k=rs.length:=by omega
   have hq:decide ((rs.length:Int) < (rs.length:Int))=false:=by simp
   have hyes:xA os [] A=true:=by rw[HP.o,List.drop_of_length_le (by have:=HRL.o;omega)];rfl
   have HYES:=qh hyes;clear hyes;go_wp2_with fail;refine bodyPost_ret (v:=.tuple #[.slice at1 rs.length ct1,.nilIface]) (by simp[results,Tryz.results43,go_sem]) rfl ?_;have hall:yB os (some A)=some A:=by
    show(if xA os [] A=true then some A else none)=some A;rw[if_pos HYES.o]
   rw[←HR.o,hall];refine⟨_,rfl,⟨rs,qj.base (qj.below O1.o HB.o) (by have:=B0.o.size;omega),HRL.o,fun i r s hr hs=>?_⟩,B1.o.trans (HB.o.mono (by have:=B1.o.size;omega))⟩;have:=HRC.o i r s hr hs;exact⟨this.1,qj.base (qj.below this.2 HB.o) (by have:=B0.o.size;omega)⟩
end
def jU (g:Dd->Int) (o:Int) (X:List Dd) (r:Option Int):Option Int:=X.foldl (fun r d=>if d.obj=o then some (g d) else r) r
section
variable {g:Dd->Int} {o:Int}
theorem qaq (X Y:List Dd) (r:Option Int):jU g o (X++Y) r=jU g o Y (jU g o X r):=by unfold jU;rw[List.foldl_append]
theorem Yg {c:Int} (hc:c≠o):∀(X:List Dd) (r:Option Int),jU g o (X.filter fun x=>x.obj !=c) r=jU g o X r
 |[],r=>rfl
 |d::X,r=>by
  have ih:=Yg hc X;by_cases e:d.obj=c
  ·rw [List.filter_cons_of_neg (by simp[e])]
   rw[ih];unfold jU;rw[List.foldl_cons,if_neg (by rw[e];exact hc)]
  ·rw [List.filter_cons_of_pos (by simp[e])]
   unfold jU at ih ⊢;rw[List.foldl_cons,List.foldl_cons,ih]
theorem YM:∀{X:List Dd} {M:Mi},zm M->fnd o (X.foldl (fun m d=>upd d.obj (g d) m) M)=jU g o X (fnd o M)
 |[],M,_=>rfl
 |d::X,M,h=>by
  rw[List.foldl_cons,YM (je h)];unfold jU;rw[List.foldl_cons];by_cases e:d.obj=o
  ·rw [if_pos e,e,un h]
  ·rw [if_neg e,uS h fun h=>e h.symm]
theorem uZ:∀{X:List Dd} {M:Mi},zm M->zm (X.foldl (fun m d=>upd d.obj (g d) m) M)
 |[],M,h=>h
 |d::X,M,h=>by rw[List.foldl_cons];exact uZ (je h)
end
theorem VH (s:St):zm (zg s):=uZ List.Pairwise.nil
theorem XN (s:St):zm (ja s):=uZ List.Pairwise.nil
theorem qbz (s:St) (o:Int):fnd o (zg s)=jU Dd.got o (xQ [] s.deeds) none:=YM List.Pairwise.nil
theorem qaY (s:St) (o:Int):fnd o (ja s)=jU Dd.val o (xO s.deeds) none:=YM List.Pairwise.nil
def lwR (l:List Dd) (o:Int):Option Int:=l.foldl (fun r d=>if d.op=2/\d.ret=1/\d.obj=o then some d.val else r) none
theorem XQ {α:Type} {p:List α->Prop} (h0:p []) (h1:∀l a,p l->p (l++[a])) (l:List α):p l:=by
 rw[←List.reverse_reverse l];generalize l.reverse=r
 induction r with
 |nil=>exact h0
 |cons a r ih=>rw[List.reverse_cons];exact h1 _ _ ih
theorem uh (l:List Dd) (d:Dd):xO (l++[d])=if d.op=2/\d.ret=1 then(xO l).filter (fun o=>o.obj !=d.obj)++[d] else xO l:=by unfold xO;rw[List.foldl_append];rfl
theorem Kn (l:List Dd) (d:Dd) (o:Int):lwR (l++[d]) o=if d.op=2/\d.ret=1/\d.obj=o then some d.val else lwR l o:=by unfold lwR;rw[List.foldl_append];rfl
theorem VY (o:Int) (l:List Dd):jU Dd.val o (xO l) none=lwR l o:=by
 induction l using XQ with
 |h0=>rfl
 |h1 l d ih=>
  rw[uh,Kn];by_cases hw:d.op=2/\d.ret=1
  ·rw [if_pos hw,qaq]
   by_cases e:d.obj=o
   ·rw [if_pos ⟨hw.1,hw.2,e⟩]
    simp[jU,e]
   ·rw [if_neg (fun h=>e h.2.2),Yg e,ih]
    simp[jU,e]
  ·rw [if_neg hw,if_neg (fun h=>hw ⟨h.1,h.2.1⟩),ih]
theorem qet (s:St) (o:Int):fnd o (ja s)=lwR s.deeds o:=(qaY s o).trans (VY o s.deeds)
theorem qeb {l:List Dd} {o v:Int} (h:lwR l o=some v):∃d ∈ l,d.op=2/\d.ret=1/\d.obj=o/\d.val=v:=by
 induction l using XQ with
 |h0=>cases h
 |h1 l d ih=>
  rw[Kn] at h
  split at h
  ·rename_i e
   exact⟨d,by simp,e.1,e.2.1,e.2.2,Option.some.inj h⟩
  ·obtain ⟨x,hx,h⟩:=ih h
   exact⟨x,by simp[hx],h⟩
def YE (met:List Int) (l:List Dd):List Int:=l.foldl (fun met d=>if yO d||decide (d.op=2) then d.obj::met else met) met
theorem Jj:∀(l m:List Dd) (met:List Int),xQ met (l++m)=xQ met l++xQ (YE met l) m
 |[],m,met=>rfl
 |d::l,m,met=>by
  rw[List.cons_append,xQ,xQ,Jj l m,List.append_assoc];rfl
theorem Kk:∀{l:List Dd} {met:List Int} {x:Int},x ∈ met->x ∈ YE met l
 |[],_,_,h=>h
 |d::l,met,x,h=>by
  unfold YE;rw[List.foldl_cons];refine Kk (l:=l) ?_
  split
  ·exact List.mem_cons_of_mem _ h
  ·exact h
theorem jB:∀{l:List Dd} {met:List Int} {r:Dd},r ∈ xQ met l->r ∈ l/\yO r=true/\r.obj ∉ met/\r.obj ∈ YE met l
 |[],_,_,h=>by cases h
 |d::l,met,r,h=>by
  rw[xQ] at h;rcases List.mem_append.1 h with h|h
  ·split at h
   ·rename_i e
    rw[List.mem_singleton.1 h];simp only[Bool.and_eq_true,Bool.not_eq_true'] at e;refine⟨List.mem_cons_self ..,e.1,by simpa using e.2,?_⟩;unfold YE;rw[List.foldl_cons];refine Kk (l:=l) ?_;rw[e.1];simp
   ·cases h
  ·obtain ⟨h1,h2,h3,h4⟩:=jB h
   refine⟨List.mem_cons_of_mem _ h1,h2,fun hm=>h3 ?_,?_⟩
   ·split
    ·exact List.mem_cons_of_mem _ hm
    ·exact hm
   ·unfold YE at h4 ⊢
    rw[List.foldl_cons];exact h4
section
variable {A:Au} {o v:Int}
theorem Jl {os:List Ob}:∀{l:List Dd} {rd:List Int} {wr wr':List (Int×Int)},xX os rd wr l=some wr'->(∀p ∈ wr,p ∈ wr')/\∀d ∈ l,d.op≠1->(d.obj,d.val) ∈ wr'/\(d.obj,d.val) ∉ wr
 |[],rd,wr,wr',h=>by
  simp only[xX,Option.some.injEq] at h;subst h;exact⟨fun p hp=>hp,fun d hd=>nomatch hd⟩
 |d::l,rd,wr,wr',h=>by
  rw[xX] at h
  split at h
  ·cases h
  ·split at h
   ·split at h
    ·rename_i hd
     obtain⟨h1,h2⟩:=Jl h;refine⟨h1,fun x hx hne=>?_⟩;rcases List.mem_cons.1 hx with rfl|hx
     ·exact absurd hd hne
     ·exact h2 x hx hne
    ·split at h
     ·rename_i hc
      obtain⟨h1,h2⟩:=Jl h;refine⟨fun p hp=>h1 p (List.mem_cons_of_mem _ hp),fun x hx hne=>?_⟩;rcases List.mem_cons.1 hx with rfl|hx
      ·exact ⟨h1 _ (List.mem_cons_self ..),hc.2.1⟩
      ·obtain ⟨h3,h4⟩:=h2 x hx hne
       exact⟨h3,fun hm=>h4 (List.mem_cons_of_mem _ hm)⟩
     ·cases h
   ·cases h
end
section
attribute [local irreducible] xE
def yZ (w:World) (b:Nat) (met:List Int) (n:Nat):Prop:=∃M,qS w b M/\∀k:Int,∃c:Nat,c<=n/\(M k).getD (.int .i64 0)=.int .i64 c/\(c=0↔k ∉ met)
section
variable {w w':World} {b n:Nat} {met:List Int}
theorem yZ.obj (h:yZ w b met n) (hw:w'.heap[b]?=w.heap[b]?):yZ w' b met n:=let ⟨M,h1,h2⟩:=h;⟨M,h1.obj hw,h2⟩
theorem yZ.lt (h:yZ w b met n):b < w.heap.size:=let ⟨M,h1,h2⟩:=h;h1.lt
theorem yZ.made (h:w.heap[b]?=some (.map #[] 0)):yZ w b [] 0:=⟨_,qS.made h,fun c=>⟨0,Nat.le_refl _,rfl,by simp⟩⟩
theorem yZ.mono {n':Nat} (h:yZ w b met n) (hn:n<=n'):yZ w b met n':=let ⟨M,h1,h2⟩:=h;⟨M,h1,fun k=>let ⟨c,a,r⟩:=h2 k;⟨c,by omega,r⟩⟩
theorem ZQ (w:World):(zeroValue 3).run Tryz.prog w=.ok (.int .i64 0) w:=by kernel_rfl
theorem yZ.put {M:Int->Option Value} {a:Int} {c:Nat} (h:qS w' b (VM M a (some (.int .i64 ((c:Int)+1))))) (h2:∀k:Int,∃c:Nat,c<=n/\(M k).getD (.int .i64 0)=.int .i64 c/\(c=0↔k ∉ met)) (hc:c<=n):yZ w' b (a::met) (n+1):=by
 refine⟨_,h,fun k=>?_⟩;by_cases e:k=a
 ·subst e;rw[xC];exact⟨c+1,by omega,by simp,by simp⟩
 ·rw [qZ e]
  obtain⟨c',h1,h2,h3⟩:=h2 k;exact⟨c',by omega,h2,by rw[h3];simp[e]⟩
end
theorem qj.sli {α:Type} {f:α->List Value} {e:TypeId} {sz B:Nat} {w:World} {v:Value} {l:List α} (h:qj f e sz w B v l):∃a c,v=.slice a l.length c:=by
 rcases qj.form h with⟨h1,h2⟩|⟨g,cap,h1,-⟩
 ·exact ⟨_,_,by rw[h1,h2];rfl⟩
 ·exact ⟨_,_,h1⟩
theorem qj.neM {α:Type} {f:α->List Value} {e:TypeId} {sz B b:Nat} {w:World} {v:Value} {l:List α} (h:qj f e sz w B v l) (hm:∃es c,w.heap[b]?=some (.map es c)):v.ownBlock≠some b:=fun e=>by
 obtain⟨es,c,hm⟩:=hm;obtain⟨c2,hc2⟩:=h.keepObj b e;rw[hm] at hc2;cases hc2
theorem Xy:∀(l:List Dd) (met:List Int),(xQ met l).length<=l.length
 |[],_=>Nat.le_refl _
 |d::l,met=>by
  rw[xQ,List.length_append,List.length_cons];have:=Xy l (if yO d||decide (d.op=2) then d.obj::met else met);generalize (xQ (if yO d||decide (d.op=2) then d.obj::met else met) l)=r at *
  split
  ·rw [List.length_singleton];omega
  ·rw [List.length_nil];omega
theorem qdW (i th st be fi tr:Int) (dv:Value) (l:List Dd) (w:World) (hd:Sl w w.heap.size 8 dv l.length (l.flatMap Dd.cells)) (hl:l.length<=400):
  Calls Tryz.prog 42 #[.agg #[.int .i64 i,.int .i64 th,.int .i64 st,.int .i64 be,.int .i64 fi,.int .i64 tr,dv]] w fun e w'=>∃v,e=.returned v/\XG w' w.heap.size v (xQ [] l)/\Below w.heap.size w w':=by
 obtain⟨ad,cd,rfl,md⟩:=hd.ex;have hmm:=@run_makeMap Tryz.prog;have HD:=qh hd;clear hd md;go_enter Tryz.func42,Tryz.ntmps42;go_wp2_with fail;have B0:=qh (show Below w.heap.size w ((w.alloc (.cells #[.int .i64 i,.int .i64 th,.int .i64 st,.int .i64 be,.int .i64 fi,.int .i64 tr,.slice ad l.length cd] 49)).alloc (.map #[] 0)) from((Below.refl _ w).alloc (Nat.le_refl _) _).alloc (by simp) _);have C0:=qh (show yZ ((w.alloc (.cells #[.int .i64 i,.int .i64 th,.int .i64 st,.int .i64 be,.int .i64 fi,.int .i64 tr,.slice ad l.length cd] 49)).alloc (.map #[] 0)) (w.heap.size+1) [] 0 from yZ.made (by have:=heap_alloc_new (w.alloc (.cells #[.int .i64 i,.int .i64 th,.int .i64 st,.int .i64 be,.int .i64 fi,.int .i64 tr,.slice ad l.length cd] 49)) (.map #[] 0);simpa using this));generalize ((w.alloc (.cells #[.int .i64 i,.int .i64 th,.int .i64 st,.int .i64 be,.int .i64 fi,.int .i64 tr,.slice ad l.length cd] 49)).alloc (.map #[] 0))=W at *
 go_loopw [4,12] (fun q p wr=>∃(k:Nat),k<=l.length/\p=.int .i64 k/\XG wr w.heap.size q (xQ [] (l.take k))/\yZ wr (w.heap.size+1) (YE [] (l.take k)) k/\Below w.heap.size w wr) (fun _ p _=>l.length - (intOf p).toNat)
 case atStart=>exact⟨0,by omega,by go_num,qj.nil _ _,C0.o,B0.o⟩
 case round=>
  obtain⟨k,hk,rfl,qo,qc,qb⟩:=hrel;clear B0 C0 W;have hsz:=qb.size;have hcl:=qc.lt;obtain⟨X,hX⟩:∃X,xQ [] (l.take k)=X:=⟨_,rfl⟩
  rw[hX] at qo;obtain⟨aq,cq,rfl⟩:=qj.sli qo;have HXX:=qh hX;have QO:=qh qo;have QC:=qh qc;have QB:=qh qb;clear qo qc qb hX;by_cases hlt:k < l.length
  ·obtain ⟨b,off,d,rfl,hb,hdk,hc⟩:=HD.o.atF Dd.len rfl hlt
   have HR:=qh (show xQ [] (l.take (k+1))=xQ [] (l.take k)++(if yO d&&!(YE [] (l.take k)).contains d.obj then[d] else[]) by
    rw[List.take_add_one,hdk,Option.toList_some,Jj];simp[xQ])
   have HM:=qh (show YE [] (l.take (k+1))=(if yO d||decide (d.op=2) then d.obj::YE [] (l.take k) else YE [] (l.take k)) by
    rw[List.take_add_one,hdk,Option.toList_some];unfold YE;rw[List.foldl_append];rfl)
   obtain⟨ob,op,ke,va,re,go,at_,ba⟩:=d;have c0:wr.cell? ⟨b,off+k*8,none⟩=some (.int .i64 ob):=qx QB.o hb (hc 0 (by decide));have c1:wr.cell? ⟨b,off+k*8+1,none⟩=some (.int .i64 op):=qx QB.o hb (hc 1 (by decide));have c2:wr.cell? ⟨b,off+k*8+2,none⟩=some (.int .i64 ke):=qx QB.o hb (hc 2 (by decide));have c3:wr.cell? ⟨b,off+k*8+3,none⟩=some (.int .i64 va):=qx QB.o hb (hc 3 (by decide));have c4:wr.cell? ⟨b,off+k*8+4,none⟩=some (.int .i64 re):=qx QB.o hb (hc 4 (by decide));have c5:wr.cell? ⟨b,off+k*8+5,none⟩=some (.int .i64 go):=qx QB.o hb (hc 5 (by decide));have c6:wr.cell? ⟨b,off+k*8+6,none⟩=some (.int .i64 at_):=qx QB.o hb (hc 6 (by decide));have c7:wr.cell? ⟨b,off+k*8+7,none⟩=some (.int .i64 ba):=qx QB.o hb (hc 7 (by decide));have hbw:b < wr.heap.size:=by omega
   obtain⟨Y,hY⟩:∃Y,YE [] (l.take k)=Y:=⟨_,rfl⟩
   rw[HXX.o] at HR;rw[hY] at QC HM HR;have hXl:X.length<=400:=by
    rw[←HXX.o];exact Nat.le_trans (Xy _ _) (by rw[List.length_take];omega)
   clear hc hdk hY;by_cases e1:op=1
   ·subst e1
    by_cases e4:re=3
    ·subst e4
     have b3:Below wr.heap.size wr (wr.alloc (.cells #[.int .i64 ob,.int .i64 1,.int .i64 ke,.int .i64 va,.int .i64 3,.int .i64 go,.int .i64 at_,.int .i64 ba] 112)):=(Below.refl _ wr).alloc (Nat.le_refl _) _;have r3:=qy wr (.cells #[.int .i64 ob,.int .i64 1,.int .i64 ke,.int .i64 va,.int .i64 3,.int .i64 go,.int .i64 at_,.int .i64 ba] 112);have QO3:=qh (qj.below QO.o b3);have QC3:=qh (QC.o.obj (b3.block _ hcl));have B3:=qh (QB.o.trans (b3.mono hsz));have hz3:(wr.alloc (.cells #[.int .i64 ob,.int .i64 1,.int .i64 ke,.int .i64 va,.int .i64 3,.int .i64 go,.int .i64 at_,.int .i64 ba] 112)).heap.size=wr.heap.size+1:=by simp
     have HZ3:=qh (show w.heap.size<=(wr.alloc (.cells #[.int .i64 ob,.int .i64 1,.int .i64 ke,.int .i64 va,.int .i64 3,.int .i64 go,.int .i64 at_,.int .i64 ba] 112)).heap.size by omega);have hne3:(Value.slice aq X.length cq).ownBlock≠some wr.heap.size:=fun e=>absurd (qj.lt QO.o _ e).2 (Nat.lt_irrefl _);have y:=qa r3;have y0:=y 0;have y1:=y 1;have y2:=y 2;have y3:=y 3;have y4:=y 4;have y5:=y 5;have y6:=y 6;have y7:=y 7;simp at y0 y1 y2 y3 y4 y5 y6 y7;have yl:=qd r3;clear y;obtain⟨M,hM,hM2⟩:=QC3.o;obtain⟨c,hcn,hg,hc0⟩:=hM2 ob;have lk:=(hM.look Tryz.underlying3 Tryz.underlying138 (ZQ _) ob rfl).1;rw[hg] at lk;have hc4:c<=400:=by omega
     have HM2:=qh hM2;clear hM2 hg;have R3:=qh r3;clear r3 b3;by_cases hm:c=0
     ·subst hm
      have hnm:=qh (hc0.1 rfl);rw[show ((0:Nat):Int)=0 from rfl] at lk;clear hc0;go_wp2_with (at_builtin;refine qN rfl _ _ _ rfl _ 64 Tryz.underlying47 JF rfl QO3.o (⟨ob,1,ke,va,3,go,at_,ba⟩:Dd) HZ3.o (by rfl) (by rfl) (by first|rfl|simp) rfl (Wt _) (by first|omega|(simp only[List.length_append,List.length_cons,List.length_nil,List.length_replicate];omega)) (by first|omega|(simp only[List.length_append,List.length_cons,List.length_nil,List.length_replicate];omega)) ?_;refine qK.halt ?_)
      refine qK.go ?_;generalize wr.alloc (.cells #[.int .i64 ob,.int .i64 1,.int .i64 ke,.int .i64 va,.int .i64 3,.int .i64 go,.int .i64 at_,.int .i64 ba] 112)=W3 at *;intro g5 c5 w5 o5 G5;have r5:w5.heap[wr.heap.size]?=some _:=qL R3.o G5 hne3;have hM5:=hM.obj (G5.grown.block (w.heap.size+1) hM.lt fun e=>qj.neM QO3.o hM.isMap e.symm);have lk5:=(hM5.look Tryz.underlying3 Tryz.underlying138 (ZQ w5) ob rfl).1;have hg5:(M ob).getD (.int .i64 0)=.int .i64 0:=by
       obtain⟨c',h1,h2,h3⟩:=HM2.o ob;rw[h2,h3.2 hnm.o];rfl
      rw[hg5] at lk5;have O5:=qh o5;have z5:=G5.size;have B5:=qh (B3.o.trans (G5.below (B:=w.heap.size) (by omega) fun j hj=>(qj.lt QO3.o j hj).1));clear lk hcn y0 y1 y2 y3 y4 y5 y6 y7 yl o5 G5 hg5 hM;have y:=qa r5;have y0:=y 0;have y1:=y 1;have y2:=y 2;have y3:=y 3;have y4:=y 4;have y5:=y 5;have y6:=y 6;have y7:=y 7;simp at y0 y1 y2 y3 y4 y5 y6 y7;have yl:=qd r5;clear y;clear r5;go_wp2_with (at_mapUpdate;refine qK.halt ?_)
      refine qK.go ?_;refine hM5.wpList_store Tryz.underlying3 Tryz.underlying138 (a:=ob) (v:=.int .i64 1) rfl (.inl rfl) (by rfl) (by rfl) (by rfl) ?_;intro w6 hM6 t6;have C6:=qh (yZ.put (c:=0) hM6 HM2.o (Nat.zero_le _));have O6:=qh (qj.kd (T:=fun _=>False) O5.o (Kd.turned t6) fun h=>h);have B6:=qh (B5.o.trans (Below.turned t6 (by omega)));clear t6 hM6;go_wp2_with fail;go_roundw
      case rel=>
       refine⟨k+1,by omega,by go_num,?_,?_,B6.o⟩
       ·have e:=HR.o
        rw[if_pos (by simp[yO,hnm.o])] at e;rw[e];exact O6.o
       ·have e:=HM.o
        rw[if_pos (by simp[yO])] at e;rw[e];exact C6.o
      case measure=>simp[intOf];omega
     ·have hnm:=qh (Classical.not_not.1 fun h=>hm (hc0.2 h))
      have q0:((c:Int)==0)=false:=by simp;omega
      clear hc0 hm;go_wp2_with (at_mapUpdate;refine qK.halt ?_)
      generalize wr.alloc (.cells #[.int .i64 ob,.int .i64 1,.int .i64 ke,.int .i64 va,.int .i64 3,.int .i64 go,.int .i64 at_,.int .i64 ba] 112)=W3 at *;refine qK.go ?_;refine hM.wpList_store Tryz.underlying3 Tryz.underlying138 (a:=ob) (v:=.int .i64 ((c:Int)+1)) rfl (.inl rfl) (by rfl) (by rfl) (by rfl) ?_;intro w6 hM6 t6;have C6:=qh (yZ.put hM6 HM2.o hcn);have O6:=qh (qj.kd (T:=fun _=>False) QO3.o (Kd.turned t6) fun h=>h);have B6:=qh (B3.o.trans (Below.turned t6 (by omega)));clear t6 hM6;go_wp2_with fail;go_roundw
      case rel=>
       refine⟨k+1,by omega,by go_num,?_,?_,B6.o⟩
       ·have e:=HR.o
        rw[if_neg (by simp[yO,hnm.o]),List.append_nil] at e;rw[e];exact O6.o
       ·have e:=HM.o
        rw[if_pos (by simp[yO])] at e;rw[e];exact C6.o
      case measure=>simp[intOf];omega
    ·have q4:(re==3)=false:=by simpa using e4
     have b3:Below wr.heap.size wr (wr.alloc (.cells #[.int .i64 ob,.int .i64 1,.int .i64 ke,.int .i64 va,.int .i64 re,.int .i64 go,.int .i64 at_,.int .i64 ba] 112)):=(Below.refl _ wr).alloc (Nat.le_refl _) _;have r3:=qy wr (.cells #[.int .i64 ob,.int .i64 1,.int .i64 ke,.int .i64 va,.int .i64 re,.int .i64 go,.int .i64 at_,.int .i64 ba] 112);have QO3:=qh (qj.below QO.o b3);have QC3:=qh (QC.o.obj (b3.block _ hcl));have B3:=qh (QB.o.trans (b3.mono hsz));have hz3:(wr.alloc (.cells #[.int .i64 ob,.int .i64 1,.int .i64 ke,.int .i64 va,.int .i64 re,.int .i64 go,.int .i64 at_,.int .i64 ba] 112)).heap.size=wr.heap.size+1:=by simp
     have HZ3:=qh (show w.heap.size<=(wr.alloc (.cells #[.int .i64 ob,.int .i64 1,.int .i64 ke,.int .i64 va,.int .i64 re,.int .i64 go,.int .i64 at_,.int .i64 ba] 112)).heap.size by omega);have hne3:(Value.slice aq X.length cq).ownBlock≠some wr.heap.size:=fun e=>absurd (qj.lt QO.o _ e).2 (Nat.lt_irrefl _);have y:=qa r3;have y0:=y 0;have y1:=y 1;have y2:=y 2;have y3:=y 3;have y4:=y 4;have y5:=y 5;have y6:=y 6;have y7:=y 7;simp at y0 y1 y2 y3 y4 y5 y6 y7;have yl:=qd r3;clear y;clear r3 b3;go_wp2_with fail;generalize wr.alloc (.cells #[.int .i64 ob,.int .i64 1,.int .i64 ke,.int .i64 va,.int .i64 re,.int .i64 go,.int .i64 at_,.int .i64 ba] 112)=W3 at *;go_roundw
     case rel=>
      refine⟨k+1,by omega,by go_num,?_,?_,B3.o⟩
      ·have e:=HR.o
       rw[if_neg (by simp[yO,e4]),List.append_nil] at e;rw[e];exact QO3.o
      ·have e:=HM.o
       rw[if_neg (by simp[yO,e4])] at e;rw[e];exact QC3.o.mono (by omega)
     case measure=>simp[intOf];omega
   ·have q1:(op==1)=false:=by simpa using e1
    by_cases e2:op=2
    ·subst e2
     have b3:Below wr.heap.size wr (wr.alloc (.cells #[.int .i64 ob,.int .i64 2,.int .i64 ke,.int .i64 va,.int .i64 re,.int .i64 go,.int .i64 at_,.int .i64 ba] 112)):=(Below.refl _ wr).alloc (Nat.le_refl _) _;have r3:=qy wr (.cells #[.int .i64 ob,.int .i64 2,.int .i64 ke,.int .i64 va,.int .i64 re,.int .i64 go,.int .i64 at_,.int .i64 ba] 112);have QO3:=qh (qj.below QO.o b3);have QC3:=qh (QC.o.obj (b3.block _ hcl));have B3:=qh (QB.o.trans (b3.mono hsz));have hz3:(wr.alloc (.cells #[.int .i64 ob,.int .i64 2,.int .i64 ke,.int .i64 va,.int .i64 re,.int .i64 go,.int .i64 at_,.int .i64 ba] 112)).heap.size=wr.heap.size+1:=by simp
     have HZ3:=qh (show w.heap.size<=(wr.alloc (.cells #[.int .i64 ob,.int .i64 2,.int .i64 ke,.int .i64 va,.int .i64 re,.int .i64 go,.int .i64 at_,.int .i64 ba] 112)).heap.size by omega);have hne3:(Value.slice aq X.length cq).ownBlock≠some wr.heap.size:=fun e=>absurd (qj.lt QO.o _ e).2 (Nat.lt_irrefl _);have y:=qa r3;have y0:=y 0;have y1:=y 1;have y2:=y 2;have y3:=y 3;have y4:=y 4;have y5:=y 5;have y6:=y 6;have y7:=y 7;simp at y0 y1 y2 y3 y4 y5 y6 y7;have yl:=qd r3;clear y;obtain⟨M,hM,hM2⟩:=QC3.o;obtain⟨c,hcn,hg,hc0⟩:=hM2 ob;have lk:=(hM.look Tryz.underlying3 Tryz.underlying138 (ZQ _) ob rfl).1;rw[hg] at lk;have hc4:c<=400:=by omega
     have HM2:=qh hM2;clear hM2 hg;clear r3 b3 hc0;go_wp2_with (at_mapUpdate;refine qK.halt ?_)
     generalize wr.alloc (.cells #[.int .i64 ob,.int .i64 2,.int .i64 ke,.int .i64 va,.int .i64 re,.int .i64 go,.int .i64 at_,.int .i64 ba] 112)=W3 at *;refine qK.go ?_;refine hM.wpList_store Tryz.underlying3 Tryz.underlying138 (a:=ob) (v:=.int .i64 ((c:Int)+1)) rfl (.inl rfl) (by rfl) (by rfl) (by rfl) ?_;intro w6 hM6 t6;have C6:=qh (yZ.put hM6 HM2.o hcn);have O6:=qh (qj.kd (T:=fun _=>False) QO3.o (Kd.turned t6) fun h=>h);have B6:=qh (B3.o.trans (Below.turned t6 (by omega)));clear t6 hM6;go_wp2_with fail;go_roundw
     case rel=>
      refine⟨k+1,by omega,by go_num,?_,?_,B6.o⟩
      ·have e:=HR.o
       rw[if_neg (by simp[yO]),List.append_nil] at e;rw[e];exact O6.o
      ·have e:=HM.o
       rw[if_pos (by simp[yO])] at e;rw[e];exact C6.o
     case measure=>simp[intOf];omega
    ·have q2:(op==2)=false:=by simpa using e2
     have b3:Below wr.heap.size wr (wr.alloc (.cells #[.int .i64 ob,.int .i64 op,.int .i64 ke,.int .i64 va,.int .i64 re,.int .i64 go,.int .i64 at_,.int .i64 ba] 112)):=(Below.refl _ wr).alloc (Nat.le_refl _) _;have r3:=qy wr (.cells #[.int .i64 ob,.int .i64 op,.int .i64 ke,.int .i64 va,.int .i64 re,.int .i64 go,.int .i64 at_,.int .i64 ba] 112);have QO3:=qh (qj.below QO.o b3);have QC3:=qh (QC.o.obj (b3.block _ hcl));have B3:=qh (QB.o.trans (b3.mono hsz));have hz3:(wr.alloc (.cells #[.int .i64 ob,.int .i64 op,.int .i64 ke,.int .i64 va,.int .i64 re,.int .i64 go,.int .i64 at_,.int .i64 ba] 112)).heap.size=wr.heap.size+1:=by simp
     have HZ3:=qh (show w.heap.size<=(wr.alloc (.cells #[.int .i64 ob,.int .i64 op,.int .i64 ke,.int .i64 va,.int .i64 re,.int .i64 go,.int .i64 at_,.int .i64 ba] 112)).heap.size by omega);have hne3:(Value.slice aq X.length cq).ownBlock≠some wr.heap.size:=fun e=>absurd (qj.lt QO.o _ e).2 (Nat.lt_irrefl _);have y:=qa r3;have y0:=y 0;have y1:=y 1;have y2:=y 2;have y3:=y 3;have y4:=y 4;have y5:=y 5;have y6:=y 6;have y7:=y 7;simp at y0 y1 y2 y3 y4 y5 y6 y7;have yl:=qd r3;clear y;clear r3 b3;go_wp2_with fail;generalize wr.alloc (.cells #[.int .i64 ob,.int .i64 op,.int .i64 ke,.int .i64 va,.int .i64 re,.int .i64 go,.int .i64 at_,.int .i64 ba] 112)=W3 at *;go_roundw
     case rel=>
      refine⟨k+1,by omega,by go_num,?_,?_,B3.o⟩
      ·have e:=HR.o
       rw[if_neg (by simp[yO,e1]),List.append_nil] at e;rw[e];exact QO3.o
      ·have e:=HM.o
       rw[if_neg (by simp[yO,e1,e2])] at e;rw[e];exact QC3.o.mono (by omega)
     case measure=>simp[intOf];omega
  ·obtain rfl:k=l.length:=by omega
   have e:=HXX.o;rw[List.take_length] at e;have hq:decide ((l.length:Int) < (l.length:Int))=false:=by simp
   have HE:=qh e;clear e;go_wp2;go_ret;exact⟨_,rfl,by rw[HE.o];exact QO.o,QB.o⟩
end
