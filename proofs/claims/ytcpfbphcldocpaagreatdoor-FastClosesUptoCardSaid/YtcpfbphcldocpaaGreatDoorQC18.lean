/- Parts of the proof; the first: slices.IndexFunc, slices.DeleteFunc of movers. Conditions: those of each theorem, as typed. -/
import Derived.Test.YtcpfbphcldocpaaGreatDoorQC13
import Derived.Test.YtcpfbphcldocpaaGreatDoorQC14
import Derived.Test.YtcpfbphcldocpaaGreatDoorQC17
import Derived.Test.YtcpfbphcldocpaaGreatDoorQC02
import Derived.Test.YtcpfbphcldocpaaGreatDoorQC03
import Derived.Test.YtcpfbphcldocpaaGreatDoorQC08
import Derived.Test.YtcpfbphcldocpaaGreatDoorQC04
import Derived.Deep.CutRange
import Derived.Shelf.Abstract
set_option linter.unusedVariables false
set_option linter.unusedSimpArgs false
set_option linter.unusedSectionVars false
set_option maxRecDepth 100000
set_option maxHeartbeats 4000000
namespace Go.Proofs.YtcpfbphcldocpaaGreatDoor
open Go.Maps Go.RowKit Go.Shelf
section
attribute [local irreducible] xL
theorem mv_Index {v:Value} {l:List xz} {B:Nat} (w:World) (h:qj xz.cells 133 1 w B v l) (hl:l.length<=400) {g:Nat} {lb:Array Value} {p:xz->Bool} (eg:∀args w,(callFunc g args).run Tryz.prog w=.ok (.enter g args) w)
  (hp:Yx Tryz.prog g lb (fun m:xz=>xE m.p) p (· ∈ l) w v.ownBlock):
  Calls Tryz.prog 86 #[v,.func (.func g) #[] lb] w fun e w'=>e=.returned (.int .i64 (Vd p l))/\Below w.heap.size w w':=by
 obtain⟨av,cv,rfl⟩:=qj.sli h;have HH:=qd h;have HP:=qd hp;clear h hp;go_enter Tryz.func86,Tryz.ntmps86;go_wp2_with fail;obtain⟨W,rfl⟩:∃W,W=w:=⟨_,rfl⟩
 go_loopw [8] (fun q wr=>∃(k:Nat),k<=l.length/\q=.int .i64 k/\(∀x ∈ l.take k,p x=false)/\Below W.heap.size W wr) (fun q _=>l.length - (intOf q).toNat)
 case atStart=>exact⟨0,by omega,by go_num,by simp,Below.refl _ _⟩
 case round=>
  obtain⟨k,hk,rfl,hn,hb⟩:=hrel;have HN:=qd hn;have HB:=qd hb;have hsz:=hb.size;clear hn hb;by_cases hlt:k < l.length
  ·obtain ⟨b,off,d,rfl,hb,hdk,hc⟩:=(qj.sl HH.o).atF xz.len rfl hlt
   have HDK:=qd hdk;have hcl:=qd (HP.o wr d (List.mem_of_getElem? hdk) (grownBy.below (grownBy.refl _ _) HB.o));obtain⟨mp,mr,mw,mdv⟩:=d;have c0:wr.cell? ⟨b,off+k,none⟩=some (xE mp):=by have:=qp HB.o hb (hc 0 (by decide));simpa using this
   unfold xE at c0;have hbw:b < wr.heap.size:=by omega
   clear hc hdk;obtain⟨r,hr⟩:∃r,p ⟨mp,mr,mw,mdv⟩=r:=⟨_,rfl⟩
   rw[hr] at hcl;have HR:=qd hr;clear hr;go_wp2_with fail;refine(hcl.o).mono ?_;rintro e w1 ⟨rfl,b1⟩;have HB1:=qd (HB.o.trans (b1.mono hsz));clear b1 hcl;cases r with
   |true=>
    go_wp2_with fail;refine bodyPost_ret (v:=.int .i64 k) (by simp[results,Tryz.results86,go_sem]) rfl ?_;exact⟨by rw[idx_at HDK.o HR.o HN.o],HB1.o⟩
   |false=>
    go_wp2_with fail;go_roundw
    case rel=>
     refine⟨k+1,by omega,by go_num,fun x hx=>?_,HB1.o⟩;rw[List.take_add_one,HDK.o,Option.toList_some] at hx;rcases List.mem_append.1 hx with hx|hx
     ·exact HN.o x hx
     ·rw [List.mem_singleton.1 hx];exact HR.o
    case measure=>simp[intOf];omega
  ·obtain rfl:k=l.length:=by omega
   have hq:decide ((l.length:Int) < (l.length:Int))=false:=by simp
   go_wp2_with fail;refine bodyPost_ret (v:=.int .i64 (-1)) (by simp[results,Tryz.results86,go_sem]) rfl ?_;refine⟨by rw[KG fun x hx=>HN.o x (by rw[List.take_length];exact hx)],HB.o⟩
theorem Rp (w:World):(sizeOf (Tryz.prog.elem 131)).run Tryz.prog w=.ok 1 w:=by kernel_rfl
theorem mv_zero:∃z:Value,(∀w,(zeroValue 133).run Tryz.prog w=.ok z w)/\z.cells.size=1/\∀u ∈ z.cells.toList,u.oneCell'=true:=⟨(.pointer none),fun w=>by kernel_rfl,rfl,by intro u hu;simp[Value.cells] at hu;subst hu;rfl⟩
theorem mv_set {w:World} {B g n c i:Nat} {l:List xz} (h:qj xz.cells 133 1 w B (.slice (some ⟨g,0,none⟩) n c) l) (hi:i < n) (mp mr mw:Nat) (mdv:Value):
  qj xz.cells 133 1 (w.setCell ⟨g,i,none⟩ (.pointer (some ⟨mp,0,none⟩))) B (.slice (some ⟨g,0,none⟩) n c) (l.set i ⟨mp,mr,mw,mdv⟩):=by
 have hn:=qj.len h;obtain⟨d,hd⟩:∃d,l[i]?=some d:=⟨_,List.getElem?_eq_getElem (by omega)⟩
 have h1:=zU h xz.len (u:=(⟨mp,mr,mw,mdv⟩:xz)) (x:=d) (a:=.pointer (some ⟨mp,0,none⟩)) (j:=0) (by decide) hd rfl;simpa using h1
theorem XS {v:Value} {l:List xz} {B:Nat} (w:World) (h:qj xz.cells 133 1 w B v l) (hl:l.length<=400) {g0:Nat} {lb:Array Value} {p:xz->Bool} (eg:∀args w,(callFunc g0 args).run Tryz.prog w=.ok (.enter g0 args) w)
  (hp:Yx Tryz.prog g0 lb (fun m:xz=>xE m.p) p (· ∈ l) w v.ownBlock):
  Calls Tryz.prog 50 #[v,.func (.func g0) #[] lb] w fun e w'=>∃v',e=.returned v'/\qj xz.cells 133 1 w' B v' (l.filter fun x=>!p x)/\Yz w w' v v':=by
 obtain⟨av,cv,rfl⟩:=qj.sli h;have hix:=mv_Index w h hl eg hp;rcases Un (p:=p) (l:=l) with⟨e1,e2⟩|⟨k,d,e1,hkl,hkd,hpd,e2⟩
 ·rw [e1] at hix
  have HX:=qd hix;have HH:=qd h;have HE:=qd e2;clear hix h hp e1 e2;go_enter Tryz.func50,Tryz.ntmps50;go_wp2_with fail;refine(HX.o).mono ?_;rintro e w1 ⟨rfl,b1⟩;have O1:=qd (qj.below HH.o b1);have G1:=qd (show Yz w w1 (.slice av l.length cv) (.slice av l.length cv) from⟨grownBy.below (grownBy.refl w _) b1,fun _ h=>.inl h⟩);clear b1 HX;go_wp2_with fail;go_ret;exact⟨_,rfl,by rw[HE.o];exact O1.o,G1.o⟩
 ·obtain ⟨g,hgv⟩:∃g,av=some ⟨g,0,none⟩:=by
   rcases qj.form h with⟨-,h2⟩|⟨g,cap,h1,-⟩
   ·rw [h2] at hkl;simp at hkl
   ·exact ⟨g,by simp only[Value.slice.injEq] at h1;exact h1.1⟩
  subst hgv;rw[e1] at hix;have hgB:=qj.lt h g rfl;have hcap:=qj.capD h;have HX:=qd hix;have HH:=qd h;have HE:=qd e2;have HP:=qd hp;clear hix h hp e1 e2;have qk:((k:Int)==-1)=false:=beq_eq_false_iff_ne.2 (by omega);go_enter Tryz.func50,Tryz.ntmps50;go_wp2_with fail;refine(HX.o).mono ?_;rintro e w1 ⟨rfl,b1⟩;have O1:=qd (qj.below HH.o b1);have G1:=qd (grownBy.below (grownBy.refl w (some g)) b1);clear b1 HX;go_wp2_with fail
  go_loopw [5,6] (fun q r wr=>∃(i j:Nat) (dk:List xz),i < j/\j<=l.length/\q=.int .i64 i/\r=.int .i64 j/\dk.length=l.length/\dk.take i=(l.take j).filter (fun x=>!p x)/\dk.drop j=l.drop j/\qj xz.cells 133 1 wr B (.slice (some ⟨g,0,none⟩) l.length cv) dk/\w.grownBy wr (some g)) (fun _ r _=>l.length - (intOf r).toNat)
  case atStart=>exact⟨k,k+1,l,by omega,by omega,rfl,by first|rfl|go_num,rfl,HE.o.symm,rfl,O1.o,G1.o⟩
  case round=>
   obtain⟨i,j,dk,hij,hj,rfl,rfl,hdl,htk,hdr,ho,hg⟩:=hrel;have hsz:=hg.size;have HTK:=qd htk;have HDR:=qd hdr;have HO:=qd ho;have HG:=qd hg;have HDL:=qd hdl;clear htk hdr ho hg hdl O1 G1;by_cases hlt:j < l.length
   ·have hdl2:qj xz.cells 133 1 wr B (.slice (some ⟨g,0,none⟩) dk.length cv) dk:=by rw[HDL.o];exact HO.o
    obtain⟨b,off,d,hqe,hb,hdk,hc⟩:=(qj.sl hdl2).atF xz.len rfl (show j < dk.length by rw[HDL.o];exact hlt);simp only[Option.some.injEq,Addr.mk.injEq,and_true] at hqe;obtain⟨rfl,rfl⟩:=hqe;have hlj:l[j]?=some d:=by rw[←WH HDR.o];exact hdk
    have HLJ:=qd hlj;have HMm:=qd (List.mem_of_getElem? hlj);obtain⟨mp,mr,mw,mdv⟩:=d;have c0:wr.cell? ⟨g,j,none⟩=some (.pointer (some ⟨mp,0,none⟩)):=by have:=hc 0 (by decide);simpa[xz.cells,xE] using this
    obtain⟨r,hr⟩:∃r,p ⟨mp,mr,mw,mdv⟩=r:=⟨_,rfl⟩
    have HR:=qd hr;have b3:Below wr.heap.size wr wr:=Below.refl _ _;have hcl:=HP.o wr ⟨mp,mr,mw,mdv⟩ HMm.o (grownBy.below HG.o b3);rw[hr] at hcl;have HCL:=qd hcl;have O3:=qd (qj.below HO.o b3);have G3:=qd (grownBy.below HG.o b3);have hsz3:=b3.size
    skip
    clear hcl hr hlj hdk hc hdl2 b3;go_wp2_with fail;refine(HCL.o).mono ?_;rintro e W4 ⟨rfl,b4⟩;have O4:=qd (qj.below O3.o b4);have G4:=qd (grownBy.below G3.o b4);have hsz4:=b4.size
    skip
    clear b4 HCL;cases r with
    |true=>
     go_wp2_with fail;go_roundw
     case rel=>
      refine⟨i,j+1,dk,by omega,by omega,rfl,by go_num,HDL.o,by rw[WB HLJ.o HR.o];exact HTK.o,?_,O4.o,G4.o⟩;have:=congrArg (List.drop 1) HDR.o;simpa[List.drop_drop] using this
     case measure=>simp[intOf];omega
    |false=>
     have hdl4:qj xz.cells 133 1 W4 B (.slice (some ⟨g,0,none⟩) dk.length cv) dk:=by rw[HDL.o];exact O4.o
     obtain⟨b',off',d',hqe,hb',hdk',hx⟩:=(qj.sl hdl4).atF xz.len rfl (show i < dk.length by rw[HDL.o];omega);simp only[Option.some.injEq,Addr.mk.injEq,and_true] at hqe;obtain⟨rfl,rfl⟩:=hqe;have x0:=hx 0 (by decide);simp[xz.cells,xE] at x0;obtain⟨csG,hcsG⟩:=qj.objD O4.o;have hgl:=qe hcsG;have zf:=fun o=>qt hcsG o;have OS:=qd (mv_set O4.o (show i < l.length by omega) mp mr mw mdv);clear hx hdk' hdl4 hcsG;go_wp2_with fail;go_roundw
     case rel=>
      refine⟨i+1,j+1,dk.set i ⟨mp,mr,mw,mdv⟩,by omega,by omega,by go_num,by go_num,by rw[List.length_set];exact HDL.o,?_,?_,OS.o,grownBy.set (G4.o)⟩
      ·rw [VL (by rw[HDL.o];omega),Rz HLJ.o HR.o,HTK.o]
      ·rw [VM (by omega)]
       have:=congrArg (List.drop 1) HDR.o;simpa[List.drop_drop] using this
     case measure=>simp[intOf];omega
   ·obtain rfl:j=l.length:=by omega
    have hq:decide ((l.length:Int) < (l.length:Int))=false:=by simp
    have HT:=qd (show dk.take i=l.filter fun x=>!p x by rw[HTK.o,List.take_length]);have OT:=qd (qj.takeF HO.o xz.len (show i<=l.length by omega));obtain⟨csG,hcsG⟩:=qj.objD HO.o;have hgl:=qe hcsG;obtain⟨z,hz1,hz2,hz3⟩:=mv_zero;have HF:=qd (fun o=>qt hcsG o);have HC:=qd (qj.cellsAt HO.o HDL.o xz.len);obtain⟨vs,hclr⟩:=Xh wr 131 133 z 1 Tryz.underlying131 hz1 hz2 hz3 g (i*1) (l.length - i) (cv - i) (by omega) (fun t ht=>HC.o (i*1+t) (by have:(l.length - i)*1=l.length*1 - i*1:=Nat.sub_mul .. ;omega)) (fun t ht=>HF.o _);have hslA:∀X:World,(Instr.slice 131 (.slice (some ⟨g,0,none⟩) l.length cv) (some (.int .i64 (i:Int))) none none).run Tryz.prog X=.ok (.slice (some ⟨g,i*1,none⟩) (l.length - i) (cv - i)) X:=fun X=>by
     rw[run_slice_l X _ _ _ _ Tryz.underlying131 _ _ (by omega) (by omega),Rp];simp only[Result.andThen,sliced,Int.toNat_natCast];congr 2;rw[if_neg (by omega)]
     first|(simp[Addr.add];done)|(simp[Addr.add];intro h;omega)
    have hslB:∀X:World,(Instr.slice 131 (.slice (some ⟨g,0,none⟩) l.length cv) none (some (.int .i64 (i:Int))) none).run Tryz.prog X=.ok (.slice (some ⟨g,0,none⟩) i cv) X:=fun X=>by
     rw[run_slice_h X _ _ _ _ Tryz.underlying131 _ _ (by omega) (by omega),Rp];simp only[Result.andThen,sliced,Int.toNat_natCast,Nat.sub_zero];congr 2
     split
     ·rfl
     ·simp [Addr.add]
    have OB:=qd (qj.behind xz.len vs (i*1) OT.o (Nat.le_refl _));have GB:=qd (grownBy.sets vs (i*1) HG.o);have hclr:=hclr;simp only[Nat.mul_one] at hclr;have OB:=qd (by have:=OB.o;simpa only[Nat.mul_one] using this);have GB:=qd (by have:=GB.o;simpa only[Nat.mul_one] using this);clear hcsG hz1 hz3;go_wp2_with fail;go_ret;refine⟨_,rfl,by rw[←HT.o];have:=OB.o;exact this,⟨GB.o,fun k hk=>.inl hk⟩⟩
end
section
attribute [local irreducible] xL
theorem c_keeps (k x:Int) (c:Ev) (p:Nat) (w:World) (hx:w.cell? ⟨p,0,none⟩=some (.int .i64 x)) (hp:p < w.heap.size):
  Calls Tryz.prog 45 #[.int .i64 k,.agg c.cells.toArray,.pointer (some ⟨p,0,none⟩)] w fun e w'=>e=.returned (.bool (c.tx !=x))/\Below w.heap.size w w':=by
 obtain⟨c1,tx,c3,c4,c5,c6,c7,c8⟩:=c;have b0:Below w.heap.size w (w.alloc (.cells #[.int .i64 c1,.int .i64 tx,.int .i64 c3,.int .i64 c4,.int .i64 c5,.int .i64 c6,.int .i64 c7,.int .i64 c8] 69)):=(Below.refl _ w).alloc (Nat.le_refl _) _;simp only[Ev.cells];go_enter Tryz.func45,Tryz.ntmps45;go_wp2;go_ret;exact⟨rfl,b0⟩
theorem c_kept (ov vv:Value) (os:List Ob) (es:List Ev) (x:Int) (p:Nat) (w:World) (ho:Sl w w.heap.size 2 ov os.length (os.flatMap Ob.cells)) (he:Sl w w.heap.size 8 vv es.length (es.flatMap Ev.cells)) (hx:w.cell? ⟨p,0,none⟩=some (.int .i64 x)) (hp:p < w.heap.size) (hol:os.length<=100000) (hel:es.length<=100000):
  Calls Tryz.prog 44 #[.agg #[ov,vv],.func (.func 45) #[] #[.pointer (some ⟨p,0,none⟩)]] w (XJ os (es.filter fun e=>e.tx !=x) w):=by
 obtain⟨ao,co,rfl,mo⟩:=ho.ex;obtain⟨ae,ce,rfl,me⟩:=he.ex;have b0:Below w.heap.size w ((w.alloc (.cells #[.slice ao os.length co,.slice ae es.length ce] 25)).alloc (.cells #[.slice none 0 0,.slice none 0 0] 25)):=((Below.refl _ w).alloc (Nat.le_refl _) _).alloc (by simp) _;have r0:=qy (o:=.cells #[.slice none 0 0,.slice none 0 0] 25) (qs w (.cells #[.slice ao os.length co,.slice ae es.length ce] 25));have r1:=qX (w:=w.alloc (.cells #[.slice ao os.length co,.slice ae es.length ce] 25)) (o:=.cells #[.slice none 0 0,.slice none 0 0] 25) (g:=w.heap.size+1) (by simp);have z0:((w.alloc (.cells #[.slice ao os.length co,.slice ae es.length ce] 25)).alloc (.cells #[.slice none 0 0,.slice none 0 0] 25)).heap.size=w.heap.size+2:=by simp
 have hcl:=qd (Ve _ _ os [] _ ((ho.below b0).more (by omega)) (qj.sl (qj.nil (f:=Ev.cells) (e:=69) (sz:=8) _ 0)) hol (by simp));have HX:=qd hx;have HE:=qd he;have HEL:=qd hel;clear ho he mo me hx hel;go_enter Tryz.func44,Tryz.ntmps44;go_wp2_with fail;have B0:=qd b0;have R0:=qd r0;have R1:=qd r1;clear b0 r0 r1;generalize (w.alloc (.cells #[.slice ao os.length co,.slice ae es.length ce] 25)).alloc (.cells #[.slice none 0 0,.slice none 0 0] 25)=W at *;have z1:w.heap.size+2<=W.heap.size:=by omega
 clear z0;refine(hcl.o).mono ?_;rintro e V ⟨vo,ve,rfl,oo,oe,bV⟩;obtain⟨a2,c2,rfl⟩:=qj.sli oo;obtain⟨a4,c4,rfl⟩:=qj.sli oe;simp only[List.length_nil] at oe ⊢;have zV:=bV.size;have y:=qa (qh R0.o bV (qe R0.o)) 1;simp at y;have yl:=qe (qh R0.o bV (qe R0.o));have bA:Below W.heap.size W (V.alloc (.cells #[.slice a2 os.length c2,.slice a4 0 c4] 25)):=bV.alloc zV _;have rA:=qs V (.cells #[.slice a2 os.length c2,.slice a4 0 c4] 25);have OA:=qd (qj.alloc oo (.cells #[.slice a2 os.length c2,.slice a4 0 c4] 25));have EA:=qd (qj.alloc oe (.cells #[.slice a2 os.length c2,.slice a4 0 c4] 25));have R0A:=qd (qh R0.o bA (qe R0.o));have R1A:=qd (qh R1.o bA (qe R1.o));have BA:=qd bA;have RA:=qd rA;have hzA:=qe rA;clear oo oe bV bA rA hcl;go_wp2_with fail;generalize V.alloc (.cells #[.slice a2 os.length c2,.slice a4 0 c4] 25)=X at *;clear y yl
 go_loopw [15] (fun q wr=>∃(k:Nat) (u:Value),k<=es.length/\q=.int .i64 k/\wr.heap[V.heap.size]?=some (.cells #[.slice a2 os.length c2,u] 25 (0,0))/\qj Ob.cells 62 2 wr W.heap.size (.slice a2 os.length c2) os/\qj Ev.cells 69 8 wr W.heap.size u ((es.take k).filter fun e=>e.tx !=x)/\Below W.heap.size W wr/\V.heap.size < wr.heap.size) (fun q _=>es.length - (intOf q).toNat)
 case atStart=>exact⟨0,_,by omega,by go_num,RA.o,OA.o,by simpa using EA.o,BA.o,hzA⟩
 case round=>
  obtain⟨k,u,hk,rfl,hR,hO,hL,hB,hz⟩:=hrel;obtain⟨L,hLd⟩:∃L,((es.take k).filter fun e=>e.tx !=x)=L:=⟨_,rfl⟩
  rw[hLd] at hL;obtain⟨a5,c5,rfl⟩:=qj.sli hL;have HLD:=qd hLd;have hLl:L.length<=100000:=by
   rw[←hLd];exact Nat.le_trans (List.length_filter_le _ _) (Nat.le_trans (by rw[List.length_take];omega) HEL.o)
  have HB:=qd hB;have HR:=qd hR;have HO:=qd hO;have HL:=qd hL;have hwz:=hB.size;have y:=qa (qh R0.o hB (qe R0.o)) 1;simp at y;have yl:=qe (qh R0.o hB (qe R0.o));have HS:=qd (((HE.o.below B0.o).more B0.o.size).below hB);clear hLd hR hO hL hB RA OA EA BA;by_cases hlt:k < es.length
  ·obtain ⟨b,off,c,rfl,hb,hc,hcc⟩:=HS.o.atF Ev.len rfl hlt
   have hkb:k+1<=100001:=by have:=HEL.o;omega
   have hbw:b < wr.heap.size:=by omega
   have HC:=qd hc;have KC:=qd (c_keeps k x c p (wr.alloc (.cells c.cells.toArray 69)) (qp ((B0.o.trans (HB.o.mono B0.o.size)).alloc (by have:=B0.o.size;omega) _) hp HX.o) (by have:=B0.o.size;simp;omega));have ba:Below wr.heap.size wr (wr.alloc (.cells c.cells.toArray 69)):=(Below.refl _ wr).alloc (Nat.le_refl _) _;have rb:=qs wr (.cells c.cells.toArray 69);obtain⟨b0',b1',b2',b3',b4',b5',b6',b7'⟩:=c;have d0:wr.cell? ⟨b,off+k*8,none⟩=some (.int .i64 b0'):=hcc 0 (by decide);have d1:wr.cell? ⟨b,off+k*8+1,none⟩=some (.int .i64 b1'):=hcc 1 (by decide);have d2:wr.cell? ⟨b,off+k*8+2,none⟩=some (.int .i64 b2'):=hcc 2 (by decide);have d3:wr.cell? ⟨b,off+k*8+3,none⟩=some (.int .i64 b3'):=hcc 3 (by decide);have d4:wr.cell? ⟨b,off+k*8+4,none⟩=some (.int .i64 b4'):=hcc 4 (by decide);have d5:wr.cell? ⟨b,off+k*8+5,none⟩=some (.int .i64 b5'):=hcc 5 (by decide);have d6:wr.cell? ⟨b,off+k*8+6,none⟩=some (.int .i64 b6'):=hcc 6 (by decide);have d7:wr.cell? ⟨b,off+k*8+7,none⟩=some (.int .i64 b7'):=hcc 7 (by decide);simp only[Ev.cells] at KC ba rb;have R5:=qd (qh HR.o ba hz);have O5:=qd (qj.below HO.o ba);have L5:=qd (qj.below HL.o ba);have B5:=qd (HB.o.trans (ba.mono hwz));have rl:=qe rb;have RB:=qd rb;clear hc hcc ba rb;obtain⟨r,hr⟩:∃r,(b1' !=x)=r:=⟨_,rfl⟩
   have HRr:=qd hr;rw[hr] at KC;clear hr;go_wp2_with fail;refine KC.o.mono ?_;rintro e w5 ⟨rfl,b5⟩;have z5:=b5.size;have B6:=qd (B5.o.trans (b5.mono (by have:=B5.o.size;omega)));have R6:=qd (qh R5.o b5 (qe R5.o));have O6:=qd (qj.below O5.o b5);have L6:=qd (qj.below L5.o b5);have rb6:=qa (qh RB.o b5 rl);have e0:=rb6 0;have e1:=rb6 1;have e2:=rb6 2;have e3:=rb6 3;have e4:=rb6 4;have e5:=rb6 5;have e6:=rb6 6;have e7:=rb6 7;simp at e0 e1 e2 e3 e4 e5 e6 e7;have hzb:wr.heap.size < w5.heap.size:=by omega
   have hz5:V.heap.size < w5.heap.size:=by omega
   have g1:=qa R6.o 1;simp at g1;have HZ:=qd B6.o.size;clear b5 KC d0 d1 d2 d3 d4 d5 d6 d7 rb6;cases r with
   |false=>
    go_wp2_with fail;go_roundw
    case rel=>
     refine⟨k+1,_,by omega,by go_num,R6.o,O6.o,?_,B6.o,hz5⟩;rw[zk HC.o,List.filter_append,HLD.o,List.filter_cons_of_neg (by simpa using HRr.o)];simpa using L6.o
    case measure=>simp[intOf];omega
   |true=>
    go_wp2_with (at_builtin;refine qM rfl _ _ _ rfl _ 64 Tryz.underlying23 ud rfl L6.o ⟨b0',b1',b2',b3',b4',b5',b6',b7'⟩ HZ.o (by rfl) (by rfl) (by first|rfl|simp) rfl (ug _) (by first|omega|(simp only[List.length_append,List.length_cons,List.length_nil,List.length_replicate];omega)) (by first|omega|(simp only[List.length_append,List.length_cons,List.length_nil,List.length_replicate];omega)) ?_;refine qH.halt ?_)
    refine qH.go ?_;intro g7 c7 w7 o7 G7;have B7:=qd (B6.o.trans (G7.below HZ.o fun q h=>(qj.lt L6.o q h).1));have r7:=qS R6.o G7 (qj.neT L6.o R6.o (by decide));have o7b:=qj.grwT O6.o L6.o (by decide) G7;have yf:=qt r7 1;have g1':=qa r7 1;simp at g1';have l7:=qe r7;have R8:=qd (qn r7 1 (.slice (some ⟨g7,0,none⟩) (L.length+1) c7));have O8:=qd (qj.other (j:=1) o7b (qj.neT o7b r7 (by decide)) (.slice (some ⟨g7,0,none⟩) (L.length+1) c7));have L8:=qd (qj.other (j:=1) o7 (qj.neT o7 r7 (by decide)) (.slice (some ⟨g7,0,none⟩) (L.length+1) c7));have B8:=qd (B7.o.setCell (p:=⟨V.heap.size,1,none⟩) zV (.slice (some ⟨g7,0,none⟩) (L.length+1) c7));clear r7 o7b o7 G7 g1 e0 e1 e2 e3 e4 e5 e6 e7;go_wp2_with fail;go_roundw
    case rel=>
     refine⟨k+1,_,by omega,by go_num,by simpa using R8.o,O8.o,?_,B8.o,by simpa using l7⟩;rw[zk HC.o,List.filter_append,HLD.o,List.filter_cons_of_pos (by simpa using HRr.o),List.filter_nil];exact L8.o
    case measure=>simp[intOf];omega
  ·obtain rfl:k=es.length:=by omega
   rw[List.take_length] at HLD;have R1r:=qh R1.o HB.o (qe R1.o);have y0:=qa HR.o 0;have y1:=qa HR.o 1;simp at y0 y1;have x0:=qa R1r 0;have x1:=qa R1r 1;simp at x0 x1;have xf:=fun j=>qt R1r j;have xl:=qe R1r;have RR:=qd R1r;clear R1r y yl;have hq:decide ((es.length:Int) < (es.length:Int))=false:=by simp
   go_wp2_with fail;have r4:=Nq (u1:=.slice a2 os.length c2) (u2:=.slice a5 L.length c5) RR.o;have c0:=qa r4 0;have c1:=qa r4 1;simp only[List.getElem?_toArray,List.getElem?_cons_zero,List.getElem?_cons_succ] at c0 c1;refine bodyPost_ret (v:=.agg #[.slice a2 os.length c2,.slice a5 L.length c5]) (by simp[results,Tryz.results44,go_sem,c0,c1]) rfl ⟨_,_,rfl,?_,?_,?_⟩
   ·exact qj.base (qj.box2 HO.o RR.o (by decide)) (by omega)
   ·rw [HLD.o]
    exact qj.base (qj.box2 HL.o RR.o (by decide)) (by omega)
   ·exact ((B0.o.trans (HB.o.mono (by omega))).setCell (p:=⟨w.heap.size+1,0,none⟩) (by show w.heap.size<=w.heap.size+1;omega) _).setCell (p:=⟨w.heap.size+1,1,none⟩) (by show w.heap.size<=w.heap.size+1;omega) _
theorem NO (ov vv:Value) (os:List Ob) (es:List Ev) (x:Int) (w:World) (ho:Sl w w.heap.size 2 ov os.length (os.flatMap Ob.cells)) (he:Sl w w.heap.size 8 vv es.length (es.flatMap Ev.cells)) (hol:os.length<=100000) (hel:es.length<=100000):
  Calls Tryz.prog 17 #[.agg #[ov,vv],.int .i64 x] w (XJ os (es.filter fun e=>e.tx !=x) w):=by
 obtain⟨ao,co,rfl,mo⟩:=ho.ex;obtain⟨ae,ce,rfl,me⟩:=he.ex;have b0:Below w.heap.size w (((w.alloc (.cells #[.slice ao os.length co,.slice ae es.length ce] 25)).alloc (.cells #[.int .i64 x] 3)).alloc (.cells #[.slice none 0 0,.slice none 0 0] 25)):=(((Below.refl _ w).alloc (Nat.le_refl _) _).alloc (by simp) _).alloc (by simp;omega) _;have r1:=qy (o:=.cells #[.slice none 0 0,.slice none 0 0] 25) (qs (w.alloc (.cells #[.slice ao os.length co,.slice ae es.length ce] 25)) (.cells #[.int .i64 x] 3));have r2:=qs ((w.alloc (.cells #[.slice ao os.length co,.slice ae es.length ce] 25)).alloc (.cells #[.int .i64 x] 3)) (.cells #[.slice none 0 0,.slice none 0 0] 25);simp only[World.size_alloc] at r1 r2;have z0:(((w.alloc (.cells #[.slice ao os.length co,.slice ae es.length ce] 25)).alloc (.cells #[.int .i64 x] 3)).alloc (.cells #[.slice none 0 0,.slice none 0 0] 25)).heap.size=w.heap.size+3:=by simp
 have yx:=qa r1 0;simp at yx;have KC:=qd (c_kept _ _ os es x (w.heap.size+1) _ ((ho.below b0).more b0.size) ((he.below b0).more b0.size) (by simpa using yx) (by rw[z0];omega) hol hel);have B0:=qd b0;have R2:=qd r2;clear ho he mo me b0 r1 r2 yx;go_enter Tryz.func17,Tryz.ntmps17;go_wp2_with fail;generalize ((w.alloc (.cells #[.slice ao os.length co,.slice ae es.length ce] 25)).alloc (.cells #[.int .i64 x] 3)).alloc (.cells #[.slice none 0 0,.slice none 0 0] 25)=W at *;refine KC.o.mono ?_;rintro e V ⟨vo,ve,rfl,oo,oe,bV⟩;obtain⟨L,hL⟩:∃L,(es.filter fun e=>e.tx !=x)=L:=⟨_,rfl⟩
 have HL:=qd hL;rw[hL] at oe;obtain⟨a2,c2,rfl⟩:=qj.sli oo;obtain⟨a4,c4,rfl⟩:=qj.sli oe;have zV:=bV.size;have R2:=qd (qh R2.o bV (qe R2.o));have y0:=qa R2.o 0;have y1:=qa R2.o 1;simp at y0 y1;have yf:∀j,V.frozen? ⟨w.heap.size+2,j,none⟩=false:=fun j=>qt R2.o j;have ly:=qe R2.o;have OA:=qd oo;have OB:=qd oe;have BF:=qd bV;clear oo oe bV hL KC;go_wp2;have r4:=Nq (u1:=.slice a2 os.length c2) (u2:=.slice a4 L.length c4) R2.o;have c0:=qa r4 0;have c1:=qa r4 1;simp only[List.getElem?_toArray,List.getElem?_cons_zero,List.getElem?_cons_succ] at c0 c1;refine bodyPost_ret (v:=.agg #[.slice a2 os.length c2,.slice a4 L.length c4]) (by simp[results,Tryz.results17,go_sem,c0,c1]) rfl ⟨_,_,rfl,?_,?_,?_⟩
 ·exact qj.base (qj.box2 OA.o R2.o (by decide)) (by omega)
 ·rw [HL.o]
  exact qj.base (qj.box2 OB.o R2.o (by decide)) (by omega)
 ·exact ((B0.o.trans (BF.o.mono (by omega))).setCell (p:=⟨w.heap.size+2,0,none⟩) (by show w.heap.size<=w.heap.size+2;omega) _).setCell (p:=⟨w.heap.size+2,1,none⟩) (by show w.heap.size<=w.heap.size+2;omega) _
end
section
attribute [local irreducible] xL
def Ws (c:Int):Int:=(c+2000000000) / 4000000000+1
def Wh (c:Int):Int:=c - 4000000000*((c+2000000000) / 4000000000)
def YI (x:Int):Prop:=-1000000000<=x/\x<=1000000000
def SC (x:Int):List Value:=[.int .i64 (Ws x),.int .i64 (Wh x),.slice none 0 0,.slice none 0 0]
theorem SC_sm {x:Int} (h:YI x):SC x=[.int .i64 1,.int .i64 x,.slice none 0 0,.slice none 0 0]:=by
 obtain⟨h1,h2⟩:=h;have e:(x+2000000000) / 4000000000=0:=by omega
 simp[SC,Ws,Wh,e]
theorem kd_enc {k n:Int} (h:YI n):Ws (4000000000*(k - 1)+n)=k/\Wh (4000000000*(k - 1)+n)=n:=by
 obtain⟨h1,h2⟩:=h;have e:(4000000000*(k - 1)+n+2000000000) / 4000000000=k - 1:=by omega
 unfold Ws Wh;rw[e];omega
attribute [local irreducible] Ws Wh
theorem Jf (x:Int):(SC x).length=4:=rfl
abbrev WU (x:Int):Value:=.agg #[.int .i64 1,.int .i64 x,.slice none 0 0,.slice none 0 0]
theorem Ya:(Tryz.prog.info? 119).map (fun i=>(i.zero,i.size,i.bytes))=some (some (.agg #[.int .i64 0,.int .i64 0,.slice none 0 0,.slice none 0 0]),4,64):=by kernel_rfl
theorem UL (x:Int):∀u ∈ SC x,u.oneCell'=true:=by intro u hu;simp[SC] at hu;rcases hu with rfl|rfl|rfl <;> rfl
abbrev jO:=qj SC 119 4
abbrev SlS (w:World) (B:Nat) (v:Value) (σ:List Int):Prop:=Sl w B 4 v σ.length (σ.flatMap SC)
abbrev Vu (v:Value):Value:=.agg #[v]
theorem qj.objT {α:Type} {f:α->List Value} {e:TypeId} {sz:Nat} {w:World} {B g n c:Nat} {l:List α} (h:qj f e sz w B (.slice (some ⟨g,0,none⟩) n c) l):∃cs,w.heap[g]?=some (.cells cs e (0,0)):=by
 obtain⟨-,h2⟩:=h;rcases h2 with⟨h2,-⟩|⟨g',cap,cur,hv,-,hh,-⟩
 ·cases h2
 ·simp only[Value.slice.injEq,Option.some.injEq,Addr.mk.injEq,and_true] at hv
  obtain⟨rfl,-,-⟩:=hv;exact⟨cur,hh⟩
theorem Ur:∀(l:List Int) (k:Nat) (x:Int),YI x->k < l.length->(((((l.flatMap SC).set (k*4) (.int .i64 1)).set (k*4+1) (.int .i64 x)).set (k*4+2) (.slice none 0 0)).set (k*4+3) (.slice none 0 0))=(l.set k x).flatMap SC
 |[],k,x,hx,h=>by simp at h
 |y::l,0,x,hx,h=>by
  simp only[List.set_cons_zero,List.flatMap_cons,SC_sm hx];simp[SC]
 |y::l,k+1,x,hx,h=>by
  have ih:=Ur l k x hx (by simpa using h);rw[show (k+1)*4=k*4+1+1+1+1 by omega];simp only[SC,List.flatMap_cons,List.cons_append,List.nil_append,List.set_cons_succ,List.cons.injEq,true_and];exact ih
theorem MV {w:World} {B g n c:Nat} {l:List Int} (h:jO w B (.slice (some ⟨g,0,none⟩) n c) l) {k:Nat} (hk:k < l.length) (x:Int) (hx:YI x):
  jO ((((w.setCell ⟨g,k*4,none⟩ (.int .i64 1)).setCell ⟨g,k*4+1,none⟩ (.int .i64 x)).setCell ⟨g,k*4+2,none⟩ (.slice none 0 0)).setCell ⟨g,k*4+3,none⟩ (.slice none 0 0)) B (.slice (some ⟨g,0,none⟩) n c) (l.set k x):=by
 have hn:=qj.len h;subst hn;have:=zL (zL (zL (zL h (k*4) (.int .i64 1)) (k*4+1) (.int .i64 x)) (k*4+2) (.slice none 0 0)) (k*4+3) (.slice none 0 0);rw[Ur l k x hx hk] at this;unfold jO qj;rw[List.length_set];exact this
theorem l_All (v:Value) (σ:List Int) (w:World) (h:SlS w w.heap.size v σ) (hl:σ.length<=1000):
  Calls Tryz.prog 83 #[.agg #[v]] w fun e w'=>∃v',e=.returned v'/\jO w' w.heap.size v' σ/\Below w.heap.size w w':=by
 obtain⟨a,c,rfl,hm⟩:=h.ex;have b0:Below w.heap.size w (w.alloc (.cells #[.slice a σ.length c] 55)):=(Below.refl _ w).alloc (Nat.le_refl _) _;have r0:=qs w (.cells #[.slice a σ.length c] 55);have h1:=h.below b0;have hz0:w.heap.size < (w.alloc (.cells #[.slice a σ.length c] 55)).heap.size:=by simp
 go_enter Tryz.func83,Tryz.ntmps83;go_wp2;generalize w.alloc (.cells #[.slice a σ.length c] 55)=W at *;have y0:=qa r0 0;simp at y0;have H:=qd h1;have B0:=qd b0;clear h h1 b0 r0;refine qD (W.heap.size) [0,1,0,3,0,1,2,0] (.fin [0,1,2,4,5,3,6,7]) (by kernel_rfl) ?_;simp only[xC,qJ,qu,sD,sE,sF,sG]
 repeat first|(refine qq fun K hK=>?_;go_simp;refine hK _ _ ?_;clear hK K)|(apply qx;(intro w2 hw2;have hk1:=hw2.cell;have hk3:=hw2.1;clear hw2;go_simp;with_reducible rfl);simp only[Act.put,sA,sB,sC])
 refine qC (fun K hK=>?_);refine jB (f:=SC) (e:=119) (sz:=4) (B:=W.heap.size) _ _ _ rfl _ 64 Tryz.underlying53 Ya rfl rfl (by first|omega|(simp <;> omega)) (by first|omega|(simp <;> omega)) (by first|omega|(simp <;> omega)) ?_;intro w1 o1 b1 z1;refine hK _ _ (RN.KeepsN.of_below b1) ?_;have b1:Below W.heap.size W w1:=(Below.refl _ W).drew.trans b1;have z1:W.heap.size+1<=w1.heap.size:=z1;clear hK K;refine qF (fun K hK=>?_);refine jw _ _ _ rfl _ 64 Tryz.underlying53 Ya rfl o1 σ rfl (H.o.below (b1.mono (Nat.le_of_lt hz0))) (by first|omega|(simp <;> omega)) rfl rfl Jf UL (by first|omega|(simp <;> omega)) (by first|omega|(simp <;> omega)) ?_;intro v' w2 o2 g2;refine hK _ _ ?_;clear hK K;have b2:=b1.trans (g2.below b1.size fun k h=>(o1.lt k h).1);have O2:=qd ((show jO w2 W.heap.size v' σ from o2).base (Nat.le_of_lt hz0));have B2:=qd (B0.o.trans (b2.mono (Nat.le_of_lt hz0)));clear o1 b1 g2 o2 b2
 repeat first|(refine qq fun K hK=>?_;go_simp;refine hK _ _ ?_;clear hK K)|refine qm ?_
 go_wp2;go_ret;exact⟨v',rfl,O2.o,B2.o⟩
theorem l_Of (v:Value) (σ:List Int) (w:World) (h:SlS w w.heap.size v σ) (hl:σ.length<=1000):
  Calls Tryz.prog 92 #[v] w fun e w'=>∃v',e=.returned (.agg #[v'])/\jO w' w.heap.size v' σ/\Below w.heap.size w w':=by
 obtain⟨a,c,rfl,hm⟩:=h.ex;have b0:Below w.heap.size w (w.alloc (.cells #[.slice none 0 0] 55)):=(Below.refl _ w).alloc (Nat.le_refl _) _;have r0:=qs w (.cells #[.slice none 0 0] 55);have h1:=h.below b0;have hz0:w.heap.size < (w.alloc (.cells #[.slice none 0 0] 55)).heap.size:=by simp
 go_enter Tryz.func92,Tryz.ntmps92;go_wp2_with (at_make;refine uU (f:=SC) (e:=119) (sz:=4) (B:=w.heap.size+1) rfl _ _ _ rfl _ 64 Tryz.underlying53 Ya rfl rfl (by first|omega|(simp <;> omega)) (by first|omega|(simp <;> omega)) (by first|omega|(simp <;> omega)) ?_;refine qH.halt ?_)
 refine qH.go ?_;generalize w.alloc (.cells #[.slice none 0 0] 55)=W at *;intro w1 o1 b1 z1;have r1:=qh r0 b1 (by omega);have src:=h1.below (b1.mono (by omega));have hzW:w.heap.size+1<=W.heap.size:=by omega
 go_wp2_with (at_builtin;refine yN rfl _ _ _ rfl _ 64 Tryz.underlying53 Ya rfl o1 σ rfl src (by first|omega|(simp <;> omega)) rfl rfl Jf UL (by first|omega|(simp <;> omega)) (by first|omega|(simp <;> omega)) ?_;refine qH.halt ?_)
 refine qH.go ?_;intro v' w2 o2 g2;have b2:=b1.trans (g2.below (by omega) fun k h=>(o1.lt k h).1);have r2:=qh r0 b2 (by omega);have o2:jO w2 (w.heap.size+1) v' σ:=o2;obtain⟨a',c',rfl,-⟩:=(qj.sl o2).ex;have y0:=qa r2 0;simp at y0;have yf:=qt r2 0;have l2:=qe r2;have o3:=qj.set (j:=0) (u:=.slice a' σ.length c') o2 (show w.heap.size < w.heap.size+1 by omega);have r3:=qn r2 0 (.slice a' σ.length c');have b3:Below w.heap.size w (w2.setCell ⟨w.heap.size,0,none⟩ (.slice a' σ.length c')):=(b0.trans (b2.mono (by omega))).setCell (p:=⟨w.heap.size,0,none⟩) (Nat.le_refl _) _;have R3:=qd r3;clear r0 r1 r2 r3 o1 o2 b1 b2 g2 h h1 src z1;go_wp2;have c0:=qa R3.o 0;simp at c0;refine bodyPost_ret (v:=.agg #[.slice a' σ.length c']) (by simp[results,Tryz.results92,go_sem,c0]) rfl ?_;exact⟨_,rfl,o3.base (by omega),b3⟩
theorem l_At (v:Value) (σ:List Int) (i:Nat) (x:Int) (w:World) (h:SlS w w.heap.size v σ) (hx:σ[i]?=some x) (hs:YI x):
  Calls Tryz.prog 87 #[.agg #[v],.int .i64 i] w fun e w'=>e=.returned (.tuple #[WU x,.bool true])/\Below w.heap.size w w':=by
 obtain⟨a,c,rfl,hm⟩:=h.ex;have hil:=(List.getElem?_eq_some_iff.1 hx).1;obtain⟨b,off,y,rfl,hb,hy,hc⟩:=h.atF Jf rfl hil;rw[hx] at hy;obtain rfl:=Option.some.inj hy;rw[SC_sm hs] at hc;have c0:=hc 0 (by decide);have c1:=hc 1 (by decide);have c2:=hc 2 (by decide);have c3:=hc 3 (by decide);simp at c0 c1 c2 c3;have q1:decide ((i:Int) < 0)=false:=by simp
 have q2:decide ((σ.length:Int)<=(i:Int))=false:=by simp;omega
 clear hc h hx hy;go_enter Tryz.func87,Tryz.ntmps87;go_wp2;refine bodyPost_ret (v:=.tuple #[WU x,.bool true]) (by simp[results,Tryz.results87,go_sem]) rfl ?_;exact⟨rfl,((Below.refl _ w).alloc (Nat.le_refl _) _).alloc (by simp) _⟩
theorem l_With (v:Value) (σ:List Int) (i:Nat) (x:Int) (w:World) (h:SlS w w.heap.size v σ) (hl:σ.length<=1000) (hi:i < σ.length) (hs:YI x):
  Calls Tryz.prog 57 #[.agg #[v],.int .i64 i,WU x] w fun e w'=>∃v',e=.returned (.agg #[v'])/\jO w' w.heap.size v' (σ.set i x)/\Below w.heap.size w w':=by
 obtain⟨a,c,rfl,hm⟩:=h.ex;have q1:decide ((i:Int) < 0)=false:=by simp
 have q2:decide ((σ.length:Int)<=(i:Int))=false:=by simp;omega
 have b0:Below w.heap.size w (((w.alloc (.cells #[.slice a σ.length c] 55)).alloc (.cells #[.int .i64 1,.int .i64 x,.slice none 0 0,.slice none 0 0] 119)).alloc (.cells #[.slice none 0 0] 55)):=(((Below.refl _ w).alloc (Nat.le_refl _) _).alloc (by simp) _).alloc (by simp;omega) _;go_enter Tryz.func57,Tryz.ntmps57;go_wp2_with fail;have r0:=qs ((w.alloc (.cells #[.slice a σ.length c] 55)).alloc (.cells #[.int .i64 1,.int .i64 x,.slice none 0 0,.slice none 0 0] 119)) (.cells #[.slice none 0 0] 55);have r1:=qy (o:=.cells #[.slice none 0 0] 55) (qs (w.alloc (.cells #[.slice a σ.length c] 55)) (.cells #[.int .i64 1,.int .i64 x,.slice none 0 0,.slice none 0 0] 119));simp only[World.size_alloc] at r0 r1;have hz:(((w.alloc (.cells #[.slice a σ.length c] 55)).alloc (.cells #[.int .i64 1,.int .i64 x,.slice none 0 0,.slice none 0 0] 119)).alloc (.cells #[.slice none 0 0] 55)).heap.size=w.heap.size+3:=by simp
 generalize ((w.alloc (.cells #[.slice a σ.length c] 55)).alloc (.cells #[.int .i64 1,.int .i64 x,.slice none 0 0,.slice none 0 0] 119)).alloc (.cells #[.slice none 0 0] 55)=W at *;refine(l_Of _ σ W ((h.below b0).more b0.size) hl).mono ?_;rintro e W1 ⟨v',rfl,o1,b1⟩;obtain⟨g,cap,hv,hg,hgl⟩:=(qj.form o1).resolve_left (fun h=>by rw[h.2] at hi;simp at hi);subst hv;have r0:=qh r0 b1 (by omega);have r1:=qh r1 b1 (by omega);have y:=qa r1;have y0:=y 0;have y1:=y 1;have y2:=y 2;have y3:=y 3;simp at y0 y1 y2 y3;have yr:=qa r0 0;simp at yr;have yf:=qt r0 0;have l0:=qe r0;have l1:=qe r1;have hzz:W.heap.size<=W1.heap.size:=b1.size;obtain⟨cs,hgc⟩:=qj.objT o1;have gf:∀j,W1.frozen? ⟨g,j,none⟩=false:=fun j=>qt hgc j;obtain⟨bq,oq,z,hq,-,-,hz4⟩:=(qj.sl o1).atF Jf rfl hi;simp only[Option.some.injEq,Addr.mk.injEq,and_true] at hq;obtain⟨rfl,rfl⟩:=hq;have g0:=hz4 0 (by decide);have g1:=hz4 1 (by decide);have g2:=hz4 2 (by decide);have g3:=hz4 3 (by decide);simp[SC] at g0 g1 g2 g3;have gl:=qe hgc;clear hgc hz4;have oF:=qj.set (j:=0) (u:=.slice (some ⟨g,0,none⟩) σ.length cap) (MV o1 hi x hs) (show w.heap.size+2 < W.heap.size by omega);have bF:=((((b1.setCell (p:=⟨g,i*4,none⟩) hg (.int .i64 1)).setCell (p:=⟨g,i*4+1,none⟩) hg (.int .i64 x)).setCell (p:=⟨g,i*4+2,none⟩) hg (.slice none 0 0)).setCell (p:=⟨g,i*4+3,none⟩) hg (.slice none 0 0))
 have rF:=qn (qI (j:=i*4+3) (v:=.slice none 0 0) (qI (j:=i*4+2) (v:=.slice none 0 0) (qI (j:=i*4+1) (v:=.int .i64 x) (qI (j:=i*4) (v:=.int .i64 1) r0 (show g≠w.heap.size+2 by omega)) (show g≠w.heap.size+2 by omega)) (show g≠w.heap.size+2 by omega)) (show g≠w.heap.size+2 by omega)) 0 (.slice (some ⟨g,0,none⟩) σ.length cap);have BF:=qd ((b0.trans (bF.mono (by omega))).setCell (p:=⟨w.heap.size+2,0,none⟩) (show w.heap.size<=w.heap.size+2 by omega) (.slice (some ⟨g,0,none⟩) σ.length cap));have OF:=qd oF;have RF:=qd rF;clear y r0 r1 b0 b1 h o1 oF bF rF;go_wp2_with fail;have c0:=qa (qy (o:=.cells #[.slice (some ⟨g,0,none⟩) σ.length cap] 55) RF.o) 0;simp at c0;refine bodyPost_ret (v:=.agg #[.slice (some ⟨g,0,none⟩) σ.length cap]) (by simp[results,Tryz.results57,go_sem,c0]) rfl ?_;exact⟨_,rfl,by have:=(qj.alloc OF.o (.cells #[.slice (some ⟨g,0,none⟩) σ.length cap] 55)).base (show w.heap.size<=W.heap.size by omega);simpa using this,BF.o.alloc BF.o.size _⟩
end
section
attribute [local irreducible] xL
abbrev Ry (f:FuncId):Value:=.func (.func f) #[] #[]
theorem jc {X:World} {bm:Nat} {M:Int->Option Value} (h:qL X bm M) (k:Int) (v:Value):∃Y,Sem.run Tryz.prog (Instr.mapUpdate 191 (.map (some bm)) (.int .i64 k) v) X=.ok () Y/\qL Y bm (UN M k (some v))/\X.mapTurned Y bm:=
 h.store Tryz.underlying3 Tryz.underlying191 k v
def DeedsRet (w:World) (e:Ending) (w':World):Prop:=∃bm M,e=.returned (.map (some bm))/\qL w' bm M/\M 1=some (Ry 133)/\M 2=some (Ry 134)/\Below w.heap.size w w'/\w.heap.size<=bm
theorem VJ (w:World):Calls Tryz.prog 91 #[] w (DeedsRet w):=by
 have hmk:∀X:World,Sem.run Tryz.prog (Instr.makeMap 191 none) X=.ok (.map (some X.heap.size)) (X.alloc (.map #[] 0)):=fun X=>by kernel_rfl
 have b0:Below w.heap.size w (w.alloc (.map #[] 0)):=(Below.refl _ w).alloc (Nat.le_refl _) _;have h0:qL (w.alloc (.map #[] 0)) w.heap.size (fun _=>none):=qL.made (qs w _);obtain⟨X1,r1,h1,t1⟩:=jc h0 1 (Ry 133);obtain⟨X2,r2,h2,t2⟩:=jc h1 4 (Ry 133);obtain⟨X3,r3,h3,t3⟩:=jc h2 2 (Ry 134);obtain⟨X4,r4,h4,t4⟩:=jc h3 3 (Ry 135);obtain⟨X5,r5,h5,t5⟩:=jc h4 5 (Ry 136);obtain⟨X6,r6,h6,t6⟩:=jc h5 6 (Ry 138);obtain⟨X7,r7,h7,t7⟩:=jc h6 7 (Ry 139);obtain⟨X8,r8,h8,t8⟩:=jc h7 8 (Ry 143);obtain⟨X9,r9,h9,t9⟩:=jc h8 9 (Ry 145);have tr:∀{X Y:World},X.mapTurned Y w.heap.size->Below w.heap.size w X->Below w.heap.size w Y:=fun ht hb=>hb.trans (Below.turned ht (Nat.le_refl _));have b9:=tr t9 (tr t8 (tr t7 (tr t6 (tr t5 (tr t4 (tr t3 (tr t2 (tr t1 b0))))))));have H9:=qd h9;have B9:=qd b9;clear h0 h1 h2 h3 h4 h5 h6 h7 h8 h9 b0 b9 t1 t2 t3 t4 t5 t6 t7 t8 t9 tr;go_enter Tryz.func91,Tryz.ntmps91;go_wp2_with fail;go_ret;refine⟨_,_,rfl,H9.o,?_,?_,B9.o,Nat.le_refl _⟩
 ·rw [qV (by decide),qV (by decide),qV (by decide),qV (by decide),qV (by decide),qV (by decide),qV (by decide),qV (by decide),xD]
 ·rw [qV (by decide),qV (by decide),qV (by decide),qV (by decide),qV (by decide),qV (by decide),xD]
theorem keeps4 {N g:Nat} (W:World) (hg:N<=g) (a b c d:Value):RN.KeepsN N W.drew ((((W.setCell ⟨g,0,none⟩ a).setCell ⟨g,1,none⟩ b).setCell ⟨g,2,none⟩ c).setCell ⟨g,3,none⟩ d).drew:=
 (((RN.KeepsN.set W ⟨g,0,none⟩ a hg).trans (RN.KeepsN.set _ ⟨g,1,none⟩ b hg)).trans (RN.KeepsN.set _ ⟨g,2,none⟩ c hg)).trans (RN.KeepsN.set _ ⟨g,3,none⟩ d hg)
theorem sp_read (x k v:Int) (w:World):Calls Tryz.prog 133 #[WU x,.int .i64 k,.int .i64 v] w fun e w'=>e=.returned (.tuple #[WU x,.int .i64 3,.int .i64 x])/\Below w.heap.size w w':=by
 go_enter Tryz.func133,Tryz.ntmps133;go_wp2_with fail;have b0:Below w.heap.size w ((w.alloc (.cells #[.int .i64 1,.int .i64 x,.slice none 0 0,.slice none 0 0] 119)).alloc (.cells #[.int .i64 0,.int .i64 0,.slice none 0 0,.slice none 0 0] 119)):=((Below.refl _ w).alloc (Nat.le_refl _) _).alloc (by simp) _;have r0:=qy (o:=.cells #[.int .i64 0,.int .i64 0,.slice none 0 0,.slice none 0 0] 119) (qs w (.cells #[.int .i64 1,.int .i64 x,.slice none 0 0,.slice none 0 0] 119));have r1:=qs (w.alloc (.cells #[.int .i64 1,.int .i64 x,.slice none 0 0,.slice none 0 0] 119)) (.cells #[.int .i64 0,.int .i64 0,.slice none 0 0,.slice none 0 0] 119);simp only[World.size_alloc] at r1;generalize (w.alloc (.cells #[.int .i64 1,.int .i64 x,.slice none 0 0,.slice none 0 0] 119)).alloc (.cells #[.int .i64 0,.int .i64 0,.slice none 0 0,.slice none 0 0] 119)=W at *;have y:=qa r0;have y0:=y 0;have y1:=y 1;have y2:=y 2;have y3:=y 3;have z:=qa r1;have z0:=z 0;have z1:=z 1;have z2:=z 2;have z3:=z 3;simp at y0 y1 y2 y3 z0 z1 z2 z3;have zf:=fun j=>qt r1 j;have l0:=qe r0;have l1:=qe r1;have B0:=qd b0;have R1:=qd r1;clear y z r0 r1 b0;refine qD (w.heap.size+1) [1,0,1,3,0,0] (.fin [0,1,2,3,4,5]) (by kernel_rfl) ?_;simp only[xC,qJ,qu,sD,sE,sF,sG]
 repeat first|(refine qq fun K hK=>?_;go_simp;refine hK _ _ ?_;clear hK K)|(apply qx;(intro w2 hw2;have hk1:=hw2.cell;have hk3:=hw2.1;clear hw2;go_simp;with_reducible rfl);simp only[Act.put,sA,sB,sC])
 refine qC (fun K hK=>?_);go_simp;refine hK _ _ (keeps4 W (Nat.le_refl _) _ _ _ _) ?_;clear hK K
 repeat first|(refine qq fun K hK=>?_;go_simp;refine hK _ _ ?_;clear hK K)|refine qm ?_
 have b1:Below w.heap.size w ((((W.setCell ⟨w.heap.size+1,0,none⟩ (.int .i64 1)).setCell ⟨w.heap.size+1,1,none⟩ (.int .i64 x)).setCell ⟨w.heap.size+1,2,none⟩ (.slice none 0 0)).setCell ⟨w.heap.size+1,3,none⟩ (.slice none 0 0)):=
  (((B0.o.setCell (p:=⟨w.heap.size+1,0,none⟩) (Nat.le_succ _) _).setCell (p:=⟨w.heap.size+1,1,none⟩) (Nat.le_succ _) _).setCell (p:=⟨w.heap.size+1,2,none⟩) (Nat.le_succ _) _).setCell (p:=⟨w.heap.size+1,3,none⟩) (Nat.le_succ _) _
 have r2:=qn (qn (qn (qn R1.o 0 (.int .i64 1)) 1 (.int .i64 x)) 2 (.slice none 0 0)) 3 (.slice none 0 0);have c:=qa r2;have c0:=c 0;have c1:=c 1;have c2:=c 2;have c3:=c 3;simp at c0 c1 c2 c3;go_wp2_with fail;refine bodyPost_ret (v:=.tuple #[WU x,.int .i64 3,.int .i64 x]) (by simp[results,Tryz.results133,go_sem,c0,c1,c2,c3]) rfl ⟨rfl,b1.drew⟩
theorem MK (x k v:Int) (w:World):Calls Tryz.prog 134 #[WU x,.int .i64 k,.int .i64 v] w fun e w'=>e=.returned (.tuple #[WU v,.int .i64 1,.int .i64 0])/\Below w.heap.size w w':=by
 go_enter Tryz.func134,Tryz.ntmps134;go_wp2_with fail;refine bodyPost_ret (v:=.tuple #[WU v,.int .i64 1,.int .i64 0]) (by simp[results,Tryz.results134,go_sem]) rfl ⟨rfl,?_⟩;exact((Below.refl _ w).alloc (Nat.le_refl _) _).alloc (by simp) _
def Uz (x op val:Int):Int×Int×Int:=if op=2 then(val,1,0) else(x,3,x)
theorem Va {N g:Nat} (W:World) (hg:N<=g) (a b c d:Value):RN.KeepsN N W ((((W.setCell ⟨g,0,none⟩ a).setCell ⟨g,1,none⟩ b).setCell ⟨g,2,none⟩ c).setCell ⟨g,3,none⟩ d):=keeps4 W hg a b c d
theorem sp_Do (x op val:Int) (hop:op=1/\val=0\/op=2/\-1000000000<=val/\val<=1000000000) (w:World):
  Calls Tryz.prog 56 #[WU x,.int .i64 op,.int .i64 0,.int .i64 val] w fun e w'=>e=.returned (.tuple #[WU (Uz x op val).1,.int .i64 (Uz x op val).2.1,.int .i64 (Uz x op val).2.2,.nilIface])/\Below w.heap.size w w':=by
 have hk:op=1\/op=2:=by omega
 have q1:(op==3)=false:=by rw[beq_eq_false_iff_ne];omega
 have q2:decide (val < -1000000000)=false:=by simp;omega
 have q3:decide (1000000000 < val)=false:=by simp;omega
 have hV:=fun X=>e_Valued op hk X;have hK:=fun X=>e_Keyed op hk X;have hO:=fun X=>e_Of op hk X;have q4:(val !=0)=true->(op==2)=true:=fun h=>by rcases hop with h2|h2 <;> simp_all
 have b0:Below w.heap.size w ((w.alloc (.cells #[.int .i64 1,.int .i64 x,.slice none 0 0,.slice none 0 0] 119)).alloc (.cells #[.int .i64 0,.int .i64 0,.slice none 0 0,.slice none 0 0] 119)):=((Below.refl _ w).alloc (Nat.le_refl _) _).alloc (by simp) _;have r0:=qy (o:=.cells #[.int .i64 0,.int .i64 0,.slice none 0 0,.slice none 0 0] 119) (qs w (.cells #[.int .i64 1,.int .i64 x,.slice none 0 0,.slice none 0 0] 119));have r1:=qs (w.alloc (.cells #[.int .i64 1,.int .i64 x,.slice none 0 0,.slice none 0 0] 119)) (.cells #[.int .i64 0,.int .i64 0,.slice none 0 0,.slice none 0 0] 119);simp only[World.size_alloc] at r1;have hz:((w.alloc (.cells #[.int .i64 1,.int .i64 x,.slice none 0 0,.slice none 0 0] 119)).alloc (.cells #[.int .i64 0,.int .i64 0,.slice none 0 0,.slice none 0 0] 119)).heap.size=w.heap.size+2:=by simp
 go_enter Tryz.func56,Tryz.ntmps56;go_wp2_with fail;generalize (w.alloc (.cells #[.int .i64 1,.int .i64 x,.slice none 0 0,.slice none 0 0] 119)).alloc (.cells #[.int .i64 0,.int .i64 0,.slice none 0 0,.slice none 0 0] 119)=W at *;have y:=qa r0;have y0:=y 0;have y1:=y 1;have y2:=y 2;have y3:=y 3;simp at y0 y1 y2 y3;have l0:=qe r0;have l1:=qe r1;have B0:=qd b0;have R0:=qd r0;have R1:=qd r1;clear y r0 r1 b0;refine qD (W.heap.size) [0,1,0,0,0,3,0,1,0,0] (.fin [0,1,2,3,4,6,7,5,8,9]) (by kernel_rfl) ?_;simp only[xC,qJ,qu,sD,sE,sF,sG,Option.bind_some]
 repeat first|(refine qq fun K hK=>?_;go_simp;refine hK _ _ ?_;clear hK K)|(apply qx;(intro w2 hw2;have hk1:=hw2.cell;have hk3:=hw2.1;clear hw2;go_simp;with_reducible rfl);simp only[Act.put,sA,sB,sC])|refine qz rfl rfl ?_
 refine qC (fun K hK'=>?_);go_simp;refine(hO _).mono ?_;rintro e w' ⟨rfl,rfl⟩;refine hK' _ _ (RN.KeepsN.refl _ _) ?_;clear hK' K
 repeat first|(refine qq fun K hK=>?_;go_simp;refine hK _ _ ?_;clear hK K)|refine qz rfl rfl ?_|refine qm ?_
 go_upto_region 3 with fail
 go_cut [58] from 27 to 87 (fun c wx=>c=.bool false/\wx=W.drew)
 case first=>
  by_cases hv0:val=0
  ·subst hv0
   go_wp2_with fail
   go_meet
   case rel=>exact⟨rfl,rfl⟩
  ·have q5:(val !=0)=true:=by simpa using hv0
   have q6:=q4 q5;go_wp2_with fail;refine(hV _).mono ?_;rintro e w' ⟨rfl,rfl⟩;go_wp2_with fail
   go_meet
   case rel=>exact⟨rfl,rfl⟩
 case rest=>
 obtain⟨rfl,rfl⟩:=hcut;clear q2 q3 q4 hV hK hO;obtain⟨F,hent,hF,hC⟩:∃F:FuncId,(∀(args:Array Value) (w:World),Sem.run Tryz.prog (callFunc F args) w=.ok (.enter F args) w)/\(∀M:Int->Option Value,M 1=some (Ry 133)->M 2=some (Ry 134)->M op=some (Ry F))/\∀X:World,Calls Tryz.prog F #[WU x,.int .i64 0,.int .i64 val] X fun e w'=>e=.returned (.tuple #[WU (Uz x op val).1,.int .i64 (Uz x op val).2.1,.int .i64 (Uz x op val).2.2])/\Below X.heap.size X w':=by
  rcases hop with⟨rfl,rfl⟩|⟨rfl,-⟩
  ·exact ⟨_,fun args w=>enters_of Tryz.func133 (by kernel_rfl) rfl args w,fun M h1 _=>h1,fun X=>sp_read x 0 0 X⟩
  ·exact ⟨_,fun args w=>enters_of Tryz.func134 (by kernel_rfl) rfl args w,fun M _ h2=>h2,fun X=>MK x 0 val X⟩
 generalize hD:Uz x op val=D at hC;obtain⟨D1,D2,D3⟩:=D;have HD:=qd hD;clear hD;have hLk:=fun(X:World) (bm:Nat) (M:Int->Option Value) (h:qL X bm M) (k:Int) (v:Value) (hv:M k=some v)=>(h.look (P:=Tryz.prog) (t:=191) Tryz.underlying3 Tryz.underlying191 (zv:=.nilFunc) (by kernel_rfl) k hv).1
 go_upto_region 7 with fail
 go_cut [12,13,14] from 74 to 87 (fun p r g wx=>∃b:Nat,p=.pointer (some ⟨b,0,none⟩)/\r=.int .i64 D2/\g=.int .i64 D3/\wx.heap[b]?=some (.cells #[.int .i64 1,.int .i64 D1,.slice none 0 0,.slice none 0 0] 119 (0,0))/\Below W.heap.size W wx)
 case first=>
  refine qD (W.heap.size) [3,0,3,1,0,0,3,0,0,0,0,3,3,0,0] (.frk [1,3,4,5] (.frk [0] (.frk [2] (.fin [6,7,8,9,10,11,12,13,14]) (.fin [11,6,7,8,9,10,12,13,14])) (.fin [11,2,6,7,8,9,10,12,13,14])) (.fin [11,0,2,6,7,8,9,10,12,13,14])) (by kernel_rfl) ?_;simp only[xC,qJ,qu,sD,sE,sF,sG];have bX:Below W.heap.size W W.drew:=(Below.refl _ W).drew
  repeat first|(refine qq fun K hK=>?_;go_simp;refine hK _ _ ?_;clear hK K)|(apply qx;(intro w2 hw2;have hk1:=hw2.cell;have hk3:=hw2.1;clear hw2;go_simp;with_reducible rfl);simp only[Act.put,sA,sB,sC])|refine qm ?_
  have bX:Below W.heap.size W W.drew.drew:=(Below.refl _ W).drew.drew;generalize W.drew.drew=V at *;refine⟨?_,?_⟩
  ·
   refine qC (fun K hK'=>?_);go_simp;refine(VJ _).mono ?_;rintro e X1 ⟨bm,M,rfl,hM,h1,h2,bd,-⟩;refine hK' _ _ (RN.KeepsN.of_below (bd.mono bX.size)) ?_;clear hK' K;have bX:=bX.trans (bd.mono bX.size);clear bd
   repeat refine qm ?_
   refine⟨?_,?_⟩
   ·
    have hlk:=hLk _ bm M hM op _ (hF M h1 h2);refine qC (fun K hK'=>?_);go_simp;refine hK' _ _ (RN.KeepsN.refl _ _) ?_;clear hK' K hlk
    repeat refine qm ?_
    refine⟨?_,?_⟩
    ·
     refine qC (fun K hK'=>?_);go_simp;refine(hC _).mono ?_;rintro e X2 ⟨rfl,bd⟩;refine hK' _ _ (RN.KeepsN.of_below (bd.mono bX.size)) ?_;clear hK' K;have bX:=bX.trans (bd.mono bX.size);clear bd
     repeat (refine qq fun K hK=>?_;go_simp;refine hK _ _ ?_;clear hK K)
     refine qC (fun K hK'=>?_);go_simp;refine hK' _ _ (RN.KeepsN.alloc _ _ bX.size) ?_;clear hK' K;have rA:=qs X2 (.cells #[.int .i64 0,.int .i64 0,.slice none 0 0,.slice none 0 0] 119);have ba:Below X2.heap.size X2 (X2.alloc (.cells #[.int .i64 0,.int .i64 0,.slice none 0 0,.slice none 0 0] 119)):=(Below.refl _ _).alloc (Nat.le_refl _) _;have lA:=bX.size;have bX:=bX.trans (ba.mono bX.size);clear ba;generalize X2.alloc (.cells #[.int .i64 0,.int .i64 0,.slice none 0 0,.slice none 0 0] 119)=X3 at *;generalize X2.heap.size=bA at *;have y:=qa rA;have z0:=y 0;have z1:=y 1;have z2:=y 2;have z3:=y 3;simp at z0 z1 z2 z3;have zf:=fun j=>qt rA j;have zl:=qe rA;have RA:=qd rA;clear y rA;refine qC (fun K hK'=>?_);go_simp;refine hK' _ _ (Va X3 lA _ _ _ _) ?_;clear hK' K z0 z1 z2 z3 zf
     repeat first|(refine qq fun K hK=>?_;go_simp;refine hK _ _ ?_;clear hK K)|refine qm ?_
     go_wp2_with fail
     go_meet
     case rel=>
      refine⟨bA,rfl,rfl,rfl,?_,(((bX.setCell (p:=⟨bA,0,none⟩) lA _).setCell (p:=⟨bA,1,none⟩) lA _).setCell (p:=⟨bA,2,none⟩) lA _).setCell (p:=⟨bA,3,none⟩) lA _⟩;have:=qn (qn (qn (qn RA.o 0 (.int .i64 1)) 1 (.int .i64 D1)) 2 (.slice none 0 0)) 3 (.slice none 0 0);simpa using this
    ·
     refine qC (fun K hK'=>?_);go_simp;refine hK' _ _ (RN.KeepsN.alloc _ _ bX.size) ?_;clear hK' K;have rA:=qs X1 (.cells #[.int .i64 0,.int .i64 0,.slice none 0 0,.slice none 0 0] 119);have ba:Below X1.heap.size X1 (X1.alloc (.cells #[.int .i64 0,.int .i64 0,.slice none 0 0,.slice none 0 0] 119)):=(Below.refl _ _).alloc (Nat.le_refl _) _;have lA:=bX.size;have bX:=bX.trans (ba.mono bX.size);clear ba;generalize X1.alloc (.cells #[.int .i64 0,.int .i64 0,.slice none 0 0,.slice none 0 0] 119)=X2 at *;generalize X1.heap.size=bA at *;refine qC (fun K hK'=>?_);go_simp;refine(hC _).mono ?_;rintro e X3 ⟨rfl,bd⟩;refine hK' _ _ (RN.KeepsN.of_below (bd.mono bX.size)) ?_;clear hK' K;have bX:=bX.trans (bd.mono bX.size);have rA:=qh rA bd (qe rA);clear bd
     repeat (refine qq fun K hK=>?_;go_simp;refine hK _ _ ?_;clear hK K)
     have y:=qa rA;have z0:=y 0;have z1:=y 1;have z2:=y 2;have z3:=y 3;simp at z0 z1 z2 z3;have zf:=fun j=>qt rA j;have zl:=qe rA;have RA:=qd rA;clear y rA;refine qC (fun K hK'=>?_);go_simp;refine hK' _ _ (Va X3 lA _ _ _ _) ?_;clear hK' K z0 z1 z2 z3 zf
     repeat first|(refine qq fun K hK=>?_;go_simp;refine hK _ _ ?_;clear hK K)|refine qm ?_
     go_wp2_with fail
     go_meet
     case rel=>
      refine⟨bA,rfl,rfl,rfl,?_,(((bX.setCell (p:=⟨bA,0,none⟩) lA _).setCell (p:=⟨bA,1,none⟩) lA _).setCell (p:=⟨bA,2,none⟩) lA _).setCell (p:=⟨bA,3,none⟩) lA _⟩;have:=qn (qn (qn (qn RA.o 0 (.int .i64 1)) 1 (.int .i64 D1)) 2 (.slice none 0 0)) 3 (.slice none 0 0);simpa using this
   ·
    refine qC (fun K hK'=>?_);go_simp;refine hK' _ _ (RN.KeepsN.alloc _ _ bX.size) ?_;clear hK' K;have rA:=qs X1 (.cells #[.int .i64 0,.int .i64 0,.slice none 0 0,.slice none 0 0] 119);have ba:Below X1.heap.size X1 (X1.alloc (.cells #[.int .i64 0,.int .i64 0,.slice none 0 0,.slice none 0 0] 119)):=(Below.refl _ _).alloc (Nat.le_refl _) _;have lA:=bX.size;have bX:=bX.trans (ba.mono bX.size);have hM:=hM.below ba hM.lt;clear ba;generalize X1.alloc (.cells #[.int .i64 0,.int .i64 0,.slice none 0 0,.slice none 0 0] 119)=X2 at *;generalize X1.heap.size=bA at *;have hlk:=hLk _ bm M hM op _ (hF M h1 h2);refine qC (fun K hK'=>?_);go_simp;refine hK' _ _ (RN.KeepsN.refl _ _) ?_;clear hK' K hlk;refine qC (fun K hK'=>?_);go_simp;refine(hC _).mono ?_;rintro e X3 ⟨rfl,bd⟩;refine hK' _ _ (RN.KeepsN.of_below (bd.mono bX.size)) ?_;clear hK' K;have bX:=bX.trans (bd.mono bX.size);have rA:=qh rA bd (qe rA);clear bd
    repeat (refine qq fun K hK=>?_;go_simp;refine hK _ _ ?_;clear hK K)
    have y:=qa rA;have z0:=y 0;have z1:=y 1;have z2:=y 2;have z3:=y 3;simp at z0 z1 z2 z3;have zf:=fun j=>qt rA j;have zl:=qe rA;have RA:=qd rA;clear y rA;refine qC (fun K hK'=>?_);go_simp;refine hK' _ _ (Va X3 lA _ _ _ _) ?_;clear hK' K z0 z1 z2 z3 zf
    repeat first|(refine qq fun K hK=>?_;go_simp;refine hK _ _ ?_;clear hK K)|refine qm ?_
    go_wp2_with fail
    go_meet
    case rel=>
     refine⟨bA,rfl,rfl,rfl,?_,(((bX.setCell (p:=⟨bA,0,none⟩) lA _).setCell (p:=⟨bA,1,none⟩) lA _).setCell (p:=⟨bA,2,none⟩) lA _).setCell (p:=⟨bA,3,none⟩) lA _⟩;have:=qn (qn (qn (qn RA.o 0 (.int .i64 1)) 1 (.int .i64 D1)) 2 (.slice none 0 0)) 3 (.slice none 0 0);simpa using this
  ·
   refine qC (fun K hK'=>?_);go_simp;refine hK' _ _ (RN.KeepsN.alloc _ _ bX.size) ?_;clear hK' K;have rA:=qs V (.cells #[.int .i64 0,.int .i64 0,.slice none 0 0,.slice none 0 0] 119);have ba:Below V.heap.size V (V.alloc (.cells #[.int .i64 0,.int .i64 0,.slice none 0 0,.slice none 0 0] 119)):=(Below.refl _ _).alloc (Nat.le_refl _) _;have lA:=bX.size;have bX:=bX.trans (ba.mono bX.size);clear ba;generalize V.alloc (.cells #[.int .i64 0,.int .i64 0,.slice none 0 0,.slice none 0 0] 119)=X1 at *;generalize V.heap.size=bA at *;refine qC (fun K hK'=>?_);go_simp;refine(VJ _).mono ?_;rintro e X2 ⟨bm,M,rfl,hM,h1,h2,bd,-⟩;refine hK' _ _ (RN.KeepsN.of_below (bd.mono bX.size)) ?_;clear hK' K;have bX:=bX.trans (bd.mono bX.size);have rA:=qh rA bd (qe rA);clear bd;have hlk:=hLk _ bm M hM op _ (hF M h1 h2);refine qC (fun K hK'=>?_);go_simp;refine hK' _ _ (RN.KeepsN.refl _ _) ?_;clear hK' K hlk;refine qC (fun K hK'=>?_);go_simp;refine(hC _).mono ?_;rintro e X3 ⟨rfl,bd⟩;refine hK' _ _ (RN.KeepsN.of_below (bd.mono bX.size)) ?_;clear hK' K;have bX:=bX.trans (bd.mono bX.size);have rA:=qh rA bd (qe rA);clear bd
   repeat (refine qq fun K hK=>?_;go_simp;refine hK _ _ ?_;clear hK K)
   have y:=qa rA;have z0:=y 0;have z1:=y 1;have z2:=y 2;have z3:=y 3;simp at z0 z1 z2 z3;have zf:=fun j=>qt rA j;have zl:=qe rA;have RA:=qd rA;clear y rA;refine qC (fun K hK'=>?_);go_simp;refine hK' _ _ (Va X3 lA _ _ _ _) ?_;clear hK' K z0 z1 z2 z3 zf
   repeat first|(refine qq fun K hK=>?_;go_simp;refine hK _ _ ?_;clear hK K)|refine qm ?_
   go_wp2_with fail
   go_meet
   case rel=>
    refine⟨bA,rfl,rfl,rfl,?_,(((bX.setCell (p:=⟨bA,0,none⟩) lA _).setCell (p:=⟨bA,1,none⟩) lA _).setCell (p:=⟨bA,2,none⟩) lA _).setCell (p:=⟨bA,3,none⟩) lA _⟩;have:=qn (qn (qn (qn RA.o 0 (.int .i64 1)) 1 (.int .i64 D1)) 2 (.slice none 0 0)) 3 (.slice none 0 0);simpa using this
 case rest=>
 obtain⟨b,rfl,rfl,rfl,hb,hB⟩:=hcut;have r1:=qh R1.o hB l1;have y:=qa hb;have y0:=y 0;have y1:=y 1;have y2:=y 2;have y3:=y 3;have z:=qa r1;have z0:=z 0;have z1:=z 1;have z2:=z 2;have z3:=z 3;simp at y0 y1 y2 y3 z0 z1 z2 z3;have zf:=fun j=>qt r1 j;have zl:=qe r1;have hbl:=qe hb;have RZ:=qd r1;have BZ:=qd (B0.o.trans (hB.mono (by omega)));clear y z r1 hb;go_wp2_with fail;have hf:=qa (qn (qn (qn (qn RZ.o 0 (.int .i64 1)) 1 (.int .i64 D1)) 2 (.slice none 0 0)) 3 (.slice none 0 0));have c0:=hf 0;have c1:=hf 1;have c2:=hf 2;have c3:=hf 3;simp at c0 c1 c2 c3;refine bodyPost_ret (v:=.tuple #[WU D1,.int .i64 D2,.int .i64 D3,.nilIface]) (by simp[results,Tryz.results56,go_sem,c0,c1,c2,c3]) rfl ⟨by rw[HD.o],?_⟩;exact(((BZ.o.setCell (p:=⟨w.heap.size+1,0,none⟩) (Nat.le_succ _) _).setCell (p:=⟨w.heap.size+1,1,none⟩) (Nat.le_succ _) _).setCell (p:=⟨w.heap.size+1,2,none⟩) (Nat.le_succ _) _).setCell (p:=⟨w.heap.size+1,3,none⟩) (Nat.le_succ _) _
end
section
attribute [local irreducible] xL
theorem qj.ofRow {α:Type} {f:α->List Value} {e:TypeId} {sz B g n:Nat} {w:World} {l:List α} (h:w.heap[g]?=some (.cells (l.flatMap f).toArray e (0,0))) (hB:B<=g) (hn:l.length=n) (hl:(l.flatMap f).length=n*sz) (hm:n<=maxLen):qj f e sz w B (.slice (some ⟨g,0,none⟩) n n) l:=by
 subst hn;exact⟨hl,.inr ⟨g,_,_,rfl,hB,h,Nat.le_refl _,hm,by simpa using hl,show List.take (l.length*sz) (l.flatMap f)=l.flatMap f from List.take_of_length_le (Nat.le_of_eq hl)⟩⟩
theorem st_At (v:Value) (σ:List Int) (i:Nat) (x:Int) (w:World) (h:SlS w w.heap.size v σ) (hx:σ[i]?=some x) (hs:YI x):
  Calls Tryz.prog 55 #[Vu v,.int .i64 i] w fun e w'=>e=.returned (.tuple #[WU x,.bool true])/\Below w.heap.size w w':=by
 obtain⟨a,c,rfl,hm⟩:=h.ex;have b0:Below w.heap.size w ((w.alloc (.cells #[.slice a σ.length c] 57)).alloc (.cells #[.int .i64 0,.int .i64 0,.slice none 0 0,.slice none 0 0] 119)):=((Below.refl _ w).alloc (Nat.le_refl _) _).alloc (by simp) _;have r1:=qs (w.alloc (.cells #[.slice a σ.length c] 57)) (.cells #[.int .i64 0,.int .i64 0,.slice none 0 0,.slice none 0 0] 119);have hz:((w.alloc (.cells #[.slice a σ.length c] 57)).alloc (.cells #[.int .i64 0,.int .i64 0,.slice none 0 0,.slice none 0 0] 119)).heap.size=w.heap.size+2:=by simp
 simp only[World.size_alloc] at r1;go_enter Tryz.func55,Tryz.ntmps55;go_wp2_with fail;generalize (w.alloc (.cells #[.slice a σ.length c] 57)).alloc (.cells #[.int .i64 0,.int .i64 0,.slice none 0 0,.slice none 0 0] 119)=W at *;refine(l_At _ σ i x W ((h.below b0).more b0.size) hx hs).mono ?_;rintro e W1 ⟨rfl,b1⟩;have r1:=qh r1 b1 (by omega);have z:=qa r1;have z0:=z 0;have z1:=z 1;have z2:=z 2;have z3:=z 3;simp at z0 z1 z2 z3;have zf:=fun j=>qt r1 j;have zl:=qe r1;have RZ:=qd r1;have BZ:=qd (b0.trans (b1.mono (by omega)));clear z r1 b1 b0 h;go_wp2_with fail;have hf:=qa (qn (qn (qn (qn RZ.o 0 (.int .i64 1)) 1 (.int .i64 x)) 2 (.slice none 0 0)) 3 (.slice none 0 0));have c0:=hf 0;have c1:=hf 1;have c2:=hf 2;have c3:=hf 3;simp at c0 c1 c2 c3;refine bodyPost_ret (v:=.tuple #[WU x,.bool true]) (by simp[results,Tryz.results55,go_sem,c0,c1,c2,c3]) rfl ⟨rfl,?_⟩;exact(((BZ.o.setCell (p:=⟨w.heap.size+1,0,none⟩) (Nat.le_succ _) _).setCell (p:=⟨w.heap.size+1,1,none⟩) (Nat.le_succ _) _).setCell (p:=⟨w.heap.size+1,2,none⟩) (Nat.le_succ _) _).setCell (p:=⟨w.heap.size+1,3,none⟩) (Nat.le_succ _) _
theorem st_Do (v:Value) (σ:List Int) (i:Nat) (x op val:Int) (w:World) (h:SlS w w.heap.size v σ) (hl:σ.length<=1000) (hx:σ[i]?=some x) (hs:YI x) (hop:op=1/\val=0\/op=2/\-1000000000<=val/\val<=1000000000):
  Calls Tryz.prog 21 #[Vu v,.int .i64 i,.int .i64 op,.int .i64 0,.int .i64 val] w fun e w'=>∃v',e=.returned (.tuple #[Vu v',.int .i64 (Uz x op val).2.1,.int .i64 (Uz x op val).2.2,.nilIface])/\jO w' w.heap.size v' (σ.set i (Uz x op val).1)/\Below w.heap.size w w':=by
 obtain⟨a,c,rfl,hm⟩:=h.ex;have hDo:=fun X=>sp_Do x op val hop X;have hil:=(List.getElem?_eq_some_iff.1 hx).1;have hD1:YI (Uz x op val).1:=by
  unfold Uz;rcases hop with⟨rfl,rfl⟩|⟨rfl,h1,h2⟩
  ·simpa using hs
  ·exact ⟨h1,h2⟩
 generalize Uz x op val=D at *;obtain⟨D1,D2,D3⟩:=D;have b0:Below w.heap.size w ((w.alloc (.cells #[.slice a σ.length c] 57)).alloc (.cells #[.slice none 0 0] 57)):=((Below.refl _ w).alloc (Nat.le_refl _) _).alloc (by simp) _;have r0:=qy (o:=.cells #[.slice none 0 0] 57) (qs w (.cells #[.slice a σ.length c] 57));have r1:=qs (w.alloc (.cells #[.slice a σ.length c] 57)) (.cells #[.slice none 0 0] 57);have hz:((w.alloc (.cells #[.slice a σ.length c] 57)).alloc (.cells #[.slice none 0 0] 57)).heap.size=w.heap.size+2:=by simp
 simp only[World.size_alloc] at r1;go_enter Tryz.func21,Tryz.ntmps21;go_wp2_with fail;generalize (w.alloc (.cells #[.slice a σ.length c] 57)).alloc (.cells #[.slice none 0 0] 57)=W at *;refine(st_At _ σ i x W ((h.below b0).more b0.size) hx hs).mono ?_;rintro e W1 ⟨rfl,b1⟩;have hz1:=b1.size;have b1:Below W.heap.size W (W1.alloc (.cells #[.int .i64 1,.int .i64 x,.slice none 0 0,.slice none 0 0] 119)):=b1.alloc hz1 _;have R0:=qd r0;have R1:=qd r1;have B0:=qd b0;have B1:=qd b1;clear r0 r1 b0 b1;go_wp2_with fail;refine(hDo _).mono ?_;rintro e W2 ⟨rfl,b2⟩;have b2:Below W.heap.size W W2:=B1.o.trans (b2.mono (B1.o.size));have hz2:=b2.size;have y0:=qa (qh R0.o b2 (by omega)) 0;simp at y0;have b3:Below W.heap.size W (W2.alloc (.cells #[.int .i64 1,.int .i64 D1,.slice none 0 0,.slice none 0 0] 119)):=b2.alloc hz2 _;have yl:w.heap.size < W2.heap.size:=by omega
 have B3:=qd b3;clear b2 b3;go_wp2_with fail;refine(l_With _ σ i D1 _ (((h.below B0.o).more B0.o.size).below B3.o |>.more B3.o.size) hl hil hD1).mono ?_;rintro e W3 ⟨v',rfl,o3,b3⟩;obtain⟨a',c',rfl,-⟩:=(qj.sl o3).ex;have b3:Below W.heap.size W W3:=B3.o.trans (b3.mono B3.o.size);have hz3:=b3.size;have r1:=qh R1.o b3 (by omega);have z0:=qa r1 0;simp at z0;have zf:=qt r1 0;have zl:=qe r1;have o4:=qj.set (j:=0) (u:=.slice a' σ.length c') (g:=w.heap.size+1) (qj.base o3 (show W.heap.size<=_ from B3.o.size)) (by omega);have R3:=qd (qn r1 0 (.slice a' σ.length c'));have B4:=qd ((B0.o.trans (b3.mono (by omega))).setCell (p:=⟨w.heap.size+1,0,none⟩) (show w.heap.size<=w.heap.size+1 by omega) (.slice a' σ.length c'));simp only[List.length_set] at o4 R3 B4;clear r1 o3 b3;go_wp2_with fail;have c0:=qa R3.o 0;simp at c0;refine bodyPost_ret (v:=.tuple #[Vu (.slice a' σ.length c'),.int .i64 D2,.int .i64 D3,.nilIface]) (by simp[results,Tryz.results21,go_sem,c0]) rfl ?_;exact⟨_,rfl,qj.base o4 (by omega),B4.o⟩
end
