/- Parts of the proof, merged by program out of 3 texts (StD, Range, RanC): the first: A transaction's deeds done again. Conditions: those of each theorem, as typed. -/
import Derived.Test.YtkfhgifhfkcehaaGreatDoorQL22
import Derived.Test.YtkfhgifhfkcehaaGreatDoorQL23
import Derived.Test.YtkfhgifhfkcehaaGreatDoorQL27
import Derived.RangeFuncNested
import Derived.RangeFuncBound
import Derived.RangeFuncCalls
import Derived.RangeFuncLeaves
import Derived.Shelf.Abstract
import Derived.WalkKit
import Derived.OwnWalkIn
import Derived.TacticsInMore
import Derived.LoopNIn
import Derived.LoopIn
set_option linter.unusedVariables false
set_option linter.unusedSimpArgs false
set_option linter.unusedSectionVars false
set_option maxRecDepth 100000
set_option maxHeartbeats 4000000
namespace Go.Proofs.YtkfhgifhfkcehaaGreatDoor
open Go.Maps Go.RowKit
section
attribute [local irreducible] wpL
def stpC (u:Int×Bool):List Value:=[.int .i64 u.1,.bool u.2]
theorem stpC_len (u:Int×Bool):(stpC u).length=2:=rfl
theorem infoStep:(Tryz.prog.info? 58).map (fun i=>(i.zero,i.size,i.bytes))=some (some (.agg #[.int .i64 0,.bool false]),2,16):=by kernel_rfl
theorem step_one (u:Int×Bool):∀x ∈ stpC u,x.oneCell'=true:=by intro x hx;simp[stpC] at hx;rcases hx with rfl|rfl <;> rfl
def ErrAt (g:Nat) (w:World):Prop:=g < w.heap.size∧∃t v,w.cell? ⟨g,0,none⟩=some (.iface t v)
theorem ErrAt.below {g:Nat} {w w':World} (h:ErrAt g w) (hb:Below w.heap.size w w'):ErrAt g w':=by
 obtain⟨h1,t,v,h2⟩:=h
 exact⟨by have:=hb.size;omega,t,v,cell_below hb h1 h2⟩
structure DdR (m:Nat) (d:Dd):Prop where
 obj:0≤d.obj∧d.obj < m
 op:d.op=1∧d.val=0∨d.op=2∧-1000000000≤d.val∧d.val≤1000000000
 key:d.key=0
theorem doD_R {ρ:List Int} {d:Dd} {m c:Nat} {x:Int} (h:DdR m d) (hr:d.ret≠0) (hc:d.obj=c) (hx:ρ[c]?=some x):
  doD ρ d=if (doR x d.op d.val).2.1=d.ret∧(doR x d.op d.val).2.2=d.got then some (ρ.set c (doR x d.op d.val).1) else none:=by
 unfold doD doR
 rw[if_neg hr,hc,Int.toNat_natCast]
 rcases h.op with⟨h1,h2⟩|⟨h1,h2⟩
 ·have:¬d.op=2:=by omega
  rw[if_neg this,if_neg this,hx]
  have hs:ρ.set c x=ρ:=by
   apply List.ext_getElem?
   intro j
   by_cases e:c=j
   ·subst e;rw[List.getElem?_set_self (List.getElem?_eq_some_iff.1 hx).1,hx]
   ·rw [List.getElem?_set_ne e]
  simp only[hs,Option.some.injEq]
  by_cases h3:d.ret=3
  ·by_cases h4:x=d.got
   ·rw [if_pos ⟨h3,h4⟩,if_pos ⟨h3.symm,h4⟩]
   ·rw [if_neg (fun h=>h4 h.2),if_neg (fun h=>h4 h.2)]
  ·rw [if_neg (fun h=>h3 h.1),if_neg (fun h=>h3 h.1.symm)]
 ·rw [if_pos h1,if_pos h1]
  by_cases h3:d.ret=1∧d.got=0
  ·rw [if_pos h3,if_pos ⟨h3.1.symm,h3.2.symm⟩]
  ·rw [if_neg h3,if_neg (fun h=>h3 ⟨h.1.symm,h.2.symm⟩)]
theorem pl_fits_yes (d:Dd) (w:World):
  Calls Tryz.prog 172 #[.agg d.cells.toArray,.int .i64 d.ret,.int .i64 d.got] w fun e w'=>e=.returned .nilIface∧Below w.heap.size w w':=by
 obtain⟨o,p,k,v,r,g,a,b⟩:=d
 have b0:Below w.heap.size w (w.alloc (.cells #[.int .i64 o,.int .i64 p,.int .i64 k,.int .i64 v,.int .i64 r,.int .i64 g,.int .i64 a,.int .i64 b] 291)):=(Below.refl _ w).alloc (Nat.le_refl _) _
 have q1:(r !=r)=false:=by simp
 have q2:(g !=g)=false:=by simp
 simp only[Dd.cells]
 go_enter Tryz.func172,Tryz.ntmps172
 go_wp2
 go_ret
 exact⟨rfl,b0⟩
theorem pl_fits_no (d:Dd) (ret got:Int) (hne:¬(ret=d.ret∧got=d.got)) (w:World) (hE:ErrAt 15 w):
  Calls Tryz.prog 172 #[.agg d.cells.toArray,.int .i64 ret,.int .i64 got] w fun e w'=>(∃t v,e=.returned (.iface t v))∧Below w.heap.size w w':=by
 obtain⟨hg,ty,va,hv⟩:=hE
 obtain⟨o,p,k,v,r,g,a,b⟩:=d
 have b0:Below w.heap.size w (w.alloc (.cells #[.int .i64 o,.int .i64 p,.int .i64 k,.int .i64 v,.int .i64 r,.int .i64 g,.int .i64 a,.int .i64 b] 291)):=(Below.refl _ w).alloc (Nat.le_refl _) _
 simp only[Dd.cells] at hne ⊢
 by_cases h1:ret=r
 ·have q1:(ret !=r)=false:=by simpa using h1
  have q2:(got !=g)=true:=by simpa using fun h2=>hne ⟨h1,h2⟩
  clear h1 hne
  go_enter Tryz.func172,Tryz.ntmps172
  go_wp2
  go_ret
  exact⟨⟨ty,va,rfl⟩,b0⟩
 ·have q1:(ret !=r)=true:=by simpa using h1
  clear h1 hne
  go_enter Tryz.func172,Tryz.ntmps172
  go_wp2
  go_ret
  exact⟨⟨ty,va,rfl⟩,b0⟩
theorem rep_none {σ:List Int} {ds:List Dd} {k:Nat} (h:rep σ (ds.take k)=none):rep σ ds=none:=by
 rw[←List.take_append_drop k ds,rep_app,h]
def PlPostF (w:World) (v:Value) (o:Option (List Int)) (e:Ending) (w':World):Prop:=(match o with
 |some τ=>∃v',e=.returned (.tuple #[stV v',.nilIface])∧OwnS w' 0 v' τ∧(v'=v∨∀k,v'.ownBlock=some k→w.heap.size≤k)
 |none=>∃t v,e=.returned (.tuple #[stV (.slice none 0 0),.iface t v]))∧Below w.heap.size w w'
theorem pl_RunF (v dv:Value) (σ:List Int) (ds:List Dd) (w:World) (h:OwnS w 0 v σ) (hl:σ.length≤1000) (hd:Sl w w.heap.size 8 dv ds.length (ds.flatMap Dd.cells)) (hok:∀d ∈ ds,DdR σ.length d) (hE:ErrAt 15 w):
  Calls Tryz.prog 121 #[stV v,dv] w (PlPostF w v (rep σ ds)):=by
 obtain⟨a,c,rfl,hm⟩:=(OwnF.sl h).ex
 obtain⟨ad,cd,rfl,md⟩:=hd.ex
 have b0:Below w.heap.size w ((w.alloc (.cells #[.slice a σ.length c] 46)).alloc (.cells #[.slice none 0 0] 46)):=((Below.refl _ w).alloc (Nat.le_refl _) _).alloc (by simp) _
 have r0:=row_old (o:=.cells #[.slice none 0 0] 46) (row_new w (.cells #[.slice a σ.length c] 46))
 have r1:=row_new (w.alloc (.cells #[.slice a σ.length c] 46)) (.cells #[.slice none 0 0] 46)
 have hz:((w.alloc (.cells #[.slice a σ.length c] 46)).alloc (.cells #[.slice none 0 0] 46)).heap.size=w.heap.size+2:=by simp
 simp only[World.size_alloc] at r1
 obtain⟨n0,hn0⟩:∃n0,n0=w.heap.size:=⟨_,rfl⟩
 go_enter Tryz.func121,Tryz.ntmps121
 go_wp2_with fail
 generalize (w.alloc (.cells #[.slice a σ.length c] 46)).alloc (.cells #[.slice none 0 0] 46)=W at *
 have R0:=hid r0
 have R1:=hid r1
 have B0:=hid b0
 have H:=hid h
 have HD:=hid hd
 have HOK:=hid hok
 have HE:=hid hE
 clear r0 r1 b0 h hd hok hE
 go_loopw [14] (fun p wr=>∃(i:Nat) (u:Value) (ρ:List Int),i≤ds.length∧p=.int .i64 i∧rep σ (ds.take i)=some ρ∧wr.heap[w.heap.size]?=some (.cells #[u] 46 (0,0))∧wr.heap[w.heap.size+1]?=some (.cells #[.slice none 0 0] 46 (0,0))∧OwnS wr 0 u ρ∧Below w.heap.size w wr∧W.heap.size≤wr.heap.size∧(u=.slice a σ.length c∨∀k,u.ownBlock=some k→w.heap.size≤k)) (fun p _=>ds.length - (intOf p).toNat)
 case atStart=>exact⟨0,_,σ,by omega,by go_num,rfl,R0.out,R1.out,OwnF.below H.out B0.out,B0.out,Nat.le_refl _,.inl rfl⟩
 case round=>
  obtain⟨i,u,ρ,hi,rfl,hrep,q0,q1,ho,hB,hz2,hu⟩:=hrel
  have HU:=hid hu
  have hρl:=rep_len hrep
  obtain⟨au,cu,rfl,-⟩:=(OwnF.sl ho).ex
  have HRL:=hid hρl
  have HREP:=hid hrep
  have HO:=hid ho
  have HB:=hid hB
  have Q0:=hid q0
  have Q1:=hid q1
  clear hrep ho hB q0 q1 hρl hu
  by_cases hlt:i < ds.length
  ·obtain ⟨b,off,d,hat,hb,hx,hc⟩:=(HD.out.below HB.out).atF Dd.len rfl hlt
   have c0:=hc 0 (by decide)
   have c1:=hc 1 (by decide)
   have c2:=hc 2 (by decide)
   have c3:=hc 3 (by decide)
   have c4:=hc 4 (by decide)
   have c5:=hc 5 (by decide)
   have c6:=hc 6 (by decide)
   have c7:=hc 7 (by decide)
   have hdr:=HOK.out d (List.mem_of_getElem? hx)
   have htk:ds.take (i+1)=ds.take i++[d]:=by rw[List.take_add_one,hx];rfl
   have hsn:rep σ (ds.take (i+1))=doD ρ d:=by rw[htk,rep_snoc HREP.out]
   have hbw:b < wr.heap.size:=by omega
   obtain⟨o,p,k,vl,r,g,at0,bk⟩:=d
   simp[Dd.cells] at c0 c1 c2 c3 c4 c5 c6 c7
   have hkey:k=0:=hdr.key
   subst hkey hat
   have HX:=hid hx
   have HS:=hid hsn
   have HDR:=hid hdr
   clear hc hx hsn htk hdr
   by_cases hr0:r=0
   ·subst hr0
    go_wp2_with fail
    go_roundw
    case rel=>
     have hb:=HB.out.alloc (show w.heap.size≤wr.heap.size by omega) (.cells #[.int .i64 o,.int .i64 p,.int .i64 0,.int .i64 vl,.int .i64 0,.int .i64 g,.int .i64 at0,.int .i64 bk] 291)
     refine⟨i+1,_,ρ,by omega,by go_num,by rw[HS.out];simp[doD],row_old Q0.out,row_old Q1.out,OwnF.alloc HO.out _,hb,by simp;omega,HU.out⟩
    case measure=>simp[intOf];omega
   ·have q1:(r==0)=false:=by simpa using hr0
    obtain⟨cc,hcc⟩:=Int.eq_ofNat_of_zero_le HDR.out.obj.1
    simp only at hcc
    subst hcc
    have hcl:cc < ρ.length:=by have:=HDR.out.obj.2;have:=HRL.out;simp only at *;omega
    obtain⟨x,hxx⟩:∃x,ρ[cc]?=some x:=⟨_,List.getElem?_eq_getElem hcl⟩
    have hdo:=doD_R HDR.out hr0 rfl hxx
    have hop:=HDR.out.op
    simp only at hdo hop
    have hDo:=fun(X:World) (hX:SlS X X.heap.size (.slice au ρ.length cu) ρ)=>st_Do _ ρ cc x p vl X hX (by have:=HRL.out;omega) hxx hop
    generalize doR x p vl=D at *
    obtain⟨D1,D2,D3⟩:=D
    simp only at hdo
    have HDO:=hid hdo
    have y0:=row_cell Q0.out 0
    simp at y0
    have y0l:=row_lt Q0.out
    obtain⟨W2,rfl⟩:∃W2,W2=wr:=⟨_,rfl⟩
    clear hdo hop hxx
    go_wp2_with fail
    have b2:Below W2.heap.size W2 (W2.alloc (.cells #[.int .i64 (cc:Int),.int .i64 p,.int .i64 0,.int .i64 vl,.int .i64 r,.int .i64 g,.int .i64 at0,.int .i64 bk] 291)):=(Below.refl _ W2).alloc (Nat.le_refl _) _
    have rd:=row_new W2 (.cells #[.int .i64 (cc:Int),.int .i64 p,.int .i64 0,.int .i64 vl,.int .i64 r,.int .i64 g,.int .i64 at0,.int .i64 bk] 291)
    have zd:W2.heap.size < (W2.alloc (.cells #[.int .i64 (cc:Int),.int .i64 p,.int .i64 0,.int .i64 vl,.int .i64 r,.int .i64 g,.int .i64 at0,.int .i64 bk] 291)).heap.size:=by simp
    generalize W2.alloc (.cells #[.int .i64 (cc:Int),.int .i64 p,.int .i64 0,.int .i64 vl,.int .i64 r,.int .i64 g,.int .i64 at0,.int .i64 bk] 291)=W3 at *
    refine(hDo W3 (((OwnF.sl HO.out).below b2).more b2.size)).mono ?_
    rintro e W4 ⟨v',rfl,o4,b4⟩
    obtain⟨a',c',rfl,-⟩:=(OwnF.sl o4).ex
    have rd:=row_below rd b4 zd
    have y:=row_cell rd
    have e0:=y 0
    have e1:=y 1
    have e2:=y 2
    have e3:=y 3
    have e4:=y 4
    have e5:=y 5
    have e6:=y 6
    have e7:=y 7
    simp at e0 e1 e2 e3 e4 e5 e6 e7
    have b5:Below W2.heap.size W2 W4:=b2.trans (b4.mono b2.size)
    have hz5:=b5.size
    have rdl:=row_lt rd
    have O4:=hid o4
    have B5:=hid b5
    clear y rd b2 b4 b5 o4
    by_cases hfit:D2=r∧D3=g
    ·have hdo:=HDO.out
     rw[if_pos hfit] at hdo
     obtain⟨rfl,rfl⟩:=hfit
     go_wp2_with fail
     have b6:Below W4.heap.size W4 (W4.alloc (.cells #[.slice a' ρ.length c'] 46)):=(Below.refl _ W4).alloc (Nat.le_refl _) _
     have r6:=row_new W4 (.cells #[.slice a' ρ.length c'] 46)
     have z6:W4.heap.size < (W4.alloc (.cells #[.slice a' ρ.length c'] 46)).heap.size:=by simp
     generalize W4.alloc (.cells #[.slice a' ρ.length c'] 46)=W5 at *
     refine(pl_fits_yes ⟨cc,p,0,vl,D2,D3,at0,bk⟩ W5).mono ?_
     rintro e W6 ⟨rfl,b7⟩
     have r7:=row_below r6 b7 z6
     have f0:=row_cell r7 0
     simp at f0
     have f0l:=row_lt r7
     have b8:Below W2.heap.size W2 W6:=B5.out.trans ((b6.mono hz5).trans (b7.mono (by omega)))
     have q0:=row_below Q0.out b8 y0l
     have q1:=row_below Q1.out b8 (row_lt Q1.out)
     have p0:=row_cell q0 0
     simp at p0
     have p0f:=row_free q0 0
     have p0l:=row_lt q0
     have hq0:=row_set q0 0 (.slice a' ρ.length c')
     have hq1:=row_other (g':=w.heap.size) (j:=0) (v:=.slice a' ρ.length c') q1 (by omega)
     have o8:=OwnF.below (OwnF.below O4.out b6) b7
     have o9:=OwnF.other (j:=0) o8 (OwnF.neT o8 q0 (by decide)) (.slice a' ρ.length c')
     have B9:=hid ((HB.out.trans (b8.mono (by omega))).setCell (p:=⟨w.heap.size,0,none⟩) (Nat.le_refl _) (.slice a' ρ.length c'))
     have hz9:=b8.size
     have Q0':=hid hq0
     have Q1':=hid hq1
     have O9:=hid o9
     clear r6 r7 b6 b7 b8 q0 q1 hq0 hq1 o8 o9
     go_wp2_with fail
     go_roundw
     case rel=>exact⟨i+1,.slice a' ρ.length c',ρ.set cc D1,by omega,by go_num,by rw[HS.out,hdo],Q0'.out,Q1'.out,by simpa using OwnF.base O9.out (Nat.zero_le _),B9.out,by simp;omega,.inr fun k e=>by have:=(OwnF.lt O9.out k (by rwa [List.length_set])).1;omega⟩
     case measure=>simp[intOf];omega
    ·have hdo:=HDO.out
     rw[if_neg hfit] at hdo
     go_wp2_with fail
     have b6:Below W4.heap.size W4 (W4.alloc (.cells #[.slice a' ρ.length c'] 46)):=(Below.refl _ W4).alloc (Nat.le_refl _) _
     generalize W4.alloc (.cells #[.slice a' ρ.length c'] 46)=W5 at *
     have hE5:ErrAt 15 W5:=((HE.out.below HB.out).below B5.out).below b6
     refine(pl_fits_no ⟨cc,p,0,vl,r,g,at0,bk⟩ D2 D3 hfit W5 hE5).mono ?_
     rintro e W6 ⟨⟨ty,va,rfl⟩,b7⟩
     have b8:Below W2.heap.size W2 W6:=B5.out.trans ((b6.mono hz5).trans (b7.mono (by have:=b6.size;omega)))
     have q1:=row_below Q1.out b8 (row_lt Q1.out)
     have p0:=row_cell q1 0
     simp at p0
     have p0f:=row_free q1 0
     have p0l:=row_lt q1
     have hq1:=row_set q1 0 (.slice none 0 0)
     have B9:=hid ((HB.out.trans (b8.mono (by omega))).setCell (p:=⟨w.heap.size+1,0,none⟩) (show w.heap.size≤w.heap.size+1 by omega) (.slice none 0 0))
     have Q1':=hid hq1
     clear b6 b7 b8 q1 hq1 hE5
     go_wp2_with fail
     have b10:=B9.out.alloc B9.out.size (.cells #[.int .i64 i,.iface ty va] 110)
     have c0:=row_cell (row_old (o:=.cells #[.int .i64 i,.iface ty va] 110) Q1'.out) 0
     simp at c0
     refine bodyPost_ret (v:=.tuple #[stV (.slice none 0 0),.iface 108 (.pointer (some ⟨W6.heap.size,0,none⟩))]) (by simp[results,Tryz.results121,go_sem,c0]) rfl ?_
     refine⟨?_,b10⟩
     rw[rep_none (HS.out.trans hdo)]
     exact⟨_,_,rfl⟩
  ·obtain rfl:i=ds.length:=by omega
   have q0:=row_cell Q0.out 0
   have q1:=row_cell Q1.out 0
   simp at q0 q1
   have q1f:=row_free Q1.out 0
   have ql0:=row_lt Q0.out
   have ql1:=row_lt Q1.out
   have hq1:=hid (row_set Q1.out 0 (.slice au ρ.length cu))
   go_wp2_with fail
   have c0:=row_cell hq1.out 0
   simp at c0
   refine bodyPost_ret (v:=.tuple #[stV (.slice au ρ.length cu),.nilIface]) (by simp[results,Tryz.results121,go_sem,c0]) rfl ?_
   have hrep:=HREP.out
   rw[List.take_length] at hrep
   refine⟨?_,HB.out.setCell (p:=⟨w.heap.size+1,0,none⟩) (show w.heap.size≤w.heap.size+1 by omega) _⟩
   rw[hrep]
   exact⟨_,rfl,OwnF.other (j:=0) HO.out (OwnF.neT HO.out Q1.out (by decide)) _,HU.out⟩
end
def mark (D:Nat):Deferred:={target:=.collected D,args:=#[]}
theorem below_put {B:Nat} (W:World) (l:Nat) (o:Obj) (hl:B≤l) (h:l < W.heap.size):Below B W (W.putObj l o):=
 (Below.refl B W).grown (grownBy_putObj' W l o) (by omega) (fun k e=>by cases e;omega)
structure KeepM (M:Obj→Prop) (L:Nat→Prop) (lo hb:Nat) (A B:World):Prop where
 base:Below 0 A B
 block:∀k O,L k∨lo≤k→k < hb→A.heap[k]?=some O→¬M O→B.heap[k]?=some O
theorem KeepM.size {M:Obj→Prop} {L:Nat→Prop} {lo hb:Nat} {A B:World} (h:KeepM M L lo hb A B):A.heap.size≤B.heap.size:=h.base.size
theorem KeepM.trans {M:Obj→Prop} {L:Nat→Prop} {lo hb:Nat} {A B C:World} (h:KeepM M L lo hb A B) (k:KeepM M L lo hb B C):KeepM M L lo hb A C:=⟨h.base.trans k.base,fun j O h1 h2 h3 h4=>k.block j O h1 h2 (h.block j O h1 h2 h3 h4) h4⟩
theorem KeepM.below {M:Obj→Prop} {L:Nat→Prop} {lo hb N:Nat} {A B:World} (h:Below N A B) (hN:hb≤N):KeepM M L lo hb A B:=⟨h.mono (Nat.zero_le _),fun k O _ hk hO _=>(h.block k (by omega)).trans hO⟩
theorem KeepM.set {M:Obj→Prop} {L:Nat→Prop} {lo hb g j:Nat} {A:World} (v:Value) (hg:g < lo∧¬L g∨hb≤g):KeepM M L lo hb A (A.setCell ⟨g,j,none⟩ v):=⟨(Below.refl 0 A).setCell (p:=⟨g,j,none⟩) (Nat.zero_le _) v,fun k O h1 h2 hO _=>(Below.heap_setCell _ _ _ _ (by
 show k≠g
 rintro rfl
 rcases hg with⟨h3,h4⟩|h3
 ·exact h1.elim h4 (by omega)
 ·omega)).trans hO⟩
theorem LeavesIn.fin {F:Fence} {n:Nat} {P:Program} {fn:Func} {tmps:Array Value} {R:Ending→World→Prop} {w:World} {v:Value} (h:(results fn tmps).run P w=.ok v w) (hR:R (.returned v) w):LeavesIn F n P fn tmps R [] .returning w:=⟨v,h,hR⟩
theorem leaves_mark1 {F:Fence} {n:Nat} {P:Program} {fn:Func} {tmps:Array Value} {R:Ending→World→Prop} {D:Nat} {w:World} (hd:w.heap[D]?=some (.deferred (some [])))
  (h:∀w',Below D w w'→(∀k,k≠D→w'.heap[k]?=w.heap[k]?)→LeavesIn F n P fn tmps R [] .returning w'):LeavesInM F n P fn tmps R [mark D] .returning w:=
 ⟨by simp,.inl ⟨D,_,rfl,run_takeDeferred hd,h _ (below_put w D _ (Nat.le_refl _) (Array.getElem?_eq_some_iff.1 hd).1) fun k hk=>World.putObj_heap_other hk⟩⟩
def IterC (P:Program) (M:Obj→Prop) (L:Nat→Prop) (Qs:(Nat→Prop)→Prop) (G:Array Value→Prop) (gf:Nat) (cs:Array Value) (m:Nat) (Pre Gd:World→Prop) (H:(Nat→Prop)→Nat→World→Nat→Array Value→Prop) (N:Nat):Prop:=
 ∀(l:Nat) (J Jx:(Nat→Prop)→Nat→World→Prop) (W:World),Pre W→(∀q i A,Qs q→J q i A→Gd A)→(∀q i A B,Qs q→J q i A→W.heap.size≤A.heap.size→Below W.heap.size A B→(∀k,k < A.heap.size→¬q k→B.heap[k]?=A.heap[k]?)→J q i B)→
  (∀q i A B,Qs q→Jx q i A→W.heap.size≤A.heap.size→Below W.heap.size A B→(∀k,k < A.heap.size→¬q k→B.heap[k]?=A.heap[k]?)→Jx q i B)→
  (∀(q:Nat→Prop) (i:Nat) (W1:World) (hb:Nat) (args:Array Value),i < N→Qs q→J q i W1→(∀k,q k→W.heap.size≤k∧k < hb)→W.heap.size≤hb→hb≤W1.heap.size→H q i W1 hb args→
   YieldAt Fence.wide m P l args W1 fun e W'=>(e=.returned (.bool true)∧(J q (i+1) W'∧KeepM M L W.heap.size hb W1 W')∧G args)∨(e=.returned (.bool false)∧Jx q (i+1) W'∧KeepM M L W.heap.size hb W1 W'))→
  (∀q,Qs q→(∀k,q k→W.heap.size≤k)→J q 0 W)→
  CallsIn Fence.wide (m+1) P gf (#[.func (.yield l) #[] #[]]++cs) W fun e W'=>(∃v,e=.returned v)∧∃q,Qs q∧(J q N W'∨∃i,0 < i∧i≤N∧Jx q i W')
def Lb (n0:Nat) (E:Nat→Prop):Nat→Prop:=fun k=>k < n0∧¬E k
def NoM (_:Obj):Prop:=False
theorem KeepM.more {n lo hb:Nat} {E:Nat→Prop} {w A B:World} (h:KeepM NoM (Lb n E) n n w A) (k:KeepM NoM (Lb n E) lo hb A B) (hn:n≤hb):KeepM NoM (Lb n E) n n w B:=
 ⟨h.base.trans k.base,fun j O h1 h2 h3 h4=>k.block j O (.inl (h1.resolve_right (by omega))) (by omega) (h.block j O h1 h2 h3 h4) h4⟩
theorem KeepM.row0 {E:Nat→Prop} {p n:Nat} {w w':World} {O:Obj} (hk:KeepM NoM (Lb n E) n n w w') (hn:n=w.heap.size) (h:w.heap[p]?=some O) (hp:¬E p):w'.heap[p]?=some O:=
 hk.block p O (.inl ⟨hn▸(Array.getElem?_eq_some_iff.1 h).1,hp⟩) (hn▸(Array.getElem?_eq_some_iff.1 h).1) h id
def roundM (g:Prop) (M:Obj→Prop) (L:Nat→Prop) (lo hb:Nat) (I:Nat→World→Prop) (Ix:Code→Nat→World→Prop) (i:Nat) (W:World):Exit→Act→World→Prop
 |.normal,_,W'=>(I i W'∧KeepM M L lo hb W W')∧g
 |.ret,_,W'=>Ix .ret i W'∧KeepM M L lo hb W W'
 |.exit id,_,W'=>Ix (.exit id) i W'∧KeepM M L lo hb W W'
 |.goto t,_,W'=>Ix (.goto t) i W'∧KeepM M L lo hb W W'
 |.panic _,_,_=>False
 |.outgrown,_,_=>False
theorem wpIn_range_ownC {P:Program} {M:Obj→Prop} {L:Nat→Prop} {Qs:(Nat→Prop)→Prop} {G:Array Value→Prop} {m gf N:Nat} {cs:Array Value} {Pre Gd:World→Prop} {H:(Nat→Prop)→Nat→World→Nat→Array Value→Prop} {g:Operand} {ps:Array Tmp} {assign body:Code} {Q:Exit→Act→World→Prop} {a:Act} {w:World}
  (hg:a.eval g=.func (.func gf) #[] cs) (eg:∀args w,(callFunc gf args).run P w=.ok (.enter gf args) w) (hL:∀k,L k→k < w.heap.size) (hit:IterC P M L Qs G gf cs m Pre Gd H N) (hps:∀q i W hb args,H q i W hb args→args.size=ps.size)
  (I:(Nat→Prop)→Nat→World→Prop) (Ix:(Nat→Prop)→Code→Nat→World→Prop) (hI:∀q i A B,Qs q→I q i A→w.heap.size≤A.heap.size→Below w.heap.size A B→(∀k,k < A.heap.size→k≠w.heap.size+1→¬q k→B.heap[k]?=A.heap[k]?)→I q i B) (hIx:∀q c i A B,Qs q→Ix q c i A→w.heap.size≤A.heap.size→Below w.heap.size A B→(∀k,k < A.heap.size→k≠w.heap.size+1→¬q k→B.heap[k]?=A.heap[k]?)→Ix q c i B)
  (hGd:∀q i A,Qs q→I q i A→Gd A) (h0:∀q,Qs q→(∀k,q k→w.heap.size+2≤k)→I q 0 w) (hpre:∀W,Below w.heap.size w W→Pre W) (hM1:∀r,¬M (.loop r)) (hM2:∀d,¬M (.deferred d))
  (hround:∀(q:Nat→Prop) (i:Nat) (W1:World) (hb:Nat) (args:Array Value),i < N→Qs q→I q i W1→(∀k,q k→w.heap.size+2≤k∧k < hb)→w.heap.size+2≤hb→hb≤W1.heap.size→H q i W1 hb args→
   assign.wpIn (Fence.wide.inRound (w.heap.size+1)) m P (Exit.then (fun a₁ w₁=>Below W1.heap.size W1 w₁∧∀w₂,w₂.heap.size=w₁.heap.size→(∀k,k≠w.heap.size+1→w₂.heap[k]?=w₁.heap[k]?)→Below w.heap.size w₁ w₂→
    body.wpIn (Fence.wide.inRound (w.heap.size+1)) m P (roundM (G args) M L w.heap.size hb (I q) (Ix q) (i+1) w₂) a₁ w₂) (fun _ _ _=>False))
    {tmps:=(ps.zip args).foldl (fun t (p,v)=>t.setIfInBounds p v) a.tmps,defers:=[]} W1)
  (hdone:∀(q:Nat→Prop) (W:World),Qs q→I q N W→w.heap.size+2≤W.heap.size→W.heap[w.heap.size]?=some (.deferred (some []))→Q .normal {a with defers:=mark w.heap.size::a.defers} W)
  (hstop:∀(q:Nat→Prop) (c:Code) (i:Nat) (W:World),0 < i→i≤N→Qs q→Ix q c i W→w.heap.size+2≤W.heap.size→W.heap[w.heap.size]?=some (.deferred (some []))→c.wpIn Fence.wide (m+2) P Q {a with defers:=mark w.heap.size::a.defers} W):
  (Code.rangeFunc g ps assign body).wpIn Fence.wide (m+2) P Q a w:=by
 refine wpIn_rangeFunc ?_
 intro fn hfn
 obtain⟨rc,hrc⟩:∃rc:LoopState→Option Code→Loop,rc=fun st pe=>{state:=st,pending:=pe,fn,tmps:=a.tmps,params:=ps,assign,body,defers:=w.heap.size}:=⟨_,rfl⟩
 obtain⟨W0,hW0⟩:∃W0,(w.alloc (.deferred (some []))).alloc (.loop (rc .ready none))=W0:=⟨_,rfl⟩
 have s0:W0.heap.size=w.heap.size+2:=by rw[←hW0];simp
 have l0:W0.heap[w.heap.size+1]?=some (.loop (rc .ready none)):=by
  rw[←hW0];have:=World.alloc_heap_new (w.alloc (.deferred (some []))) (.loop (rc .ready none));rwa [World.size_alloc] at this
 have d0:W0.heap[w.heap.size]?=some (.deferred (some [])):=by
  rw[←hW0];exact(Below.heap_alloc _ _ _ (by simp)).trans (World.alloc_heap_new w _)
 have b0:Below w.heap.size w W0:=by rw[←hW0];exact((Below.refl _ w).alloc (Nat.le_refl _) _).alloc (by simp) _
 refine⟨w.heap.size+1,[mark w.heap.size],W0,{target:=.fn (.func gf) cs,args:=#[.func (.yield (w.heap.size+1)) #[] #[]]},W0,gf,#[.func (.yield (w.heap.size+1)) #[] #[]]++cs,W0,?_,?_,?_,?_,fun _=>by omega,?_⟩
 ·rw [←hW0,hrc];exact run_enterLoop_outer _ _ _ _ _
 ·simp only[resolve,hg]
  simp[go_sem]
 ·exact fun _ _=>trivial
 ·simp [invoke,go_sem,eg]
 ·have hK:∀{A B:World},Below A.heap.size A B→w.heap.size+2≤A.heap.size→∀{k:Nat} {o:Obj},k < w.heap.size+2→A.heap[k]?=some o→B.heap[k]?=some o:=
   fun hb hs k o hk h=>(hb.block k (by omega)).trans h
  refine CallsIn.mono (hit (w.heap.size+1)
   (fun q i W=>I q i W∧w.heap.size+2≤W.heap.size∧W.heap[w.heap.size+1]?=some (.loop (rc .ready none))∧W.heap[w.heap.size]?=some (.deferred (some [])))
   (fun q i W=>∃c,Ix q c i W∧w.heap.size+2≤W.heap.size∧W.heap[w.heap.size+1]?=some (.loop (rc .done (some c)))∧W.heap[w.heap.size]?=some (.deferred (some [])))
   W0 (hpre _ b0) (fun q i A hQ h=>hGd q i A hQ h.1) ?_ ?_ ?_ (fun q hQ hq=>⟨hI _ _ _ _ hQ (h0 q hQ fun k hk=>s0▸hq k hk) (Nat.le_refl _) b0 (fun k hk _ _=>b0.block k hk),by omega,l0,d0⟩)) ?_
  ·rintro q i A B hQ ⟨h1,h2,h3,h4⟩ hs hb he
   exact⟨hI _ _ _ _ hQ h1 (by omega) (hb.mono (by omega)) (fun k hk _ hT=>he k hk hT),by have:=hb.size;omega,(hb.block _ (by omega)).trans h3,(hb.block _ (by omega)).trans h4⟩
  ·rintro q i A B hQ ⟨c,h1,h2,h3,h4⟩ hs hb he
   exact⟨c,hIx _ _ _ _ _ hQ h1 (by omega) (hb.mono (by omega)) (fun k hk _ hT=>he k hk hT),by have:=hb.size;omega,(hb.block _ (by omega)).trans h3,(hb.block _ (by omega)).trans h4⟩
  ·rintro q i W1 hb args hi hQ ⟨h1,h2,h3,h4⟩ hq hlo hhi hH
   have hlt:w.heap.size+1 < W1.heap.size:=by omega
   have hy:=run_yield (P:=P) (args:=args) h3 (by rw[hrc];exact hps _ _ _ _ _ hH)
   rw[hrc] at hy
   refine⟨fn,_,assign,body,hy,roundIn_of_wpIn hfn ?_⟩
   refine wpIn_mono (hround q i W1 hb args hi hQ h1 (fun k hk=>s0▸hq k hk) (by omega) hhi hH) ?_
   intro e a1 w1 he
   cases e with
   |normal=>
    obtain⟨hb1,hbody⟩:=he
    have sz1:=hb1.size
    have r1:w1.heap[w.heap.size+1]?=some (.loop (rc .ready none)):=hK hb1 h2 (by omega) h3
    have r2:w1.heap[w.heap.size]?=some (.deferred (some [])):=hK hb1 h2 (by omega) h4
    refine⟨_,run_beginRound r1 (by rw[hrc]),?_⟩
    obtain⟨w2,hw2⟩:∃w2,w1.putObj (w.heap.size+1) (.loop {rc .ready none with state:=.busy})=w2:=⟨_,rfl⟩
    have q1:w2.heap[w.heap.size+1]?=some (.loop {rc .ready none with state:=.busy}):=by rw[←hw2];exact World.putObj_heap_same (by omega)
    have q2:∀k,k≠w.heap.size+1→w2.heap[k]?=w1.heap[k]?:=fun k hk=>by rw[←hw2];exact World.putObj_heap_other hk
    have q3:w2.heap.size=w1.heap.size:=by rw[←hw2];simp[World.putObj]
    have q4:Below w.heap.size w1 w2:=by rw[←hw2];exact below_put w1 _ _ (by omega) (by omega)
    have q5:=(q2 w.heap.size (by omega)).trans r2
    rw[hw2]
    refine wpIn_mono (hbody w2 q3 q2 q4) ?_
    have fin:∀(jump:Option Code) (W3:World),KeepM M L w.heap.size hb w2 W3→
      (Instr.endRound (w.heap.size+1) jump).run P W3=.ok (.bool jump.isNone) (W3.putObj (w.heap.size+1) (.loop (rc (if jump.isNone then .ready else .done) jump)))∧
      w.heap.size+2≤W3.heap.size∧Below w.heap.size W3 (W3.putObj (w.heap.size+1) (.loop (rc (if jump.isNone then .ready else .done) jump)))∧
      (W3.putObj (w.heap.size+1) (.loop (rc (if jump.isNone then .ready else .done) jump))).heap[w.heap.size+1]?=some (.loop (rc (if jump.isNone then .ready else .done) jump))∧
      (W3.putObj (w.heap.size+1) (.loop (rc (if jump.isNone then .ready else .done) jump))).heap[w.heap.size]?=some (.deferred (some [])):=fun jump W3 hk3=>by
     have t1:W3.heap[w.heap.size+1]?=some (.loop {rc .ready none with state:=.busy}):=hk3.block _ _ (.inr (by omega)) (by omega) q1 (hM1 _)
     have t2:W3.heap[w.heap.size]?=some (.deferred (some [])):=hk3.block _ _ (.inr (by omega)) (by omega) q5 (hM2 _)
     have t3:=hk3.size
     have t4:=run_endRound (P:=P) jump t1
     rw[hrc] at t4 ⊢
     exact⟨t4,by omega,below_put W3 _ _ (by omega) (by omega),World.putObj_heap_same (by omega),(World.putObj_heap_other (by omega)).trans t2⟩
    have keep:∀(W3:World) (o:Obj),KeepM M L w.heap.size hb w2 W3→Below w.heap.size W3 (W3.putObj (w.heap.size+1) o)→
      KeepM M L W0.heap.size hb W1 (W3.putObj (w.heap.size+1) o):=fun W3 o hk hs=>by
     refine⟨(((hb1.mono (Nat.zero_le _)).trans (q4.mono (Nat.zero_le _))).trans hk.base).trans (hs.mono (Nat.zero_le _)),fun k O hk1 hk2 hO hMO=>?_⟩
     rw[s0] at hk1
     have hk0:k≠w.heap.size+1:=hk1.elim (fun h=>by have:=hL k h;omega) (fun h=>by omega)
     exact(World.putObj_heap_other hk0).trans (hk.block k O (hk1.imp id fun h=>by omega) hk2 ((q2 k hk0).trans ((hb1.block k (by omega)).trans hO)) hMO)
    rintro e a3 W3 hp
    cases e with
    |normal=>
     obtain⟨⟨hi3,hk3⟩,hg3⟩:=hp
     obtain⟨hr,f1,f2,f3,f4⟩:=fin none W3 hk3
     exact⟨_,_,hr,.inl ⟨rfl,⟨⟨hI _ _ _ _ hQ hi3 (by omega) f2 (fun k _ hk _=>World.putObj_heap_other hk),by simp[World.putObj];omega,f3,f4⟩,keep W3 _ hk3 f2⟩,hg3⟩⟩
    |ret=>
     obtain⟨hi3,hk3⟩:=hp
     obtain⟨hr,f1,f2,f3,f4⟩:=fin (some .ret) W3 hk3
     exact⟨_,_,hr,.inr ⟨rfl,⟨_,hIx _ _ _ _ _ hQ hi3 (by omega) f2 (fun k _ hk _=>World.putObj_heap_other hk),by simp[World.putObj];omega,f3,f4⟩,keep W3 _ hk3 f2⟩⟩
    |exit id=>
     obtain⟨hi3,hk3⟩:=hp
     obtain⟨hr,f1,f2,f3,f4⟩:=fin (some (.exit id)) W3 hk3
     exact⟨_,_,hr,.inr ⟨rfl,⟨_,hIx _ _ _ _ _ hQ hi3 (by omega) f2 (fun k _ hk _=>World.putObj_heap_other hk),by simp[World.putObj];omega,f3,f4⟩,keep W3 _ hk3 f2⟩⟩
    |goto t=>
     obtain⟨hi3,hk3⟩:=hp
     obtain⟨hr,f1,f2,f3,f4⟩:=fin (some (.goto t)) W3 hk3
     exact⟨_,_,hr,.inr ⟨rfl,⟨_,hIx _ _ _ _ _ hQ hi3 (by omega) f2 (fun k _ hk _=>World.putObj_heap_other hk),by simp[World.putObj];omega,f3,f4⟩,keep W3 _ hk3 f2⟩⟩
    |panic ch=>exact hp.elim
    |outgrown=>exact hp.elim
   |ret=>exact he.elim
   |exit id=>exact he.elim
   |goto t=>exact he.elim
   |panic ch=>exact he.elim
   |outgrown=>exact he.elim
  ·rintro e W2 ⟨⟨v,rfl⟩,q,hQ,(⟨h1,h2,h3,h4⟩|⟨i,hi0,hi1,c,h1,h2,h3,h4⟩)⟩
   ·exact ⟨none,_,by have:=run_endLoop (P:=P) h3 (by rw[hrc];simp);rw[hrc] at this;exact this,
     hdone q _ hQ (hI _ _ _ _ hQ h1 (by omega) (below_put W2 _ _ (by omega) (by omega)) (fun k _ hk _=>World.putObj_heap_other hk)) (by simp[World.putObj];omega) ((World.putObj_heap_other (by omega)).trans h4)⟩
   ·exact ⟨some c,_,by have:=run_endLoop (P:=P) h3 (by rw[hrc];simp);rw[hrc] at this;exact this,
     hstop q c i _ hi0 hi1 hQ (hIx _ _ _ _ _ hQ h1 (by omega) (below_put W2 _ _ (by omega) (by omega)) (fun k _ hk _=>World.putObj_heap_other hk)) (by simp[World.putObj];omega) ((World.putObj_heap_other (by omega)).trans h4)⟩
