/- Parts of the proof, merged by program out of 2 texts (StD, SeA): the first: A transaction's deeds done again. Conditions: those of each theorem, as typed. -/
import Derived.Test.YtkfhgifhfkcehaaGreatDoorQL26
import Derived.Test.YtkfhgifhfkcehaaGreatDoorQL21
import Derived.Test.YtkfhgifhfkcehaaGreatDoorQL30
set_option linter.unusedVariables false
set_option linter.unusedSimpArgs false
set_option linter.unusedSectionVars false
set_option maxRecDepth 100000
set_option maxHeartbeats 4000000
namespace Go.Proofs.YtkfhgifhfkcehaaGreatDoor
open Go.Maps Go.RowKit
section
attribute [local irreducible] wpL
def ErrAt (g:Nat) (w:World):Prop:=g < w.heap.size∧∃t v,w.cell? ⟨g,0,none⟩=some (.iface t v)
theorem ErrAt.below {g:Nat} {w w':World} (h:ErrAt g w) (hb:Below w.heap.size w w'):ErrAt g w':=by
 obtain⟨h1,t,v,h2⟩:=h
 exact⟨by have:=hb.size;omega,t,v,cell_below hb h1 h2⟩
structure DdR (m:Nat) (d:Dd):Prop where
 obj:0≤d.obj∧d.obj < m
 op:d.op=1∧d.val=0∨d.op=2∧-1000000000≤d.val∧d.val≤1000000000
 key:d.key=0
theorem doD_R {ρ:List Int} {d:Dd} {m c:Nat} {x:Int} (h:DdR m d) (hr:d.ret≠0) (hc:d.obj=c) (hx:ρ[c]?=some x):
  doD ρ d=if (doR x d.op d.val).2.1=d.ret∧(doR x d.op d.val).2.2=d.got then some (ρ.set c (doR x d.op d.val).1) else none:=by
 unfold doD doR
 rw[if_neg hr,hc,Int.toNat_natCast]
 rcases h.op with⟨h1,h2⟩|⟨h1,h2⟩
 ·have:¬d.op=2:=by omega
  rw[if_neg this,if_neg this,hx]
  have hs:ρ.set c x=ρ:=by
   apply List.ext_getElem?
   intro j
   by_cases e:c=j
   ·subst e;rw[List.getElem?_set_self (List.getElem?_eq_some_iff.1 hx).1,hx]
   ·rw [List.getElem?_set_ne e]
  simp only[hs,Option.some.injEq]
  by_cases h3:d.ret=3
  ·by_cases h4:x=d.got
   ·rw [if_pos ⟨h3,h4⟩,if_pos ⟨h3.symm,h4⟩]
   ·rw [if_neg (fun h=>h4 h.2),if_neg (fun h=>h4 h.2)]
  ·rw [if_neg (fun h=>h3 h.1),if_neg (fun h=>h3 h.1.symm)]
 ·rw [if_pos h1,if_pos h1]
  by_cases h3:d.ret=1∧d.got=0
  ·rw [if_pos h3,if_pos ⟨h3.1.symm,h3.2.symm⟩]
  ·rw [if_neg h3,if_neg (fun h=>h3 ⟨h.1.symm,h.2.symm⟩)]
theorem pl_fits_yes (d:Dd) (w:World):
  Calls Tryz.prog 172 #[.agg d.cells.toArray,.int .i64 d.ret,.int .i64 d.got] w fun e w'=>e=.returned .nilIface∧Below w.heap.size w w':=by
 obtain⟨o,p,k,v,r,g,a,b⟩:=d
 have b0:Below w.heap.size w (w.alloc (.cells #[.int .i64 o,.int .i64 p,.int .i64 k,.int .i64 v,.int .i64 r,.int .i64 g,.int .i64 a,.int .i64 b] 291)):=(Below.refl _ w).alloc (Nat.le_refl _) _
 have q1:(r !=r)=false:=by simp
 have q2:(g !=g)=false:=by simp
 simp only[Dd.cells]
 go_enter Tryz.func172,Tryz.ntmps172
 go_wp2
 go_ret
 exact⟨rfl,b0⟩
theorem pl_fits_no (d:Dd) (ret got:Int) (hne:¬(ret=d.ret∧got=d.got)) (w:World) (hE:ErrAt 15 w):
  Calls Tryz.prog 172 #[.agg d.cells.toArray,.int .i64 ret,.int .i64 got] w fun e w'=>(∃t v,e=.returned (.iface t v))∧Below w.heap.size w w':=by
 obtain⟨hg,ty,va,hv⟩:=hE
 obtain⟨o,p,k,v,r,g,a,b⟩:=d
 have b0:Below w.heap.size w (w.alloc (.cells #[.int .i64 o,.int .i64 p,.int .i64 k,.int .i64 v,.int .i64 r,.int .i64 g,.int .i64 a,.int .i64 b] 291)):=(Below.refl _ w).alloc (Nat.le_refl _) _
 simp only[Dd.cells] at hne ⊢
 by_cases h1:ret=r
 ·have q1:(ret !=r)=false:=by simpa using h1
  have q2:(got !=g)=true:=by simpa using fun h2=>hne ⟨h1,h2⟩
  clear h1 hne
  go_enter Tryz.func172,Tryz.ntmps172
  go_wp2
  go_ret
  exact⟨⟨ty,va,rfl⟩,b0⟩
 ·have q1:(ret !=r)=true:=by simpa using h1
  clear h1 hne
  go_enter Tryz.func172,Tryz.ntmps172
  go_wp2
  go_ret
  exact⟨⟨ty,va,rfl⟩,b0⟩
theorem rep_none {σ:List Int} {ds:List Dd} {k:Nat} (h:rep σ (ds.take k)=none):rep σ ds=none:=by
 rw[←List.take_append_drop k ds,rep_app,h]
def PlPost (w:World) (o:Option (List Int)) (e:Ending) (w':World):Prop:=(match o with
 |some τ=>∃v',e=.returned (.tuple #[stV v',.nilIface])∧OwnS w' 0 v' τ
 |none=>∃t v,e=.returned (.tuple #[stV (.slice none 0 0),.iface t v]))∧Below w.heap.size w w'
theorem pl_Run (v dv:Value) (σ:List Int) (ds:List Dd) (w:World) (h:OwnS w 0 v σ) (hl:σ.length≤1000) (hd:Sl w w.heap.size 8 dv ds.length (ds.flatMap Dd.cells)) (hok:∀d ∈ ds,DdR σ.length d) (hE:ErrAt 15 w):
  Calls Tryz.prog 121 #[stV v,dv] w (PlPost w (rep σ ds)):=by
 obtain⟨a,c,rfl,hm⟩:=(OwnF.sl h).ex
 obtain⟨ad,cd,rfl,md⟩:=hd.ex
 have b0:Below w.heap.size w ((w.alloc (.cells #[.slice a σ.length c] 46)).alloc (.cells #[.slice none 0 0] 46)):=((Below.refl _ w).alloc (Nat.le_refl _) _).alloc (by simp) _
 have r0:=row_old (o:=.cells #[.slice none 0 0] 46) (row_new w (.cells #[.slice a σ.length c] 46))
 have r1:=row_new (w.alloc (.cells #[.slice a σ.length c] 46)) (.cells #[.slice none 0 0] 46)
 have hz:((w.alloc (.cells #[.slice a σ.length c] 46)).alloc (.cells #[.slice none 0 0] 46)).heap.size=w.heap.size+2:=by simp
 simp only[World.size_alloc] at r1
 obtain⟨n0,hn0⟩:∃n0,n0=w.heap.size:=⟨_,rfl⟩
 go_enter Tryz.func121,Tryz.ntmps121
 go_wp2_with fail
 generalize (w.alloc (.cells #[.slice a σ.length c] 46)).alloc (.cells #[.slice none 0 0] 46)=W at *
 have R0:=hid r0
 have R1:=hid r1
 have B0:=hid b0
 have H:=hid h
 have HD:=hid hd
 have HOK:=hid hok
 have HE:=hid hE
 clear r0 r1 b0 h hd hok hE
 go_loopw [14] (fun p wr=>∃(i:Nat) (u:Value) (ρ:List Int),i≤ds.length∧p=.int .i64 i∧rep σ (ds.take i)=some ρ∧wr.heap[w.heap.size]?=some (.cells #[u] 46 (0,0))∧wr.heap[w.heap.size+1]?=some (.cells #[.slice none 0 0] 46 (0,0))∧OwnS wr 0 u ρ∧Below w.heap.size w wr∧W.heap.size≤wr.heap.size) (fun p _=>ds.length - (intOf p).toNat)
 case atStart=>exact⟨0,_,σ,by omega,by go_num,rfl,R0.out,R1.out,OwnF.below H.out B0.out,B0.out,Nat.le_refl _⟩
 case round=>
  obtain⟨i,u,ρ,hi,rfl,hrep,q0,q1,ho,hB,hz2⟩:=hrel
  have hρl:=rep_len hrep
  obtain⟨au,cu,rfl,-⟩:=(OwnF.sl ho).ex
  have HRL:=hid hρl
  have HREP:=hid hrep
  have HO:=hid ho
  have HB:=hid hB
  have Q0:=hid q0
  have Q1:=hid q1
  clear hrep ho hB q0 q1 hρl
  by_cases hlt:i < ds.length
  ·obtain ⟨b,off,d,hat,hb,hx,hc⟩:=(HD.out.below HB.out).atF Dd.len rfl hlt
   have c0:=hc 0 (by decide)
   have c1:=hc 1 (by decide)
   have c2:=hc 2 (by decide)
   have c3:=hc 3 (by decide)
   have c4:=hc 4 (by decide)
   have c5:=hc 5 (by decide)
   have c6:=hc 6 (by decide)
   have c7:=hc 7 (by decide)
   have hdr:=HOK.out d (List.mem_of_getElem? hx)
   have htk:ds.take (i+1)=ds.take i++[d]:=by rw[List.take_add_one,hx];rfl
   have hsn:rep σ (ds.take (i+1))=doD ρ d:=by rw[htk,rep_snoc HREP.out]
   have hbw:b < wr.heap.size:=by omega
   obtain⟨o,p,k,vl,r,g,at0,bk⟩:=d
   simp[Dd.cells] at c0 c1 c2 c3 c4 c5 c6 c7
   have hkey:k=0:=hdr.key
   subst hkey hat
   have HX:=hid hx
   have HS:=hid hsn
   have HDR:=hid hdr
   clear hc hx hsn htk hdr
   by_cases hr0:r=0
   ·subst hr0
    go_wp2_with fail
    go_roundw
    case rel=>
     have hb:=HB.out.alloc (show w.heap.size≤wr.heap.size by omega) (.cells #[.int .i64 o,.int .i64 p,.int .i64 0,.int .i64 vl,.int .i64 0,.int .i64 g,.int .i64 at0,.int .i64 bk] 291)
     refine⟨i+1,_,ρ,by omega,by go_num,by rw[HS.out];simp[doD],row_old Q0.out,row_old Q1.out,OwnF.alloc HO.out _,hb,by simp;omega⟩
    case measure=>simp[intOf];omega
   ·have q1:(r==0)=false:=by simpa using hr0
    obtain⟨cc,hcc⟩:=Int.eq_ofNat_of_zero_le HDR.out.obj.1
    simp only at hcc
    subst hcc
    have hcl:cc < ρ.length:=by have:=HDR.out.obj.2;have:=HRL.out;simp only at *;omega
    obtain⟨x,hxx⟩:∃x,ρ[cc]?=some x:=⟨_,List.getElem?_eq_getElem hcl⟩
    have hdo:=doD_R HDR.out hr0 rfl hxx
    have hop:=HDR.out.op
    simp only at hdo hop
    have hDo:=fun(X:World) (hX:SlS X X.heap.size (.slice au ρ.length cu) ρ)=>st_Do _ ρ cc x p vl X hX (by have:=HRL.out;omega) hxx hop
    generalize doR x p vl=D at *
    obtain⟨D1,D2,D3⟩:=D
    simp only at hdo
    have HDO:=hid hdo
    have y0:=row_cell Q0.out 0
    simp at y0
    have y0l:=row_lt Q0.out
    obtain⟨W2,rfl⟩:∃W2,W2=wr:=⟨_,rfl⟩
    clear hdo hop hxx
    go_wp2_with fail
    have b2:Below W2.heap.size W2 (W2.alloc (.cells #[.int .i64 (cc:Int),.int .i64 p,.int .i64 0,.int .i64 vl,.int .i64 r,.int .i64 g,.int .i64 at0,.int .i64 bk] 291)):=(Below.refl _ W2).alloc (Nat.le_refl _) _
    have rd:=row_new W2 (.cells #[.int .i64 (cc:Int),.int .i64 p,.int .i64 0,.int .i64 vl,.int .i64 r,.int .i64 g,.int .i64 at0,.int .i64 bk] 291)
    have zd:W2.heap.size < (W2.alloc (.cells #[.int .i64 (cc:Int),.int .i64 p,.int .i64 0,.int .i64 vl,.int .i64 r,.int .i64 g,.int .i64 at0,.int .i64 bk] 291)).heap.size:=by simp
    generalize W2.alloc (.cells #[.int .i64 (cc:Int),.int .i64 p,.int .i64 0,.int .i64 vl,.int .i64 r,.int .i64 g,.int .i64 at0,.int .i64 bk] 291)=W3 at *
    refine(hDo W3 (((OwnF.sl HO.out).below b2).more b2.size)).mono ?_
    rintro e W4 ⟨v',rfl,o4,b4⟩
    obtain⟨a',c',rfl,-⟩:=(OwnF.sl o4).ex
    have rd:=row_below rd b4 zd
    have y:=row_cell rd
    have e0:=y 0
    have e1:=y 1
    have e2:=y 2
    have e3:=y 3
    have e4:=y 4
    have e5:=y 5
    have e6:=y 6
    have e7:=y 7
    simp at e0 e1 e2 e3 e4 e5 e6 e7
    have b5:Below W2.heap.size W2 W4:=b2.trans (b4.mono b2.size)
    have hz5:=b5.size
    have rdl:=row_lt rd
    have O4:=hid o4
    have B5:=hid b5
    clear y rd b2 b4 b5 o4
    by_cases hfit:D2=r∧D3=g
    ·have hdo:=HDO.out
     rw[if_pos hfit] at hdo
     obtain⟨rfl,rfl⟩:=hfit
     go_wp2_with fail
     have b6:Below W4.heap.size W4 (W4.alloc (.cells #[.slice a' ρ.length c'] 46)):=(Below.refl _ W4).alloc (Nat.le_refl _) _
     have r6:=row_new W4 (.cells #[.slice a' ρ.length c'] 46)
     have z6:W4.heap.size < (W4.alloc (.cells #[.slice a' ρ.length c'] 46)).heap.size:=by simp
     generalize W4.alloc (.cells #[.slice a' ρ.length c'] 46)=W5 at *
     refine(pl_fits_yes ⟨cc,p,0,vl,D2,D3,at0,bk⟩ W5).mono ?_
     rintro e W6 ⟨rfl,b7⟩
     have r7:=row_below r6 b7 z6
     have f0:=row_cell r7 0
     simp at f0
     have f0l:=row_lt r7
     have b8:Below W2.heap.size W2 W6:=B5.out.trans ((b6.mono hz5).trans (b7.mono (by omega)))
     have q0:=row_below Q0.out b8 y0l
     have q1:=row_below Q1.out b8 (row_lt Q1.out)
     have p0:=row_cell q0 0
     simp at p0
     have p0f:=row_free q0 0
     have p0l:=row_lt q0
     have hq0:=row_set q0 0 (.slice a' ρ.length c')
     have hq1:=row_other (g':=w.heap.size) (j:=0) (v:=.slice a' ρ.length c') q1 (by omega)
     have o8:=OwnF.below (OwnF.below O4.out b6) b7
     have o9:=OwnF.other (j:=0) o8 (OwnF.neT o8 q0 (by decide)) (.slice a' ρ.length c')
     have B9:=hid ((HB.out.trans (b8.mono (by omega))).setCell (p:=⟨w.heap.size,0,none⟩) (Nat.le_refl _) (.slice a' ρ.length c'))
     have hz9:=b8.size
     have Q0':=hid hq0
     have Q1':=hid hq1
     have O9:=hid o9
     clear r6 r7 b6 b7 b8 q0 q1 hq0 hq1 o8 o9
     go_wp2_with fail
     go_roundw
     case rel=>exact⟨i+1,.slice a' ρ.length c',ρ.set cc D1,by omega,by go_num,by rw[HS.out,hdo],Q0'.out,Q1'.out,by simpa using OwnF.base O9.out (Nat.zero_le _),B9.out,by simp;omega⟩
     case measure=>simp[intOf];omega
    ·have hdo:=HDO.out
     rw[if_neg hfit] at hdo
     go_wp2_with fail
     have b6:Below W4.heap.size W4 (W4.alloc (.cells #[.slice a' ρ.length c'] 46)):=(Below.refl _ W4).alloc (Nat.le_refl _) _
     generalize W4.alloc (.cells #[.slice a' ρ.length c'] 46)=W5 at *
     have hE5:ErrAt 15 W5:=((HE.out.below HB.out).below B5.out).below b6
     refine(pl_fits_no ⟨cc,p,0,vl,r,g,at0,bk⟩ D2 D3 hfit W5 hE5).mono ?_
     rintro e W6 ⟨⟨ty,va,rfl⟩,b7⟩
     have b8:Below W2.heap.size W2 W6:=B5.out.trans ((b6.mono hz5).trans (b7.mono (by have:=b6.size;omega)))
     have q1:=row_below Q1.out b8 (row_lt Q1.out)
     have p0:=row_cell q1 0
     simp at p0
     have p0f:=row_free q1 0
     have p0l:=row_lt q1
     have hq1:=row_set q1 0 (.slice none 0 0)
     have B9:=hid ((HB.out.trans (b8.mono (by omega))).setCell (p:=⟨w.heap.size+1,0,none⟩) (show w.heap.size≤w.heap.size+1 by omega) (.slice none 0 0))
     have Q1':=hid hq1
     clear b6 b7 b8 q1 hq1 hE5
     go_wp2_with fail
     have b10:=B9.out.alloc B9.out.size (.cells #[.int .i64 i,.iface ty va] 110)
     have c0:=row_cell (row_old (o:=.cells #[.int .i64 i,.iface ty va] 110) Q1'.out) 0
     simp at c0
     refine bodyPost_ret (v:=.tuple #[stV (.slice none 0 0),.iface 108 (.pointer (some ⟨W6.heap.size,0,none⟩))]) (by simp[results,Tryz.results121,go_sem,c0]) rfl ?_
     refine⟨?_,b10⟩
     rw[rep_none (HS.out.trans hdo)]
     exact⟨_,_,rfl⟩
  ·obtain rfl:i=ds.length:=by omega
   have q0:=row_cell Q0.out 0
   have q1:=row_cell Q1.out 0
   simp at q0 q1
   have q1f:=row_free Q1.out 0
   have ql0:=row_lt Q0.out
   have ql1:=row_lt Q1.out
   have hq1:=hid (row_set Q1.out 0 (.slice au ρ.length cu))
   go_wp2_with fail
   have c0:=row_cell hq1.out 0
   simp at c0
   refine bodyPost_ret (v:=.tuple #[stV (.slice au ρ.length cu),.nilIface]) (by simp[results,Tryz.results121,go_sem,c0]) rfl ?_
   have hrep:=HREP.out
   rw[List.take_length] at hrep
   refine⟨?_,HB.out.setCell (p:=⟨w.heap.size+1,0,none⟩) (show w.heap.size≤w.heap.size+1 by omega) _⟩
   rw[hrep]
   exact⟨_,rfl,OwnF.other (j:=0) HO.out (OwnF.neT HO.out Q1.out (by decide)) _⟩
end
section
attribute [local irreducible] wpL
def paC {m:Nat} (n:NdK m):List Value:=[.int .i64 (n.1.1:Nat),.string (keyB n.1.2)]
theorem paC_len {m:Nat} (n:NdK m):(paC n).length=2:=rfl
theorem infoPa:(Tryz.prog.info? 176).map (fun i=>(i.zero,i.size,i.bytes))=some (some (.agg #[.int .i64 0,.string ⟨#[]⟩]),2,24):=by kernel_rfl
theorem pa_one {m:Nat} (n:NdK m):∀u ∈ paC n,u.oneCell'=true:=by intro u hu;simp[paC] at hu;rcases hu with rfl|rfl <;> rfl
structure NR where
 p:Nat
 sv:Value
def NR.cells (r:NR):List Value:=[.int .i64 (r.p:Nat),r.sv]
theorem NR.len (r:NR):r.cells.length=2:=rfl
abbrev NR.val (r:NR):Value:=.agg #[.int .i64 (r.p:Nat),r.sv]
theorem infoNd:(Tryz.prog.info? 181).map (fun i=>(i.zero,i.size,i.bytes))=some (some (.agg #[.int .i64 0,.slice none 0 0]),2,32):=by kernel_rfl
theorem nd_one (p:Nat) {a:Option Addr} {n c:Nat}:∀u ∈ NR.cells ⟨p,.slice a n c⟩,u.oneCell'=true:=by intro u hu;simp[NR.cells] at hu;rcases hu with rfl|rfl <;> rfl
def NodeIs (w:World) (r:NR) (n:Nd):Prop:=r.p=n.1∧OwnS w 0 r.sv n.2
theorem NodeIs.below {w w':World} {r:NR} {n:Nd} (h:NodeIs w r n) (hb:Below w.heap.size w w'):NodeIs w' r n:=⟨h.1,OwnF.below h.2 hb⟩
theorem NodeIs.kd {w w':World} {r:NR} {n:Nd} {T:TypeId→Prop} (h:NodeIs w r n) (hk:Kd T w w') (ht:¬T 99):NodeIs w' r n:=⟨h.1,OwnF.kd h.2 hk ht⟩
theorem NodeIs.slv {w:World} {r:NR} {n:Nd} (h:NodeIs w r n):∃a c,r.sv=.slice a n.2.length c:=let ⟨a,c,e,_⟩:=(OwnF.sl h.2).ex;⟨a,c,e⟩
structure SetAt (m:Nat) (w:World) (B bS bm:Nat) (most:Nat) (cv:Value) (L:List (NdK m)):Prop where
 row:w.heap[bS]?=some (.cells #[.int .i64 (most:Nat),.map (some bm),cv] 262 (0,0))
 map:∃M:NdK m→Option Value,RawV kapV w bm M∧(∀k,(M k).isSome=true↔k ∈ L)∧∀k u,M k=some u→∃n:Int,u=.int .i64 n
 came:OwnF paC 176 2 w B cv L
 hB:B≤bS∧B≤bm
section
variable {m B bS bm most:Nat} {cv:Value} {L:List (NdK m)} {w w':World}
theorem SetAt.below (h:SetAt m w B bS bm most cv L) (hb:Below w.heap.size w w'):SetAt m w' B bS bm most cv L:=by
 obtain⟨h1,⟨M,h2,h3⟩,h4,h5⟩:=h
 exact⟨row_below h1 hb (row_lt h1),⟨M,h2.below hb h2.lt,h3⟩,OwnF.below h4 hb,h5⟩
theorem zeroIdx (w:World):(zeroValue 3).run Tryz.prog w=.ok (.int .i64 0) w:=by kernel_rfl
theorem set_look (h:SetAt m w B bS bm most cv L) (k:NdK m) {b:Bool} (hb:b=true↔k ∈ L):∃v,∀X:World,X.heap[bm]?=w.heap[bm]?→(Instr.lookup 259 (.map (some bm)) (kapV k) true).run Tryz.prog X=.ok (.tuple #[.int .i64 v,.bool b]) X:=by
 obtain⟨M,h2,h3,h4⟩:=h.map
 have e:(M k).isSome=b:=by
  cases hM:(M k).isSome with
  |true=>exact(hb.2 ((h3 k).1 hM)).symm
  |false=>
   cases hbb:b with
   |false=>rfl
   |true=>rw[(h3 k).2 (hb.1 hbb)] at hM;cases hM
 cases hM:M k with
 |none=>
  refine⟨0,fun X hX=>?_⟩
  have:=((h2.obj hX).look (kap m) Tryz.underlying259 (zeroIdx X) k rfl).2
  rw[e,hM] at this
  exact this
 |some u=>
  obtain⟨n,rfl⟩:=h4 k u hM
  refine⟨n,fun X hX=>?_⟩
  have:=((h2.obj hX).look (kap m) Tryz.underlying259 (zeroIdx X) k rfl).2
  rw[e,hM] at this
  exact this
theorem m_Has (h:SetAt m w B bS bm most cv L) (k:NdK m) {p:Nat} {s:ByteArray} (hk:kapV k=.agg #[.int .i64 p,.string s]) {b:Bool} (hb:b=true↔k ∈ L):
  Calls Tryz.prog 139 #[.pointer (some ⟨bS,0,none⟩),.agg #[.int .i64 p,.string s]] w fun e w'=>e=.returned (.bool b)∧Below w.heap.size w w':=by
 have b0:Below w.heap.size w (w.alloc (.cells #[.int .i64 p,.string s] 176)):=(Below.refl _ w).alloc (Nat.le_refl _) _
 have h0:=h.below b0
 have y1:=row_cell h0.row 1
 simp at y1
 have yl:=row_lt h0.row
 have r0:=row_new w (.cells #[.int .i64 p,.string s] 176)
 have bl:bm < w.heap.size:=by obtain⟨M,h2,-⟩:=h.map;exact h2.lt
 go_enter Tryz.func139,Tryz.ntmps139
 go_wp2_with fail
 have hz:w.heap.size < (w.alloc (.cells #[.int .i64 p,.string s] 176)).heap.size:=by simp
 generalize w.alloc (.cells #[.int .i64 p,.string s] 176)=W at *
 have z0:=row_cell r0 0
 have z1:=row_cell r0 1
 simp at z0 z1
 have zl:=row_lt r0
 obtain⟨v,lk⟩:=set_look h0 k hb
 rw[hk] at lk
 have blW:bm < W.heap.size:=by omega
 refine wp_rN (W.heap.size) [0,0,0,1,1,1,0,0,0,0,0] (.fin [0,1,2,3,4,5,6,7,8,9,10]) (by kernel_rfl) ?_
 simp only[wpT,selX,guardAt,sD,sE,sF,sG]
 repeat first|(refine wpL_p fun K hK=>?_;go_simp;refine hK _ _ ?_;clear hK K)|(apply wpL_s;(intro w2 hw2;have hk1:=hw2.cell;have hk3:=hw2.1;clear hw2;go_simp;with_reducible rfl);simp only[Act.put,sA,sB,sC])
 refine wpL_r (fun K hK=>?_)
 refine⟨.tuple #[.int .i64 v,.bool b],fun w2 hw2=>?_,?_⟩
 ·have:=lk w2 (hw2.2 bm blW)
  go_simp
 refine hK _ _ ?_
 clear hK K
 repeat first|(refine wpL_p fun K hK=>?_;go_simp;refine hK _ _ ?_;clear hK K)|refine wpL_nil ?_
 go_wp2
 go_ret
 exact⟨rfl,b0.drew⟩
def SFr (w w':World) (B:Nat):Prop:=Kd (fun t=>t=262∨t=176) w w'∧Below B w w'
def AddPost (m:Nat) (w:World) (B bS bm most:Nat) (L:List (NdK m)) (k:NdK m) (ev:Value) (e:Ending) (w':World):Prop:=
 (k ∈ L∧e=.returned (.tuple #[.bool false,.nilIface])∧Below w.heap.size w w')∨
 (k ∉ L∧L.length=most∧e=.returned (.tuple #[.bool false,ev])∧Below w.heap.size w w')∨
 (k ∉ L∧L.length < most∧e=.returned (.tuple #[.bool true,.nilIface])∧(∃cv',SetAt m w' B bS bm most cv' (L++[k]))∧SFr w w' B)
theorem m_Add (h:SetAt m w B bS bm most cv L) (hB:B≤w.heap.size) (hl:L.length≤most) (hm:most≤70000) (k:NdK m) {t0:TypeId} {v0:Value} (hev:w.cell? ⟨0,0,none⟩=some (.iface t0 v0)) (hel:0 < w.heap.size):
  Calls Tryz.prog 92 #[.pointer (some ⟨bS,0,none⟩),kapV k] w (AddPost m w B bS bm most L k (.iface t0 v0)):=by
 classical
 have b0:Below w.heap.size w (w.alloc (.cells #[.int .i64 (k.1.1:Nat),.string (keyB k.1.2)] 176)):=(Below.refl _ w).alloc (Nat.le_refl _) _
 have h0:=h.below b0
 have r0:=row_new w (.cells #[.int .i64 (k.1.1:Nat),.string (keyB k.1.2)] 176)
 have hev0:=cell_below b0 hel hev
 have hz:(w.alloc (.cells #[.int .i64 (k.1.1:Nat),.string (keyB k.1.2)] 176)).heap.size=w.heap.size+1:=by simp
 unfold kapV
 go_enter Tryz.func92,Tryz.ntmps92
 go_wp2_with fail
 generalize w.alloc (.cells #[.int .i64 (k.1.1:Nat),.string (keyB k.1.2)] 176)=W at *
 obtain⟨bb,hbb⟩:∃bb:Bool,bb=true↔k ∈ L:=⟨decide (k ∈ L),by simp⟩
 refine(m_Has h0 k rfl hbb).mono ?_
 rintro e W1 ⟨rfl,b1⟩
 have h1:=h0.below b1
 have r1:=row_below r0 b1 (by omega)
 have hev1:=cell_below b1 (by omega) hev0
 have B1:=hid (b0.trans (b1.mono (by omega)))
 have hz1:=b1.size
 have hel1:0 < W1.heap.size:=by omega
 clear h h0 r0 hev hev0 b0 b1
 cases hbc:bb with
 |true=>
  have hkL:k ∈ L:=hbb.1 hbc
  clear hbb
  subst hbc
  go_wp2_with fail
  refine bodyPost_ret (v:=.tuple #[.bool false,.nilIface]) (by simp[results,Tryz.results92,go_sem]) rfl ?_
  exact .inl ⟨hkL,rfl,B1.out⟩
 |false=>
  subst hbc
  have hnk:k ∉ L:=fun hk=>by have:=hbb.2 hk;cases this
  obtain⟨ac,cc,rfl,-⟩:=(OwnF.sl h1.came).ex
  have y:=row_cell h1.row
  have y0:=y 0
  have y1:=y 1
  have y2:=y 2
  simp at y0 y1 y2
  have yl:=row_lt h1.row
  have z0:=row_cell r1 0
  have z1:=row_cell r1 1
  simp at z0 z1
  have zl:=row_lt r1
  have HN:=hid hnk
  clear y hbb hnk
  by_cases hfull:L.length=most
  ·have q1:((L.length:Int)==(most:Int))=true:=by simp;omega
   go_wp2_with fail
   refine wp_rN (W1.heap.size) [0,0,0,1,0,0,0,0,1,0] (.fin [0,1,2,3,4,5,6,7,8,9]) (by kernel_rfl) ?_
   simp only[wpT,selX,guardAt,sD,sE,sF,sG]
   repeat first|(refine wpL_p fun K hK=>?_;go_simp;refine hK _ _ ?_;clear hK K)|(apply wpL_s;(intro w2 hw2;have hk1:=hw2.cell;have hk3:=hw2.1;clear hw2;go_simp;with_reducible rfl);simp only[Act.put,sA,sB,sC])|refine wpL_nil ?_
   go_wp2_with fail
   refine wp_rN (W1.heap.size) [1,0,0] (.fin [0,1,2]) (by kernel_rfl) ?_
   simp only[wpT,selX,guardAt,sD,sE,sF,sG]
   repeat first|(refine wpL_p fun K hK=>?_;go_simp;refine hK _ _ ?_;clear hK K)|(apply wpL_s;(intro w2 hw2;have hk1:=hw2.cell;have hk3:=hw2.1;clear hw2;go_simp;with_reducible rfl);simp only[Act.put,sA,sB,sC])|refine wpL_nil ?_
   go_wp2_with fail
   refine bodyPost_ret (v:=.tuple #[.bool false,.iface t0 v0]) (by simp[results,Tryz.results92,go_sem]) rfl ?_
   exact .inr (.inl ⟨HN.out,hfull,rfl,B1.out.drew.drew⟩)
  ·have q1:((L.length:Int)==(most:Int))=false:=by simp;omega
   have hltm:L.length < most:=by omega
   clear hfull
   go_wp2_with fail
   refine wp_rN (W1.heap.size) [0,0,0,1,0,0,0,0,1,0] (.fin [0,1,2,3,4,5,6,7,8,9]) (by kernel_rfl) ?_
   simp only[wpT,selX,guardAt,sD,sE,sF,sG]
   repeat first|(refine wpL_p fun K hK=>?_;go_simp;refine hK _ _ ?_;clear hK K)|(apply wpL_s;(intro w2 hw2;have hk1:=hw2.cell;have hk3:=hw2.1;clear hw2;go_simp;with_reducible rfl);simp only[Act.put,sA,sB,sC])|refine wpL_nil ?_
   go_wp2_with fail
   obtain⟨M,hM,hM2,hM3'⟩:=h1.map
   refine wp_rN (W1.heap.size) [0,0,0,1,1,0,0,0,1,0,2] (.fin [0,1,2,3,4,5,6,7,8,9,10]) (by kernel_rfl) ?_
   simp only[wpT,selX,guardAt,sD,sE,sF,sG]
   repeat first|(refine wpL_p fun K hK=>?_;go_simp;refine hK _ _ ?_;clear hK K)|(apply wpL_s;(intro w2 hw2;have hk1:=hw2.cell;have hk3:=hw2.1;clear hw2;go_simp;with_reducible rfl);simp only[Act.put,sA,sB,sC])
   refine wpL_e (fun K hK=>?_)
   obtain⟨w2,hrun,hMw,ht⟩:=hM.drew.drew.store (kap m) (t:=259) Tryz.underlying259 k (.int .i64 L.length)
   unfold kapV at hrun
   go_simp
   refine hK _ _ ?_
   clear hK K
   repeat refine wpL_nil ?_
   have bt:Below B W1 w2:=(Below.refl _ W1).drew.drew.trans (Below.turned ht h1.hB.2)
   have hz2:w2.heap.size=W1.heap.size:=turned_size (w:=W1.drew.drew) ht
   have hBw2:B≤w2.heap.size:=by have:=h1.hB.1;have:=yl;omega
   have rS:w2.heap[bS]?=_:=(turned_cells (w:=W1.drew.drew) ht (g:=bS) h1.row).trans h1.row
   have rP:w2.heap[w.heap.size]?=_:=(turned_cells (w:=W1.drew.drew) ht (g:=w.heap.size) r1).trans r1
   have oC:OwnF paC 176 2 w2 B (.slice ac L.length cc) L:=OwnF.kd (T:=fun _=>False) h1.came (Kd.turned (w:=W1.drew.drew) ht) (fun h=>h)
   have kd2:Kd (fun t=>t=262∨t=176) W1 w2:=Kd.turned (w:=W1.drew.drew) ht
   have y:=row_cell rS
   have y0:=y 0
   have y1:=y 1
   have y2:=y 2
   simp at y0 y1 y2
   have yl:=row_lt rS
   have z:=row_cell rP
   have z0:=z 0
   have z1:=z 1
   simp at z0 z1
   have zl:=row_lt rP
   have zf:=fun j=>row_free rS j
   clear y z hz2
   go_wp2_with fail
   refine wp_rN (w2.heap.size) [0,0,0,0,1,1,3,2,0,0,2] (.fin [0,1,2,3,4,5,6,7,8,9,10]) (by kernel_rfl) ?_
   simp only[wpT,selX,guardAt,sD,sE,sF,sG]
   repeat first|(refine wpL_p fun K hK=>?_;go_simp;refine hK _ _ ?_;clear hK K)|(apply wpL_s;(intro w2 hw2;have hk1:=hw2.cell;have hk3:=hw2.1;clear hw2;go_simp;with_reducible rfl);simp only[Act.put,sA,sB,sC])
   refine wpL_k (fun K hK=>?_)
   go_simp
   refine hK _ _ (RN.KeepsN.alloc w2.drew _ (Nat.le_refl _)) ?_
   clear hK K
   refine wpL_e (fun K hK=>?_)
   rw[drew_alloc]
   refine wp_appF _ _ _ rfl _ 24 Tryz.underlying260 infoPa rfl oC.drew k (show B≤w2.drew.heap.size from hBw2) (by rfl) (by rfl) (by first|rfl|simp) rfl (pa_one _) (by first|omega|(simp only[List.length_append,List.length_cons,List.length_nil,List.length_replicate];omega)) (by first|omega|(simp only[List.length_append,List.length_cons,List.length_nil,List.length_replicate];omega)) ?_
   intro g1 c1 w3 o3 G3
   refine hK _ _ ?_
   clear hK K
   have neS:(Value.slice ac L.length cc).ownBlock≠some bS:=OwnF.neT oC rS (by decide)
   have neM:(Value.slice ac L.length cc).ownBlock≠some bm:=fun e=>by
    obtain⟨es,cl,hes⟩:=hMw.isMap
    obtain⟨c2,hc2⟩:=oC.keepObj bm e
    rw[hes] at hc2
    cases hc2
   have rS3:w3.heap[bS]?=some _:=row_grw (w:=w2.drew) rS G3 neS
   have hM3:w3.heap[bm]?=w2.heap[bm]?:=G3.grown.block bm hMw.lt fun e=>neM e.symm
   have y:=row_cell rS3
   have y2:=y 2
   simp at y2
   have yf:=row_free rS3 2
   have yl3:=row_lt rS3
   have z3:w2.heap.size≤w3.heap.size:=G3.size
   have rF:=row_set rS3 2 (.slice (some ⟨g1,0,none⟩) (L.length+1) c1)
   have oF:=OwnF.other (j:=2) o3 (OwnF.neT o3 rS3 (by decide)) (.slice (some ⟨g1,0,none⟩) (L.length+1) c1)
   have hMF:RawV kapV (w3.setCell ⟨bS,2,none⟩ (.slice (some ⟨g1,0,none⟩) (L.length+1) c1)) bm (rupV M k (some (.int .i64 L.length))):=(hMw.obj hM3).set fun e=>by
    subst e
    obtain⟨es,cl,hes⟩:=hMw.isMap
    rw[rS] at hes
    cases hes
   have bF:Below B w3 (w3.setCell ⟨bS,2,none⟩ (.slice (some ⟨g1,0,none⟩) (L.length+1) c1)):=(Below.refl _ w3).setCell (p:=⟨bS,2,none⟩) h1.hB.1 _
   have kF:Kd (fun t=>t=262∨t=176) w3 (w3.setCell ⟨bS,2,none⟩ (.slice (some ⟨g1,0,none⟩) (L.length+1) c1)):=Kd.set rS3 (.inl rfl) _
   have k3:Kd (fun t=>t=262∨t=176) w2 w3:=(Kd.grw (w:=w2.drew) oC.drew G3).mono fun t e=>.inr e
   have b3:Below B w2 w3:=(Below.refl B w2).drew.trans (G3.below (show B≤w2.drew.heap.size from hBw2) fun j hj=>(OwnF.lt oC j hj).1)
   have BF:=hid ((((B1.out.mono hB).trans bt).trans b3).trans bF)
   have KF:=hid (((Kd.below B1.out).trans (kd2.trans k3)).trans kF)
   have RF:=hid rF
   have OF:=hid oF
   have MF:=hid hMF
   clear y y0 y1 bt oC kd2 rS rP hMw hM3 G3 o3 rS3 rF oF hMF bF kF k3 b3 neS neM hM
   repeat (refine wpL_p fun K hK=>?_;go_simp;refine hK _ _ ?_;clear hK K)
   refine wpL_e (fun K hK=>?_)
   go_simp
   refine hK _ _ ?_
   clear hK K
   repeat refine wpL_nil ?_
   go_wp2_with fail
   refine bodyPost_ret (v:=.tuple #[.bool true,.nilIface]) (by simp[results,Tryz.results92,go_sem]) rfl ?_
   refine .inr (.inr ⟨HN.out,hltm,rfl,⟨_,⟨by simpa using RF.out,⟨_,MF.out,fun x=>?_,fun x u hx=>?_⟩,by simpa using OF.out,h1.hB⟩⟩,KF.out,BF.out⟩)
   ·by_cases e:x=k
    ·subst e;simp[rupV_same]
    ·rw [rupV_ne e,hM2 x];simp[e]
   ·by_cases e:x=k
    ·subst e;rw[rupV_same] at hx;exact⟨_,(Option.some.inj hx).symm⟩
    ·rw [rupV_ne e] at hx;exact hM3' x u hx
end
end
