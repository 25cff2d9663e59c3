/- Parts of the proof; the first: A transaction's deeds done again. Conditions: those of each theorem, as typed. -/
import Derived.Test.YtcpfbphcldocpaaGreatDoorQC18
import Derived.Test.YtcpfbphcldocpaaGreatDoorQC17
import Derived.Test.YtcpfbphcldocpaaGreatDoorQC03
import Derived.Test.YtcpfbphcldocpaaGreatDoorQC04
set_option linter.unusedVariables false
set_option linter.unusedSimpArgs false
set_option linter.unusedSectionVars false
set_option maxRecDepth 100000
set_option maxHeartbeats 4000000
namespace Go.Proofs.YtcpfbphcldocpaaGreatDoor
open Go.Maps Go.RowKit
section
attribute [local irreducible] xL
def uu (g:Nat) (w:World):Prop:=g < w.heap.size/\∃t v,w.cell? ⟨g,0,none⟩=some (.iface t v)
theorem uu.below {g:Nat} {w w':World} (h:uu g w) (hb:Below w.heap.size w w'):uu g w':=by
 obtain⟨h1,t,v,h2⟩:=h;exact⟨by have:=hb.size;omega,t,v,qp hb h1 h2⟩
structure DdR (σ:List Int) (d:Dd):Prop where
 obj:0<=d.obj/\d.obj < σ.length
 sm:∀x,σ[d.obj.toNat]?=some x->YI x
 op:d.op=1/\d.val=0\/d.op=2/\-1000000000<=d.val/\d.val<=1000000000
 key:d.key=0
theorem doD_R {ρ:List Int} {d:Dd} {c:Nat} {x:Int} {σ:List Int} (h:DdR σ d) (hr:d.ret≠0) (hc:d.obj=c) (hx:ρ[c]?=some x):
  KR ρ d=if (Uz x d.op d.val).2.1=d.ret/\(Uz x d.op d.val).2.2=d.got then some (ρ.set c (Uz x d.op d.val).1) else none:=by
 unfold KR Uz;rw[if_neg hr,hc,Int.toNat_natCast];rcases h.op with⟨h1,h2⟩|⟨h1,h2⟩
 ·have:¬d.op=2:=by omega
  rw[if_neg this,if_neg this,hx];have hs:ρ.set c x=ρ:=by
   apply List.ext_getElem?;intro j;by_cases e:c=j
   ·subst e;rw[List.getElem?_set_self (List.getElem?_eq_some_iff.1 hx).1,hx]
   ·rw [List.getElem?_set_ne e]
  simp only[hs,Option.some.injEq];by_cases h3:d.ret=3
  ·by_cases h4:x=d.got
   ·rw [if_pos ⟨h3,h4⟩,if_pos ⟨h3.symm,h4⟩]
   ·rw [if_neg (fun h=>h4 h.2),if_neg (fun h=>h4 h.2)]
  ·rw [if_neg (fun h=>h3 h.1),if_neg (fun h=>h3 h.1.symm)]
 ·rw [if_pos h1,if_pos h1]
  by_cases h3:d.ret=1/\d.got=0
  ·rw [if_pos h3,if_pos ⟨h3.1.symm,h3.2.symm⟩]
  ·rw [if_neg h3,if_neg (fun h=>h3 ⟨h.1.symm,h.2.symm⟩)]
theorem We (d:Dd) (w:World):
  Calls Tryz.prog 190 #[.agg d.cells.toArray,.int .i64 d.ret,.int .i64 d.got] w fun e w'=>e=.returned .nilIface/\Below w.heap.size w w':=by
 obtain⟨o,p,k,v,r,g,a,b⟩:=d;have b0:Below w.heap.size w (w.alloc (.cells #[.int .i64 o,.int .i64 p,.int .i64 k,.int .i64 v,.int .i64 r,.int .i64 g,.int .i64 a,.int .i64 b] 112)):=(Below.refl _ w).alloc (Nat.le_refl _) _;have q1:(r !=r)=false:=by simp
 have q2:(g !=g)=false:=by simp
 simp only[Dd.cells];go_enter Tryz.func190,Tryz.ntmps190;go_wp2;go_ret;exact⟨rfl,b0⟩
theorem Kp (d:Dd) (ret got:Int) (hne:¬(ret=d.ret/\got=d.got)) (w:World) (hE:uu 16 w):
  Calls Tryz.prog 190 #[.agg d.cells.toArray,.int .i64 ret,.int .i64 got] w fun e w'=>(∃t v,e=.returned (.iface t v))/\Below w.heap.size w w':=by
 obtain⟨hg,ty,va,hv⟩:=hE;obtain⟨o,p,k,v,r,g,a,b⟩:=d;have b0:Below w.heap.size w (w.alloc (.cells #[.int .i64 o,.int .i64 p,.int .i64 k,.int .i64 v,.int .i64 r,.int .i64 g,.int .i64 a,.int .i64 b] 112)):=(Below.refl _ w).alloc (Nat.le_refl _) _;simp only[Dd.cells] at hne ⊢;by_cases h1:ret=r
 ·have q1:(ret !=r)=false:=by simpa using h1
  have q2:(got !=g)=true:=by simpa using fun h2=>hne ⟨h1,h2⟩
  clear h1 hne;go_enter Tryz.func190,Tryz.ntmps190;go_wp2;go_ret;exact⟨⟨ty,va,rfl⟩,b0⟩
 ·have q1:(ret !=r)=true:=by simpa using h1
  clear h1 hne;go_enter Tryz.func190,Tryz.ntmps190;go_wp2;go_ret;exact⟨⟨ty,va,rfl⟩,b0⟩
theorem doD_sm {σ τ:List Int} {d:Dd} {k:Nat} (hd:d.op=2->YI d.val) (h:KR σ d=some τ) (hs:∀x,σ[k]?=some x->YI x):∀x,τ[k]?=some x->YI x:=by
 unfold KR at h
 split at h
 ·cases h;exact hs
 ·split at h
  ·rename_i e
   split at h
   ·cases h
    intro x hx;rcases yQ hx with⟨-,rfl⟩|⟨-,hx⟩
    ·exact hd e
    ·exact hs x hx
   ·cases h
  ·split at h
   ·cases h;exact hs
   ·cases h
theorem Kk {k:Nat}:∀{l:List Dd} {σ τ:List Int},(∀d ∈ l,d.op=2->YI d.val)->Yo σ l=some τ->(∀x,σ[k]?=some x->YI x)->∀x,τ[k]?=some x->YI x
 |[],σ,τ,_,h,hs=>by cases h;exact hs
 |d::l,σ,τ,hd,h,hs=>by
  simp only[Yo] at h;cases he:KR σ d with
  |none=>rw[he] at h;cases h
  |some ρ=>
   rw[he] at h;exact Kk (fun e hx=>hd e (List.mem_cons_of_mem _ hx)) h (doD_sm (hd d (List.mem_cons_self ..)) he hs)
theorem DdR.wr {σ:List Int} {d:Dd} (h:DdR σ d) (e:d.op=2):YI d.val:=h.op.elim (fun q=>by omega) fun q=>q.2
theorem MQ {σ:List Int} {ds:List Dd} {k:Nat} (h:Yo σ (ds.take k)=none):Yo σ ds=none:=by
 rw[←List.take_append_drop k ds,Rh,h]
def PlPostF (w:World) (v:Value) (o:Option (List Int)) (e:Ending) (w':World):Prop:=(match o with
 |some τ=>∃v',e=.returned (.tuple #[Vu v',.nilIface])/\jO w' 0 v' τ/\(v'=v\/∀k,v'.ownBlock=some k->w.heap.size<=k)
 |none=>∃t v,e=.returned (.tuple #[Vu (.slice none 0 0),.iface t v]))/\Below w.heap.size w w'
theorem Rm (v dv:Value) (σ:List Int) (ds:List Dd) (w:World) (h:jO w 0 v σ) (hl:σ.length<=1000) (hd:Sl w w.heap.size 8 dv ds.length (ds.flatMap Dd.cells)) (hok:∀d ∈ ds,DdR σ d) (hE:uu 16 w):
  Calls Tryz.prog 132 #[Vu v,dv] w (PlPostF w v (Yo σ ds)):=by
 obtain⟨a,c,rfl,hm⟩:=(qj.sl h).ex;obtain⟨ad,cd,rfl,md⟩:=hd.ex;have b0:Below w.heap.size w ((w.alloc (.cells #[.slice a σ.length c] 57)).alloc (.cells #[.slice none 0 0] 57)):=((Below.refl _ w).alloc (Nat.le_refl _) _).alloc (by simp) _;have r0:=qy (o:=.cells #[.slice none 0 0] 57) (qs w (.cells #[.slice a σ.length c] 57));have r1:=qs (w.alloc (.cells #[.slice a σ.length c] 57)) (.cells #[.slice none 0 0] 57);have hz:((w.alloc (.cells #[.slice a σ.length c] 57)).alloc (.cells #[.slice none 0 0] 57)).heap.size=w.heap.size+2:=by simp
 simp only[World.size_alloc] at r1;obtain⟨n0,hn0⟩:∃n0,n0=w.heap.size:=⟨_,rfl⟩
 go_enter Tryz.func132,Tryz.ntmps132;go_wp2_with fail;generalize (w.alloc (.cells #[.slice a σ.length c] 57)).alloc (.cells #[.slice none 0 0] 57)=W at *;have R0:=qd r0;have R1:=qd r1;have B0:=qd b0;have H:=qd h;have HD:=qd hd;have HOK:=qd hok;have HE:=qd hE;clear r0 r1 b0 h hd hok hE
 go_loopw [14] (fun p wr=>∃(i:Nat) (u:Value) (ρ:List Int),i<=ds.length/\p=.int .i64 i/\Yo σ (ds.take i)=some ρ/\wr.heap[w.heap.size]?=some (.cells #[u] 57 (0,0))/\wr.heap[w.heap.size+1]?=some (.cells #[.slice none 0 0] 57 (0,0))/\jO wr 0 u ρ/\Below w.heap.size w wr/\W.heap.size<=wr.heap.size/\(u=.slice a σ.length c\/∀k,u.ownBlock=some k->w.heap.size<=k)) (fun p _=>ds.length - (intOf p).toNat)
 case atStart=>exact⟨0,_,σ,by omega,by go_num,rfl,R0.o,R1.o,qj.below H.o B0.o,B0.o,Nat.le_refl _,.inl rfl⟩
 case round=>
  obtain⟨i,u,ρ,hi,rfl,hrep,q0,q1,ho,hB,hz2,hu⟩:=hrel;have HU:=qd hu;have hρl:=UP hrep;obtain⟨au,cu,rfl,-⟩:=(qj.sl ho).ex;have HRL:=qd hρl;have HREP:=qd hrep;have HO:=qd ho;have HB:=qd hB;have Q0:=qd q0;have Q1:=qd q1;clear hrep ho hB q0 q1 hρl hu;by_cases hlt:i < ds.length
  ·obtain ⟨b,off,d,hat,hb,hx,hc⟩:=(HD.o.below HB.o).atF Dd.len rfl hlt
   have c0:=hc 0 (by decide);have c1:=hc 1 (by decide);have c2:=hc 2 (by decide);have c3:=hc 3 (by decide);have c4:=hc 4 (by decide);have c5:=hc 5 (by decide);have c6:=hc 6 (by decide);have c7:=hc 7 (by decide);have hdr:=HOK.o d (List.mem_of_getElem? hx);have htk:ds.take (i+1)=ds.take i++[d]:=by rw[List.take_add_one,hx];rfl
   have hsn:Yo σ (ds.take (i+1))=KR ρ d:=by rw[htk,VU HREP.o]
   have hbw:b < wr.heap.size:=by omega
   obtain⟨o,p,k,vl,r,g,at0,bk⟩:=d;simp[Dd.cells] at c0 c1 c2 c3 c4 c5 c6 c7;have hkey:k=0:=hdr.key;subst hkey hat;have HX:=qd hx;have HS:=qd hsn;have HDR:=qd hdr;clear hc hx hsn htk hdr;by_cases hr0:r=0
   ·subst hr0
    go_wp2_with fail;go_roundw
    case rel=>
     have hb:=HB.o.alloc (show w.heap.size<=wr.heap.size by omega) (.cells #[.int .i64 o,.int .i64 p,.int .i64 0,.int .i64 vl,.int .i64 0,.int .i64 g,.int .i64 at0,.int .i64 bk] 112);refine⟨i+1,_,ρ,by omega,by go_num,by rw[HS.o];simp[KR],qy Q0.o,qy Q1.o,qj.alloc HO.o _,hb,by simp;omega,HU.o⟩
    case measure=>simp[intOf];omega
   ·have q1:(r==0)=false:=by simpa using hr0
    obtain⟨cc,hcc⟩:=Int.eq_ofNat_of_zero_le HDR.o.obj.1;simp only at hcc;subst hcc;have hcl:cc < ρ.length:=by have:=HDR.o.obj.2;have:=HRL.o;simp only at *;omega
    obtain⟨x,hxx⟩:∃x,ρ[cc]?=some x:=⟨_,List.getElem?_eq_getElem hcl⟩
    have hdo:=doD_R HDR.o hr0 rfl hxx;have hop:=HDR.o.op;simp only at hdo hop;have hDo:=fun(X:World) (hX:SlS X X.heap.size (.slice au ρ.length cu) ρ)=>st_Do _ ρ cc x p vl X hX (by have:=HRL.o;omega) hxx (Kk (k:=cc) (fun e he=>(HOK.o e (List.mem_of_mem_take he)).wr) HREP.o HDR.o.sm x hxx) hop;generalize Uz x p vl=D at *;obtain⟨D1,D2,D3⟩:=D;simp only at hdo;have HDO:=qd hdo;have y0:=qa Q0.o 0;simp at y0;have y0l:=qe Q0.o;obtain⟨W2,rfl⟩:∃W2,W2=wr:=⟨_,rfl⟩
    clear hdo hop hxx;go_wp2_with fail;have b2:Below W2.heap.size W2 (W2.alloc (.cells #[.int .i64 (cc:Int),.int .i64 p,.int .i64 0,.int .i64 vl,.int .i64 r,.int .i64 g,.int .i64 at0,.int .i64 bk] 112)):=(Below.refl _ W2).alloc (Nat.le_refl _) _;have rd:=qs W2 (.cells #[.int .i64 (cc:Int),.int .i64 p,.int .i64 0,.int .i64 vl,.int .i64 r,.int .i64 g,.int .i64 at0,.int .i64 bk] 112);have zd:W2.heap.size < (W2.alloc (.cells #[.int .i64 (cc:Int),.int .i64 p,.int .i64 0,.int .i64 vl,.int .i64 r,.int .i64 g,.int .i64 at0,.int .i64 bk] 112)).heap.size:=by simp
    generalize W2.alloc (.cells #[.int .i64 (cc:Int),.int .i64 p,.int .i64 0,.int .i64 vl,.int .i64 r,.int .i64 g,.int .i64 at0,.int .i64 bk] 112)=W3 at *;refine(hDo W3 (((qj.sl HO.o).below b2).more b2.size)).mono ?_;rintro e W4 ⟨v',rfl,o4,b4⟩;obtain⟨a',c',rfl,-⟩:=(qj.sl o4).ex;have rd:=qh rd b4 zd;have y:=qa rd;have e0:=y 0;have e1:=y 1;have e2:=y 2;have e3:=y 3;have e4:=y 4;have e5:=y 5;have e6:=y 6;have e7:=y 7;simp at e0 e1 e2 e3 e4 e5 e6 e7;have b5:Below W2.heap.size W2 W4:=b2.trans (b4.mono b2.size);have hz5:=b5.size;have rdl:=qe rd;have O4:=qd o4;have B5:=qd b5;clear y rd b2 b4 b5 o4;by_cases hfit:D2=r/\D3=g
    ·have hdo:=HDO.o
     rw[if_pos hfit] at hdo;obtain⟨rfl,rfl⟩:=hfit;go_wp2_with fail;have b6:Below W4.heap.size W4 (W4.alloc (.cells #[.slice a' ρ.length c'] 57)):=(Below.refl _ W4).alloc (Nat.le_refl _) _;have r6:=qs W4 (.cells #[.slice a' ρ.length c'] 57);have z6:W4.heap.size < (W4.alloc (.cells #[.slice a' ρ.length c'] 57)).heap.size:=by simp
     generalize W4.alloc (.cells #[.slice a' ρ.length c'] 57)=W5 at *;refine(We ⟨cc,p,0,vl,D2,D3,at0,bk⟩ W5).mono ?_;rintro e W6 ⟨rfl,b7⟩;have r7:=qh r6 b7 z6;have f0:=qa r7 0;simp at f0;have f0l:=qe r7;have b8:Below W2.heap.size W2 W6:=B5.o.trans ((b6.mono hz5).trans (b7.mono (by omega)));have q0:=qh Q0.o b8 y0l;have q1:=qh Q1.o b8 (qe Q1.o);have p0:=qa q0 0;simp at p0;have p0f:=qt q0 0;have p0l:=qe q0;have hq0:=qn q0 0 (.slice a' ρ.length c');have hq1:=qI (g':=w.heap.size) (j:=0) (v:=.slice a' ρ.length c') q1 (by omega);have o8:=qj.below (qj.below O4.o b6) b7;have o9:=qj.other (j:=0) o8 (qj.neT o8 q0 (by decide)) (.slice a' ρ.length c');have B9:=qd ((HB.o.trans (b8.mono (by omega))).setCell (p:=⟨w.heap.size,0,none⟩) (Nat.le_refl _) (.slice a' ρ.length c'));have hz9:=b8.size;have Q0':=qd hq0;have Q1':=qd hq1;have O9:=qd o9;clear r6 r7 b6 b7 b8 q0 q1 hq0 hq1 o8 o9;go_wp2_with fail;go_roundw
     case rel=>exact⟨i+1,.slice a' ρ.length c',ρ.set cc D1,by omega,by go_num,by rw[HS.o,hdo],Q0'.o,Q1'.o,by simpa using qj.base O9.o (Nat.zero_le _),B9.o,by simp;omega,.inr fun k e=>by have:=(qj.lt O9.o k (by rwa [List.length_set])).1;omega⟩
     case measure=>simp[intOf];omega
    ·have hdo:=HDO.o
     rw[if_neg hfit] at hdo;go_wp2_with fail;have b6:Below W4.heap.size W4 (W4.alloc (.cells #[.slice a' ρ.length c'] 57)):=(Below.refl _ W4).alloc (Nat.le_refl _) _;generalize W4.alloc (.cells #[.slice a' ρ.length c'] 57)=W5 at *;have hE5:uu 16 W5:=((HE.o.below HB.o).below B5.o).below b6;refine(Kp ⟨cc,p,0,vl,r,g,at0,bk⟩ D2 D3 hfit W5 hE5).mono ?_;rintro e W6 ⟨⟨ty,va,rfl⟩,b7⟩;have b8:Below W2.heap.size W2 W6:=B5.o.trans ((b6.mono hz5).trans (b7.mono (by have:=b6.size;omega)));have q1:=qh Q1.o b8 (qe Q1.o);have p0:=qa q1 0;simp at p0;have p0f:=qt q1 0;have p0l:=qe q1;have hq1:=qn q1 0 (.slice none 0 0);have B9:=qd ((HB.o.trans (b8.mono (by omega))).setCell (p:=⟨w.heap.size+1,0,none⟩) (show w.heap.size<=w.heap.size+1 by omega) (.slice none 0 0));have Q1':=qd hq1;clear b6 b7 b8 q1 hq1 hE5;go_wp2_with fail;have b10:=B9.o.alloc B9.o.size (.cells #[.int .i64 i,.iface ty va] 130);have c0:=qa (qy (o:=.cells #[.int .i64 i,.iface ty va] 130) Q1'.o) 0;simp at c0;refine bodyPost_ret (v:=.tuple #[Vu (.slice none 0 0),.iface 128 (.pointer (some ⟨W6.heap.size,0,none⟩))]) (by simp[results,Tryz.results132,go_sem,c0]) rfl ?_;refine⟨?_,b10⟩;rw[MQ (HS.o.trans hdo)];exact⟨_,_,rfl⟩
  ·obtain rfl:i=ds.length:=by omega
   have q0:=qa Q0.o 0;have q1:=qa Q1.o 0;simp at q0 q1;have q1f:=qt Q1.o 0;have ql0:=qe Q0.o;have ql1:=qe Q1.o;have hq1:=qd (qn Q1.o 0 (.slice au ρ.length cu));go_wp2_with fail;have c0:=qa hq1.o 0;simp at c0;refine bodyPost_ret (v:=.tuple #[Vu (.slice au ρ.length cu),.nilIface]) (by simp[results,Tryz.results132,go_sem,c0]) rfl ?_;have hrep:=HREP.o;rw[List.take_length] at hrep;refine⟨?_,HB.o.setCell (p:=⟨w.heap.size+1,0,none⟩) (show w.heap.size<=w.heap.size+1 by omega) _⟩;rw[hrep];exact⟨_,rfl,qj.other (j:=0) HO.o (qj.neT HO.o Q1.o (by decide)) _,HU.o⟩
end
section
attribute [local irreducible] xL
def OneMid (w W1:World) (a:Option Addr) (cp:Nat) (σ ρ:List Int) (b off n tc k:Nat) (x:Int) (c al:Bool) (v31 v32 dv:Value):Exit->Act->World->Prop:=fun e a' X=>∃(pb:Nat) (v':Value),e=.normal/\a'={tmps:=#[(.agg #[.slice a σ.length cp]),.slice (some ⟨b,off,none⟩) n tc,.agg #[.int .i64 x,.bool c],.bool al,.pointer (some ⟨w.heap.size,0,none⟩),undef,.pointer (some ⟨w.heap.size+1,0,none⟩),undef,.pointer (some ⟨w.heap.size+1+1,0,none⟩),.nilIface,.int .i64 k,.bool true,.pointer (some ⟨pb,0,none⟩),.nilIface,undef,undef,.tuple #[.int .i64 k,.bool true],.slice (some ⟨b,off,none⟩) n tc,.pointer (some ⟨w.heap.size+1,0,none⟩),.int .i64 x,.tuple #[.int .i64 k,.bool true],.int .i64 k,.bool true,.bool true,.bool false,undef,undef,.pointer (some ⟨w.heap.size+1,1,none⟩),.bool c,.bool !c,.bool !c,v31,v32,.bool false,undef,.tuple #[.agg #[v'],.nilIface],(.agg #[.slice a σ.length cp]),.slice (some ⟨b,off,none⟩) n tc,.int .i64 k,.pointer (some ⟨b,off+k*7,none⟩),.pointer (some ⟨b,off+k*7+6,none⟩),dv,.tuple #[.agg #[v'],.nilIface],.agg #[v'],.nilIface,undef,undef,undef,undef,undef,undef,undef,undef,undef,undef,undef,undef,undef,undef,undef,undef],defers:=[]}/\
 X.heap[pb]?=some (.cells #[v'] 57 (0,0))/\jO X 0 v' ρ/\(v'=.slice a σ.length cp\/∀k,v'.ownBlock=some k->W1.heap.size<=k)/\Below W1.heap.size W1 X/\W1.heap.size<=pb
theorem pl_ta (X:World):Sem.run Tryz.prog (Instr.typeAssert .nilIface 34 128 true) X=.ok (.tuple #[.pointer none,.bool false]) X:=by
 simp[Instr.typeAssert,go_sem]
attribute [local go_sem] pl_ta
theorem pl_one {B k:Nat} (v tv:Value) (σ τ:List Int) (A:Au) (x:Int) (c al:Bool) {s:St} (w:World) (h:jO w 0 v σ) (hl:σ.length<=1000) (hT:zw w B tv A) (hs:A[k]?=some s) (hx:s.id=x)
  (hn:∀(j:Nat) (t:St),j < k->A[j]?=some t->t.id≠x) (hok:∀d ∈ s.deeds,DdR σ d) (hE:uu 16 w) (hst:yH (fun _=>s.deeds) al σ (x,c)=some τ):
  Calls Tryz.prog 85 #[Vu v,tv,.agg #[.int .i64 x,.bool c],.bool al] w fun e w'=>(∃v',e=.returned (.tuple #[Vu v',.nilIface])/\jO w' 0 v' τ/\(v'=v\/∀k,v'.ownBlock=some k->w.heap.size<=k))/\Below w.heap.size w w':=by
 obtain⟨a,cp,rfl,hm⟩:=(qj.sl h).ex;obtain⟨rs,hv,hvl,hvc⟩:=id hT;obtain⟨ta,tc,htv⟩:∃a c,tv=.slice a A.length c:=by
  obtain⟨a,c,e⟩:=qj.slv hv;exact⟨a,c,by rw[e,hvl]⟩
 subst htv;have hkl:k < rs.length:=by have:=(List.getElem?_eq_some_iff.1 hs).1;omega
 have hbig:A.length<=9223372036854775807:=by obtain⟨_,_,_,hb⟩:=qj.form2 hv;omega
 have hkA:k < A.length:=by omega
 have hsl:=qj.sl hv;rw[hvl] at hsl;obtain⟨b,off,r,hat,hb,hr,hc⟩:=hsl.atF YQ.len hvl hkA;obtain⟨hro,hdo⟩:=hvc k r s hr hs;subst hat;have c6:=hc 6 (by decide);obtain⟨rid,rth,rst,rbe,rfi,rtr,rdv⟩:=r;simp only at hdo;obtain⟨dA,dC,rfl⟩:=qj.slv hdo;simp[YQ.cells] at c6;clear hv hvc hr hc hro hvl hkl hsl;have b0:Below w.heap.size w (((w.alloc (.cells #[.slice a σ.length cp] 57)).alloc (.cells #[.int .i64 x,.bool c] 87)).alloc (.cells #[.slice none 0 0] 57)):=(((Below.refl _ w).alloc (Nat.le_refl _) _).alloc (by simp) _).alloc (by simp;omega) _;have r0:=qy (o:=.cells #[.slice none 0 0] 57) (qy (o:=.cells #[.int .i64 x,.bool c] 87) (qs w (.cells #[.slice a σ.length cp] 57)));have r1:=qy (o:=.cells #[.slice none 0 0] 57) (qs (w.alloc (.cells #[.slice a σ.length cp] 57)) (.cells #[.int .i64 x,.bool c] 87));have r2:=qs ((w.alloc (.cells #[.slice a σ.length cp] 57)).alloc (.cells #[.int .i64 x,.bool c] 87)) (.cells #[.slice none 0 0] 57);simp only[World.size_alloc] at r1 r2;have hz:(((w.alloc (.cells #[.slice a σ.length cp] 57)).alloc (.cells #[.int .i64 x,.bool c] 87)).alloc (.cells #[.slice none 0 0] 57)).heap.size=w.heap.size+3:=by simp
 go_enter Tryz.func85,Tryz.ntmps85;go_wp2_with fail;generalize ((w.alloc (.cells #[.slice a σ.length cp] 57)).alloc (.cells #[.int .i64 x,.bool c] 87)).alloc (.cells #[.slice none 0 0] 57)=W at *;refine(sh_Find _ A x B W (hT.below b0) hs hx hn).mono ?_;rintro e W1 ⟨rfl,b1⟩;have B1:=qd (b0.trans (b1.mono b0.size));have hlW:W.heap.size<=W1.heap.size:=b1.size;have R0:=qd (qh r0 b1 (qe r0));have R1:=qd (qh r1 b1 (qe r1));have R2:=qd (qh r2 b1 (qe r2));have H:=qd (qj.below h B1.o);have HT:=qd (hT.below B1.o);have HE:=qd (hE.below B1.o);have c6:=qp B1.o hb c6;have HD:=qd (qj.below hdo B1.o);have hbw:b < W1.heap.size:=by have:=B1.o.size;omega
 have HS:=qd hs;have HN:=qd hn;have HOK:=qd hok;have HST:=qd hst;have hz1:w.heap.size+3<=W1.heap.size:=by omega
 have lz0:w.heap.size < W1.heap.size:=by omega
 have lz1:w.heap.size+1 < W1.heap.size:=by omega
 have lz2:w.heap.size+1+1 < W1.heap.size:=by omega
 clear b0 r0 r1 r2 b1 hz h hT hE hs hn hok hst hlW hdo;have e0:=qa R0.o 0;have e1:=qa R1.o 0;have e2:=qa R1.o 1;have e3:=qa R2.o 0;have e3f:=qt R2.o 0;simp at e0 e1 e2 e3;by_cases hca:c=false/\al=false
 ·obtain ⟨rfl,rfl⟩:=hca
  have hτ:σ=τ:=by simpa[yH] using HST.o
  subst hτ;go_wp2;have c0:=qa (qn R2.o 0 (.slice a σ.length cp)) 0;simp at c0;have b9:=B1.o.setCell (p:=⟨w.heap.size+2,0,none⟩) (show w.heap.size<=w.heap.size+2 by omega) (.slice a σ.length cp);refine bodyPost_ret (v:=.tuple #[Vu (.slice a σ.length cp),.nilIface]) (by simp[results,Tryz.results85,go_sem,c0]) rfl ?_;exact⟨⟨_,rfl,qj.other (j:=0) H.o (qj.neT H.o R2.o (by decide)) _,.inl rfl⟩,b9⟩
 ·have hca2:c=true\/c=false/\al=true:=by cases c <;> cases al <;> simp_all
  rcases hca2 with rfl|⟨rfl,rfl⟩
  ·have hst:=HST.o
   obtain⟨ρ,hrep⟩:∃ρ,Yo σ s.deeds=some ρ:=by
    cases hr:Yo σ s.deeds with
    |none=>simp[yH,hr] at hst
    |some ρ=>exact⟨ρ,rfl⟩
   have hτ:ρ=τ:=by simp[yH,hrep] at hst;exact hst
   subst hτ;have RC:=fun X=>Rm (.slice a σ.length cp) (.slice dA s.deeds.length dC) σ s.deeds X;rw[hrep] at RC;have RC:=qd RC;clear hst hrep;go_wp2_with fail;refine wp_mono (Q:=OneMid w W1 a cp σ ρ b off A.length tc k x true al undef undef (.slice dA s.deeds.length dC)) ?_ ?_
   ·have bd:Below W1.heap.size W1 W1.drew:=(Below.refl _ W1).drew
    refine qD (W1.heap.size) [1,0,0,0,0,1,3,0,0,0,3,2,0] (.frk [0,1,2,3,4,5] (.fin [6,7,8,9,10,11,12]) (.fin [10,6,7,8,9,11,12])) (by kernel_rfl) ?_;simp only[xC,qJ,qu,sD,sE,sF,sG]
    repeat first|(refine qq fun K hK=>?_;go_simp;refine hK _ _ ?_;clear hK K)|(apply qx;(intro w2 hw2;have hk1:=hw2.cell;have hk3:=hw2.1;clear hw2;go_simp;with_reducible rfl);simp only[Act.put,sA,sB,sC])|refine qz rfl rfl ?_|(refine qE rfl rfl fun K hK=>?_;simp only[Act.put,sA,sB,sC];refine hK _ _ ?_;clear hK K)|refine qm ?_
    refine⟨?_,?_⟩
    ·
     repeat first|(refine qq fun K hK=>?_;go_simp;refine hK _ _ ?_;clear hK K)|(apply qx;(intro w2 hw2;have hk1:=hw2.cell;have hk3:=hw2.1;clear hw2;go_simp;with_reducible rfl);simp only[Act.put,sA,sB,sC])|refine qz rfl rfl ?_|(refine qE rfl rfl fun K hK=>?_;simp only[Act.put,sA,sB,sC];refine hK _ _ ?_;clear hK K)|refine qm ?_
     refine qC (fun K hK=>?_);go_simp;refine(RC.o W1.drew (qj.below H.o bd) hl ((qj.sl (qj.below HD.o bd)).more (Nat.le_refl _)) HOK.o (HE.o.below bd)).mono ?_;rintro e W2 ⟨⟨v',rfl,o2,u2⟩,b2⟩;refine hK _ _ (RN.KeepsN.of_below b2) ?_;clear hK K
     repeat first|(refine qq fun K hK=>?_;go_simp;refine hK _ _ ?_;clear hK K)|(apply qx;(intro w2 hw2;have hk1:=hw2.cell;have hk3:=hw2.1;clear hw2;go_simp;with_reducible rfl);simp only[Act.put,sA,sB,sC])|refine qz rfl rfl ?_|(refine qE rfl rfl fun K hK=>?_;simp only[Act.put,sA,sB,sC];refine hK _ _ ?_;clear hK K)|refine qm ?_
     refine qC (fun K hK=>?_);go_simp;refine hK _ _ (RN.KeepsN.alloc _ _ (by have:=b2.size;exact this)) ?_;clear hK K
     repeat first|(refine qq fun K hK=>?_;go_simp;refine hK _ _ ?_;clear hK K)|(apply qx;(intro w2 hw2;have hk1:=hw2.cell;have hk3:=hw2.1;clear hw2;go_simp;with_reducible rfl);simp only[Act.put,sA,sB,sC])|refine qz rfl rfl ?_|(refine qE rfl rfl fun K hK=>?_;simp only[Act.put,sA,sB,sC];refine hK _ _ ?_;clear hK K)|refine qm ?_
     obtain⟨W3,hW3⟩:∃X,X=W2.alloc (.cells #[.slice none 0 0] 57):=⟨_,rfl⟩
     rw[←hW3];have r3:W3.heap[W2.heap.size]?=some (.cells #[.slice none 0 0] 57 (0,0)):=by rw[hW3];exact qs W2 _
     have b3:Below W2.heap.size W2 W3:=by rw[hW3];exact(Below.refl _ _).alloc (Nat.le_refl _) _
     clear hW3;have f9:=qt r3 0;have e9:=qa r3 0;simp at e9;have l9:=qe r3;have b4:Below W1.heap.size W1 W3:=(bd.trans b2).trans (b3.mono b2.size);have R9:=qd (qn r3 0 v');have O9:=qd (qj.other (j:=0) (qj.below o2 b3) (qj.neT (qj.below o2 b3) r3 (by decide)) v');have B9:=qd (b4.setCell (p:=⟨W2.heap.size,0,none⟩) b2.size v');have U9:=qd u2;have L9:=qd b2.size;obtain⟨a',c',rfl,-⟩:=(qj.sl o2).ex;clear r3 b3 b4 o2 u2 b2 bd;refine qF (fun K hK=>?_);go_simp;refine hK _ _ ?_;clear hK K
     repeat first|(refine qq fun K hK=>?_;go_simp;refine hK _ _ ?_;clear hK K)|(apply qx;(intro w2 hw2;have hk1:=hw2.cell;have hk3:=hw2.1;clear hw2;go_simp;with_reducible rfl);simp only[Act.put,sA,sB,sC])|refine qz rfl rfl ?_|(refine qE rfl rfl fun K hK=>?_;simp only[Act.put,sA,sB,sC];refine hK _ _ ?_;clear hK K)|refine qm ?_
     exact⟨W2.heap.size,_,rfl,rfl,by simpa using R9.o,O9.o,U9.o,B9.o,L9.o⟩
    ·
     repeat first|(refine qq fun K hK=>?_;go_simp;refine hK _ _ ?_;clear hK K)|(apply qx;(intro w2 hw2;have hk1:=hw2.cell;have hk3:=hw2.1;clear hw2;go_simp;with_reducible rfl);simp only[Act.put,sA,sB,sC])|refine qz rfl rfl ?_|(refine qE rfl rfl fun K hK=>?_;simp only[Act.put,sA,sB,sC];refine hK _ _ ?_;clear hK K)|refine qm ?_
     refine qC (fun K hK=>?_);go_simp;refine hK _ _ (RN.KeepsN.alloc _ _ (Nat.le_refl _)) ?_;clear hK K
     repeat first|(refine qq fun K hK=>?_;go_simp;refine hK _ _ ?_;clear hK K)|(apply qx;(intro w2 hw2;have hk1:=hw2.cell;have hk3:=hw2.1;clear hw2;go_simp;with_reducible rfl);simp only[Act.put,sA,sB,sC])|refine qz rfl rfl ?_|(refine qE rfl rfl fun K hK=>?_;simp only[Act.put,sA,sB,sC];refine hK _ _ ?_;clear hK K)|refine qm ?_
     obtain⟨W2,hW2⟩:∃X,X=(W1.alloc (.cells #[.slice none 0 0] 57)).drew:=⟨_,rfl⟩
     rw[←hW2];have r2:W2.heap[W1.heap.size]?=some (.cells #[.slice none 0 0] 57 (0,0)):=by rw[hW2];exact qh (B:=W1.heap.size+1) (qs W1 _) (Below.refl _ _).drew (by omega)
     have ba:Below W1.heap.size W1 W2:=by rw[hW2];exact((Below.refl _ _).alloc (Nat.le_refl _) _).drew
     clear hW2;refine qC (fun K hK=>?_);go_simp;refine(RC.o W2 (qj.below H.o ba) hl ((qj.sl (qj.below HD.o ba)).more (Nat.le_refl _)) HOK.o (HE.o.below ba)).mono ?_;rintro e W3 ⟨⟨v',rfl,o2,u2⟩,b2⟩;refine hK _ _ (RN.KeepsN.of_below (b2.mono ba.size)) ?_;clear hK K
     repeat first|(refine qq fun K hK=>?_;go_simp;refine hK _ _ ?_;clear hK K)|(apply qx;(intro w2 hw2;have hk1:=hw2.cell;have hk3:=hw2.1;clear hw2;go_simp;with_reducible rfl);simp only[Act.put,sA,sB,sC])|refine qz rfl rfl ?_|(refine qE rfl rfl fun K hK=>?_;simp only[Act.put,sA,sB,sC];refine hK _ _ ?_;clear hK K)|refine qm ?_
     have r3:=qh r2 b2 (qe r2);have f9:=qt r3 0;have e9:=qa r3 0;simp at e9;have l9:=qe r3;have R9:=qd (qn r3 0 v');have O9:=qd (qj.other (j:=0) o2 (qj.neT o2 r3 (by decide)) v');have B9:=qd ((ba.trans (b2.mono ba.size)).setCell (p:=⟨W1.heap.size,0,none⟩) (Nat.le_refl _) v');have U9:=qd (u2.imp id fun h k hk=>Nat.le_trans ba.size (h k hk));obtain⟨a',c',rfl,-⟩:=(qj.sl o2).ex;clear r3 r2 o2 u2 b2 ba bd;refine qF (fun K hK=>?_);go_simp;refine hK _ _ ?_;clear hK K
     repeat first|(refine qq fun K hK=>?_;go_simp;refine hK _ _ ?_;clear hK K)|(apply qx;(intro w2 hw2;have hk1:=hw2.cell;have hk3:=hw2.1;clear hw2;go_simp;with_reducible rfl);simp only[Act.put,sA,sB,sC])|refine qz rfl rfl ?_|(refine qE rfl rfl fun K hK=>?_;simp only[Act.put,sA,sB,sC];refine hK _ _ ?_;clear hK K)|refine qm ?_
     exact⟨W1.heap.size,_,rfl,rfl,by simpa using R9.o,O9.o,U9.o,B9.o,Nat.le_refl _⟩
   ·rintro e a' X ⟨pb,v',rfl,rfl,rx,ox,ux,bx,px⟩
    obtain⟨a',c',rfl,-⟩:=(qj.sl ox).ex;have x0:=qa rx 0;simp at x0;have xl:=qe rx;have RX2:=qd (qh R2.o bx (qe R2.o));have h3:=qa RX2.o 0;have h3f:=qt RX2.o 0;simp at h3;have e4:=qp bx (by omega) e2;have e0:=qp bx (by omega) e0;have hxl:w.heap.size+1+1 < X.heap.size:=by have:=bx.size;omega
    have hxl1:w.heap.size+1 < X.heap.size:=by omega
    have hxl0:w.heap.size < X.heap.size:=by omega
    have BX:=qd (B1.o.trans (bx.mono (by omega)));have OX:=qd ox;have UX:=qd ux;have HX:=qd (qj.below H.o bx);clear rx ox ux bx e1 e2 e3 e3f;go_wp2;have c0:=qa (qn RX2.o 0 (.slice a' ρ.length c')) 0;simp at c0;refine bodyPost_ret (v:=.tuple #[Vu (.slice a' ρ.length c'),.nilIface]) (by simp[results,Tryz.results85,go_sem,c0]) rfl ?_;exact⟨⟨_,rfl,qj.other (j:=0) OX.o (qj.neT OX.o RX2.o (by decide)) _,UX.o.imp id fun h k hk=>Nat.le_trans (Nat.le_of_lt lz0) (h k hk)⟩,BX.o.setCell (p:=⟨w.heap.size+2,0,none⟩) (show w.heap.size<=w.heap.size+2 by omega) _⟩
  ·have hst:=HST.o
   obtain⟨ρ,hrep⟩:∃ρ,Yo σ s.deeds=some ρ:=by
    cases hr:Yo σ s.deeds with
    |none=>simp[yH,hr] at hst
    |some ρ=>exact⟨ρ,rfl⟩
   have hτ:σ=τ:=by simp[yH,hrep] at hst;exact hst
   subst hτ;have RC:=fun X=>Rm (.slice a σ.length cp) (.slice dA s.deeds.length dC) σ s.deeds X;rw[hrep] at RC;have RC:=qd RC;clear hst hrep;go_wp2_with fail;refine wp_mono (Q:=OneMid w W1 a cp σ ρ b off A.length tc k x false true (.bool true) (.bool false) (.slice dA s.deeds.length dC)) ?_ ?_
   ·have bd:Below W1.heap.size W1 W1.drew:=(Below.refl _ W1).drew
    refine qD (W1.heap.size) [1,0,0,0,0,1,3,0,0,0,3,2,0] (.frk [0,1,2,3,4,5] (.fin [6,7,8,9,10,11,12]) (.fin [10,6,7,8,9,11,12])) (by kernel_rfl) ?_;simp only[xC,qJ,qu,sD,sE,sF,sG]
    repeat first|(refine qq fun K hK=>?_;go_simp;refine hK _ _ ?_;clear hK K)|(apply qx;(intro w2 hw2;have hk1:=hw2.cell;have hk3:=hw2.1;clear hw2;go_simp;with_reducible rfl);simp only[Act.put,sA,sB,sC])|refine qz rfl rfl ?_|(refine qE rfl rfl fun K hK=>?_;simp only[Act.put,sA,sB,sC];refine hK _ _ ?_;clear hK K)|refine qm ?_
    refine⟨?_,?_⟩
    ·
     repeat first|(refine qq fun K hK=>?_;go_simp;refine hK _ _ ?_;clear hK K)|(apply qx;(intro w2 hw2;have hk1:=hw2.cell;have hk3:=hw2.1;clear hw2;go_simp;with_reducible rfl);simp only[Act.put,sA,sB,sC])|refine qz rfl rfl ?_|(refine qE rfl rfl fun K hK=>?_;simp only[Act.put,sA,sB,sC];refine hK _ _ ?_;clear hK K)|refine qm ?_
     refine qC (fun K hK=>?_);go_simp;refine(RC.o W1.drew (qj.below H.o bd) hl ((qj.sl (qj.below HD.o bd)).more (Nat.le_refl _)) HOK.o (HE.o.below bd)).mono ?_;rintro e W2 ⟨⟨v',rfl,o2,u2⟩,b2⟩;refine hK _ _ (RN.KeepsN.of_below b2) ?_;clear hK K
     repeat first|(refine qq fun K hK=>?_;go_simp;refine hK _ _ ?_;clear hK K)|(apply qx;(intro w2 hw2;have hk1:=hw2.cell;have hk3:=hw2.1;clear hw2;go_simp;with_reducible rfl);simp only[Act.put,sA,sB,sC])|refine qz rfl rfl ?_|(refine qE rfl rfl fun K hK=>?_;simp only[Act.put,sA,sB,sC];refine hK _ _ ?_;clear hK K)|refine qm ?_
     refine qC (fun K hK=>?_);go_simp;refine hK _ _ (RN.KeepsN.alloc _ _ (by have:=b2.size;exact this)) ?_;clear hK K
     repeat first|(refine qq fun K hK=>?_;go_simp;refine hK _ _ ?_;clear hK K)|(apply qx;(intro w2 hw2;have hk1:=hw2.cell;have hk3:=hw2.1;clear hw2;go_simp;with_reducible rfl);simp only[Act.put,sA,sB,sC])|refine qz rfl rfl ?_|(refine qE rfl rfl fun K hK=>?_;simp only[Act.put,sA,sB,sC];refine hK _ _ ?_;clear hK K)|refine qm ?_
     obtain⟨W3,hW3⟩:∃X,X=W2.alloc (.cells #[.slice none 0 0] 57):=⟨_,rfl⟩
     rw[←hW3];have r3:W3.heap[W2.heap.size]?=some (.cells #[.slice none 0 0] 57 (0,0)):=by rw[hW3];exact qs W2 _
     have b3:Below W2.heap.size W2 W3:=by rw[hW3];exact(Below.refl _ _).alloc (Nat.le_refl _) _
     clear hW3;have f9:=qt r3 0;have e9:=qa r3 0;simp at e9;have l9:=qe r3;have b4:Below W1.heap.size W1 W3:=(bd.trans b2).trans (b3.mono b2.size);have R9:=qd (qn r3 0 v');have O9:=qd (qj.other (j:=0) (qj.below o2 b3) (qj.neT (qj.below o2 b3) r3 (by decide)) v');have B9:=qd (b4.setCell (p:=⟨W2.heap.size,0,none⟩) b2.size v');have U9:=qd u2;have L9:=qd b2.size;obtain⟨a',c',rfl,-⟩:=(qj.sl o2).ex;clear r3 b3 b4 o2 u2 b2 bd;refine qF (fun K hK=>?_);go_simp;refine hK _ _ ?_;clear hK K
     repeat first|(refine qq fun K hK=>?_;go_simp;refine hK _ _ ?_;clear hK K)|(apply qx;(intro w2 hw2;have hk1:=hw2.cell;have hk3:=hw2.1;clear hw2;go_simp;with_reducible rfl);simp only[Act.put,sA,sB,sC])|refine qz rfl rfl ?_|(refine qE rfl rfl fun K hK=>?_;simp only[Act.put,sA,sB,sC];refine hK _ _ ?_;clear hK K)|refine qm ?_
     exact⟨W2.heap.size,_,rfl,rfl,by simpa using R9.o,O9.o,U9.o,B9.o,L9.o⟩
    ·
     repeat first|(refine qq fun K hK=>?_;go_simp;refine hK _ _ ?_;clear hK K)|(apply qx;(intro w2 hw2;have hk1:=hw2.cell;have hk3:=hw2.1;clear hw2;go_simp;with_reducible rfl);simp only[Act.put,sA,sB,sC])|refine qz rfl rfl ?_|(refine qE rfl rfl fun K hK=>?_;simp only[Act.put,sA,sB,sC];refine hK _ _ ?_;clear hK K)|refine qm ?_
     refine qC (fun K hK=>?_);go_simp;refine hK _ _ (RN.KeepsN.alloc _ _ (Nat.le_refl _)) ?_;clear hK K
     repeat first|(refine qq fun K hK=>?_;go_simp;refine hK _ _ ?_;clear hK K)|(apply qx;(intro w2 hw2;have hk1:=hw2.cell;have hk3:=hw2.1;clear hw2;go_simp;with_reducible rfl);simp only[Act.put,sA,sB,sC])|refine qz rfl rfl ?_|(refine qE rfl rfl fun K hK=>?_;simp only[Act.put,sA,sB,sC];refine hK _ _ ?_;clear hK K)|refine qm ?_
     obtain⟨W2,hW2⟩:∃X,X=(W1.alloc (.cells #[.slice none 0 0] 57)).drew:=⟨_,rfl⟩
     rw[←hW2];have r2:W2.heap[W1.heap.size]?=some (.cells #[.slice none 0 0] 57 (0,0)):=by rw[hW2];exact qh (B:=W1.heap.size+1) (qs W1 _) (Below.refl _ _).drew (by omega)
     have ba:Below W1.heap.size W1 W2:=by rw[hW2];exact((Below.refl _ _).alloc (Nat.le_refl _) _).drew
     clear hW2;refine qC (fun K hK=>?_);go_simp;refine(RC.o W2 (qj.below H.o ba) hl ((qj.sl (qj.below HD.o ba)).more (Nat.le_refl _)) HOK.o (HE.o.below ba)).mono ?_;rintro e W3 ⟨⟨v',rfl,o2,u2⟩,b2⟩;refine hK _ _ (RN.KeepsN.of_below (b2.mono ba.size)) ?_;clear hK K
     repeat first|(refine qq fun K hK=>?_;go_simp;refine hK _ _ ?_;clear hK K)|(apply qx;(intro w2 hw2;have hk1:=hw2.cell;have hk3:=hw2.1;clear hw2;go_simp;with_reducible rfl);simp only[Act.put,sA,sB,sC])|refine qz rfl rfl ?_|(refine qE rfl rfl fun K hK=>?_;simp only[Act.put,sA,sB,sC];refine hK _ _ ?_;clear hK K)|refine qm ?_
     have r3:=qh r2 b2 (qe r2);have f9:=qt r3 0;have e9:=qa r3 0;simp at e9;have l9:=qe r3;have R9:=qd (qn r3 0 v');have O9:=qd (qj.other (j:=0) o2 (qj.neT o2 r3 (by decide)) v');have B9:=qd ((ba.trans (b2.mono ba.size)).setCell (p:=⟨W1.heap.size,0,none⟩) (Nat.le_refl _) v');have U9:=qd (u2.imp id fun h k hk=>Nat.le_trans ba.size (h k hk));obtain⟨a',c',rfl,-⟩:=(qj.sl o2).ex;clear r3 r2 o2 u2 b2 ba bd;refine qF (fun K hK=>?_);go_simp;refine hK _ _ ?_;clear hK K
     repeat first|(refine qq fun K hK=>?_;go_simp;refine hK _ _ ?_;clear hK K)|(apply qx;(intro w2 hw2;have hk1:=hw2.cell;have hk3:=hw2.1;clear hw2;go_simp;with_reducible rfl);simp only[Act.put,sA,sB,sC])|refine qz rfl rfl ?_|(refine qE rfl rfl fun K hK=>?_;simp only[Act.put,sA,sB,sC];refine hK _ _ ?_;clear hK K)|refine qm ?_
     exact⟨W1.heap.size,_,rfl,rfl,by simpa using R9.o,O9.o,U9.o,B9.o,Nat.le_refl _⟩
   ·rintro e a' X ⟨pb,v',rfl,rfl,rx,ox,ux,bx,px⟩
    obtain⟨a',c',rfl,-⟩:=(qj.sl ox).ex;have x0:=qa rx 0;simp at x0;have xl:=qe rx;have RX2:=qd (qh R2.o bx (qe R2.o));have h3:=qa RX2.o 0;have h3f:=qt RX2.o 0;simp at h3;have e4:=qp bx (by omega) e2;have e0:=qp bx (by omega) e0;have hxl:w.heap.size+1+1 < X.heap.size:=by have:=bx.size;omega
    have hxl1:w.heap.size+1 < X.heap.size:=by omega
    have hxl0:w.heap.size < X.heap.size:=by omega
    have BX:=qd (B1.o.trans (bx.mono (by omega)));have OX:=qd ox;have UX:=qd ux;have HX:=qd (qj.below H.o bx);clear rx ox ux bx e1 e2 e3 e3f;go_wp2;have c0:=qa (qn RX2.o 0 (.slice a σ.length cp)) 0;simp at c0;refine bodyPost_ret (v:=.tuple #[Vu (.slice a σ.length cp),.nilIface]) (by simp[results,Tryz.results85,go_sem,c0]) rfl ?_;exact⟨⟨_,rfl,qj.other (j:=0) HX.o (qj.neT HX.o RX2.o (by decide)) _,.inl rfl⟩,BX.o.setCell (p:=⟨w.heap.size+2,0,none⟩) (show w.heap.size<=w.heap.size+2 by omega) _⟩
end
structure Fr (S:Nat->Prop) (w w':World):Prop where
 base:Below 0 w w'
 blk:∀k,k < w.heap.size->¬S k->w'.heap[k]?=w.heap[k]?
section
variable {S S':Nat->Prop} {w w1 w':World}
theorem Fr.row {g:Nat} {O:Obj} (h:Fr S w w') (hr:w.heap[g]?=some O) (hg:¬S g):w'.heap[g]?=some O:=(h.blk g (Array.getElem?_eq_some_iff.1 hr).1 hg).trans hr
theorem qj.fr {α:Type} {f:α->List Value} {e:TypeId} {sz B:Nat} {v:Value} {l:List α} (h:qj f e sz w B v l) (hk:Fr S w w') (hn:∀k,v.ownBlock=some k->¬S k):qj f e sz w' B v l:=by
 obtain⟨h1,h2⟩:=h;refine⟨h1,?_⟩;rcases h2 with h2|⟨g,cap,cur,rfl,hg,hh,r⟩
 ·exact .inl h2
 ·exact .inr ⟨g,cap,cur,rfl,hg,hk.row hh (hn g rfl),r⟩
end
section
attribute [local irreducible] xL
attribute [local go_sem] Oper.semAt_some
def HandP (n0 bs:Nat) (S:Nat->List Int) (q:Nat->Prop) (i:Nat) (w:World) (hb:Nat) (args:Array Value):Prop:=∃v',args=#[.int .i64 i,.agg #[v',.nilIface]]/\jO w 0 v' (S (i+1))/\∀k,v'.ownBlock=some k->k < hb/\¬q k/\((k < n0/\k≠bs)\/∃k0,q k0/\k0<=k)
theorem qj.keepL {α:Type} {f:α->List Value} {e:TypeId} {sz B lo hb:Nat} {v:Value} {l:List α} {w w':World} (h:qj f e sz w B v l) {L:Nat->Prop} (hk:xi Mo L lo hb w w') (hS:∀k,v.ownBlock=some k->(L k\/lo<=k)/\k < hb):qj f e sz w' B v l:=by
 obtain⟨h1,h2⟩:=h;refine⟨h1,?_⟩;rcases h2 with h2|⟨g,cap,cur,rfl,hg,hh,r⟩
 ·exact .inl h2
 ·exact .inr ⟨g,cap,cur,rfl,hg,hk.block g _ (hS g rfl).1 (hS g rfl).2 hh id,r⟩
section
variable {bs n:Nat} {u:Value} {w w':World} {fz:Nat×Nat}
theorem qj.keep0 {α:Type} {f:α->List Value} {e:TypeId} {sz B:Nat} {v:Value} {l:List α} (h:qj f e sz w B v l) (hk:xi Mo (Lb n fun k=>k=bs) n n w w') (hn:n=w.heap.size) (hb:w.heap[bs]?=some (.cells #[u] 57 fz)) (he:57≠e):qj f e sz w' B v l:=by
 subst hn;exact qj.keepL h hk fun k hk'=>⟨.inl ⟨(qj.lt h k hk').2,fun e2=>qj.neT h hb he (e2▸hk')⟩,(qj.lt h k hk').2⟩
theorem zw.keep0 {B:Nat} {v:Value} {A:Au} (h:zw w B v A) (hk:xi Mo (Lb n fun k=>k=bs) n n w w') (hn:n=w.heap.size) (hb:w.heap[bs]?=some (.cells #[u] 57 fz)):zw w' B v A:=
 let ⟨rs,h1,h2,h3⟩:=h
 ⟨rs,qj.keep0 h1 hk hn hb (by decide),h2,fun k r s hr hs=>⟨(h3 k r s hr hs).1,qj.keep0 (h3 k r s hr hs).2 hk hn hb (by decide)⟩⟩
theorem uu.keep0 {g:Nat} (h:uu g w) (hk:xi Mo (Lb n fun k=>k=bs) n n w w') (hn:n=w.heap.size) (hb:w.heap[bs]?=some (.cells #[u] 57 fz)) (hu:∀t v,u≠.iface t v):uu g w':=by
 obtain⟨h1,t,v,h2⟩:=h;have hne:g≠bs:=by
  rintro rfl;have:=qa hb 0;simp at this;rw[this] at h2;exact hu t v (Option.some.inj h2)
 refine⟨Nat.lt_of_lt_of_le h1 hk.size,t,v,?_⟩;have hg:=hk.row0 hn (Array.getElem?_eq_getElem h1) hne;rw[←h2];unfold World.cell?;simp only[hg,Array.getElem?_eq_getElem h1]
end
theorem pl_pts (m:Nat) (w0:World) (S:Nat->List Int) (A:Au) (ord:List (Int×Bool)) (al:Bool) (B bs p1 p2 p3 p4:Nat) (u v tv stv:Value) (hl:∀i,i<=ord.length->(S i).length=(S 0).length) (hl0:(S 0).length<=1000) (hn:ord.length<=1000)
  (hS:∀(i:Nat) (p:Int×Bool),ord[i]?=some p->∃(k:Nat) (s:St),A[k]?=some s/\s.id=p.1/\(∀(j:Nat) (t:St),j < k->A[j]?=some t->t.id≠p.1)/\(∀d ∈ s.deeds,DdR (S i) d)/\yH (fun _=>s.deeds) al (S i) p=some (S (i+1)))
  (hbs:w0.heap[bs]?=some (.cells #[u] 57 (0,0))) (hu:∀t v,u≠.iface t v) (h1:w0.heap[p1]?=some (.cells #[v] 57 (0,0))) (h2:w0.heap[p2]?=some (.cells #[stv] 28 (0,0))) (h3:w0.heap[p3]?=some (.cells #[tv] 42 (0,0))) (h4:w0.heap[p4]?=some (.cells #[.bool al] 4 (0,0))) (n1:p1≠bs)
  (hO:jO w0 0 v (S 0)) (hst:qj vL 87 2 w0 0 stv ord) (hT:zw w0 B tv A) (hE:uu 16 w0):
  IterC Tryz.prog Mo (Lb w0.heap.size fun k=>k=bs) (fun _=>True) (fun _=>True) 84 #[.pointer (some ⟨p1,0,none⟩),.pointer (some ⟨p2,0,none⟩),.pointer (some ⟨p3,0,none⟩),.pointer (some ⟨p4,0,none⟩)] m
  (fun W=>Below w0.heap.size w0 W) (fun _=>True) (HandP w0.heap.size bs S) ord.length:=by
 intro l J Jx W hP _ hJ _ hY h0;have n2:p2≠bs:=by rintro rfl;rw[hbs] at h2;simp at h2
 have n3:p3≠bs:=by rintro rfl;rw[hbs] at h3;simp at h3
 have n4:p4≠bs:=by rintro rfl;rw[hbs] at h4;simp at h4
 obtain⟨a9,c9,rfl⟩:=qj.slv hst;obtain⟨a8,c8,rfl⟩:=qj.slv hO;have F0:xi Mo (Lb w0.heap.size fun k=>k=bs) w0.heap.size w0.heap.size w0 W:=xi.below hP (Nat.le_refl _);have y1:=qa (F0.row0 rfl h1 n1) 0;have y2:=qa (F0.row0 rfl h2 n2) 0;simp at y1 y2;have l1:=qe (F0.row0 rfl h1 n1);have l2:=qe (F0.row0 rfl h2 n2);have hm:m+1 - 1=m:=rfl;refine callsIn_of_wp Tryz.func84 rfl trivial ?_ rfl;simp only[Tryz.ntmps84,List.size_toArray,List.length_cons,List.length_nil,Nat.reduceAdd,Nat.reduceSub,Array.replicate_succ,Array.replicate_zero,List.push_toArray,List.append_toArray,List.nil_append,List.cons_append];have b1:Below W.heap.size W (W.alloc (.cells #[.slice a8 (S 0).length c8] 57)):=(Below.refl _ W).alloc (Nat.le_refl _) _;have r1:=qs W (.cells #[.slice a8 (S 0).length c8] 57);have hJ1:J (fun k=>k=W.heap.size) 0 (W.alloc (.cells #[.slice a8 (S 0).length c8] 57)):=hJ _ 0 _ _ trivial (h0 _ trivial fun k e=>by cases e;exact Nat.le_refl _) (Nat.le_refl _) b1 fun k hk _=>b1.block k hk;have F1:=F0.more (xi.below (lo:=w0.heap.size) b1 (Nat.le_refl _)) F0.size;have O1:=qd (qj.keep0 hO F1 rfl hbs (by decide));have U1:=qd (fun k (hk:(Value.slice a8 (S 0).length c8).ownBlock=some k)=>(⟨(qj.lt hO k hk).2,fun e=>qj.neT hO hbs (by decide) (e▸hk)⟩:Lb w0.heap.size (fun k=>k=bs) k));have HY:=qd hY;have HJ:=qd hJ;have HS:=qd hS;have hW0:=F0.size;have R1:=qd r1;have F1:=qd F1;have HJ1:=qd hJ1;have HT:=qd hT;have HE:=qd hE;have HST:=qd hst;have HL:=qd hl;have HBS:=qd hbs;have HU:=qd hu;have H3:=qd h3;have H4:=qd h4;clear hY hJ h0 F0 b1 r1 hJ1 hP hS hT hE hst hl hbs hu h1 h2 h3 h4 hO;gi_wp2_with fail
 gi_loopw [14] (fun p wr=>∃(i:Nat) (x:Value),i<=ord.length/\p=.int .i64 i/\J (fun k=>k=W.heap.size) i wr/\xi Mo (Lb w0.heap.size fun k=>k=bs) w0.heap.size w0.heap.size w0 wr/\W.heap.size < wr.heap.size/\wr.heap[W.heap.size]?=some (.cells #[x] 57 (0,0))/\jO wr 0 x (S i)/\(∀k,x.ownBlock=some k->Lb w0.heap.size (fun k=>k=bs) k\/W.heap.size<=k))
  (fun p _=>ord.length - (intOf p).toNat)
 case atStart=>exact⟨0,_,by omega,by go_num,HJ1.o,F1.o,by simp,R1.o,O1.o,fun k hk=>.inl (U1.o k hk)⟩
 case round=>
  obtain⟨i,x,hi,rfl,hJi,hF,hsz,hnow,hOi,hU⟩:=hrel;have hW1:W.heap.size<=wr.heap.size:=Nat.le_of_lt hsz;clear HJ1 F1 R1 O1 U1;by_cases hlt:i < ord.length
  ·obtain ⟨b,off,y,hq,hb,hx,hc⟩:=(qj.sl (qj.keep0 HST.o hF rfl HBS.o (by decide))).atF Za rfl hlt
   subst hq;obtain⟨id,c⟩:=y;have c0:wr.cell? ⟨b,off+i*2,none⟩=some (.int .i64 id):=hc 0 (by decide);have c1:wr.cell? ⟨b,off+i*2+1,none⟩=some (.bool c):=hc 1 (by decide);have y3:=qa (hF.row0 rfl H3.o n3) 0;have y4:=qa (hF.row0 rfl H4.o n4) 0;have y0:=qa hnow 0;simp at y0 y3 y4;have l3:=qe (hF.row0 rfl H3.o n3);have l4:=qe (hF.row0 rfl H4.o n4);obtain⟨k,s,hk,hid',hfst,hdd,hstp⟩:=HS.o i _ hx;obtain⟨ax,cx,rfl⟩:=qj.slv hOi;have hln:=HL.o i hi;have ba:Below wr.heap.size wr (wr.alloc (.cells #[.int .i64 id,.bool c] 87)):=(Below.refl _ wr).alloc (Nat.le_refl _) _;have ONE:=qd (pl_one (.slice ax (S i).length cx) tv (S i) (S (i+1)) A id c al _ (qj.below hOi ba) (by omega) ((zw.keep0 HT.o hF rfl HBS.o).below ba) hk hid' hfst hdd ((uu.keep0 HE.o hF rfl HBS.o HU.o).below ba) hstp);have BA:=qd ba;have hsa:=ba.size;have hne:=qj.neT hOi hnow (by decide);have HJi:=qd hJi;have HF:=qd hF;have HN:=qd hnow;have HUi:=qd hU;have HNE:=qd hne;clear hk hid' hfst hdd hstp hc ba hJi hF hnow hU hOi hne hln;gi_wp2_with fail;refine⟨trivial,(callsIn_wide.2 ONE.o).mono ?_⟩;rintro e w1 ⟨⟨v',rfl,o2,u2⟩,b2⟩;obtain⟨a',c',rfl⟩:=qj.slv o2;have hs1:wr.heap.size<=w1.heap.size:=Nat.le_trans hsa b2.size;have b3:Below wr.heap.size wr (w1.alloc (.cells #[.slice a' (S (i+1)).length c'] 57)):=(BA.o.trans (b2.mono hsa)).alloc hs1 _;have o3:=qj.below o2 (((Below.refl _ w1).alloc (Nat.le_refl _) (.cells #[.slice a' (S (i+1)).length c'] 57)));have r9:=qs w1 (.cells #[.slice a' (S (i+1)).length c'] 57);have n3':=qh HN.o b3 hsz;have v3:∀k,(Value.slice a' (S (i+1)).length c').ownBlock=some k->(Lb w0.heap.size (fun k=>k=bs) k\/W.heap.size<=k)/\k < w1.heap.size+1/\¬k=W.heap.size:=by
    intro k hk;have hlt3:=(qj.lt o3 k hk).2;have hn3:=qj.neT o3 n3' (by decide);refine⟨?_,by simpa using hlt3,fun e=>hn3 (e▸hk)⟩;rcases u2 with u2|u2
    ·exact HUi.o k (by rw[←u2];exact hk)
    ·exact .inr (by have:=u2 k hk;omega)
   have J2:=HJ.o (fun k=>k=W.heap.size) i _ _ trivial HJi.o hW1 (b3.mono hW1) fun k hk _=>b3.block k hk;obtain⟨fn,tmps,assign,body,hy,hR⟩:=HY.o (fun k=>k=W.heap.size) i _ (w1.heap.size+1) #[.int .i64 i,.agg #[.slice a' (S (i+1)).length c',.nilIface]] hlt trivial J2 (fun k e=>by cases e;exact⟨Nat.le_refl _,by omega⟩) (by omega) (by simp) ⟨_,rfl,o3,fun k hk=>⟨(v3 k hk).2.1,(v3 k hk).2.2,(v3 k hk).1.imp (fun h=>h) fun h=>⟨_,rfl,h⟩⟩⟩;have B3:=qd b3;have O3:=qd o3;have R9:=qd r9;have N3:=qd n3';have V3:=qd v3;clear b3 o3 r9 n3' v3 J2 o2 u2 b2 ONE HNE;gi_wp2_with fail;refine hR.mono ?_;rintro e W3 (⟨rfl,⟨hJ3,hk3⟩,-⟩|⟨rfl,hJx3,-⟩)
   ·have r9:=hk3.block _ _ (.inr (by omega)) (by omega) R9.o fun h=>h
    have n3':=hk3.block _ _ (.inr (Nat.le_refl _)) (by omega) N3.o fun h=>h;have z9:=qa r9 0;have z0:=qa n3' 0;have f0:=qt n3' 0;simp at z9 z0;have zl:=qe n3';have zl9:=qe r9;have F3:=(HF.o.more (xi.below (lo:=w0.heap.size) B3.o (Nat.le_trans hW0 (by omega))) (Nat.le_refl _)).more hk3 (by omega);have FF:=qd (F3.more (xi.set (lo:=w0.heap.size) (hb:=w0.heap.size) (A:=W3) (g:=W.heap.size) (j:=0) (.slice a' (S (i+1)).length c') (.inr hW0)) (Nat.le_refl _));have o3:=qj.keepL O3.o hk3 fun k hk=>⟨(V3.o k hk).1,(V3.o k hk).2.1⟩
    have OF:=qd (qj.other (j:=0) o3 (qj.neT o3 n3' (by decide)) (.slice a' (S (i+1)).length c'));have RF:=qd (qn n3' 0 (.slice a' (S (i+1)).length c'));have JF:=qd (HJ.o (fun k=>k=W.heap.size) (i+1) _ _ trivial hJ3 (by omega) ((Below.refl _ W3).setCell (p:=⟨W.heap.size,0,none⟩) (Nat.le_refl _) (.slice a' (S (i+1)).length c')) fun k _ hk=>Below.heap_setCell _ _ _ _ fun e=>hk e);clear r9 n3' F3 o3 hJ3 hk3;gi_wp2_with fail;go_roundw
    case rel=>exact⟨i+1,_,by omega,by go_num,JF.o,FF.o,by simpa using zl,RF.o,OF.o,fun k hk=>(V3.o k hk).1⟩
    case measure=>simp[intOf];omega
   ·gi_wp2_with fail
    refine bodyPost_ret (results_none rfl _ _ _) rfl ?_;exact⟨⟨_,rfl⟩,(fun k=>k=W.heap.size),trivial,.inr ⟨i+1,by omega,by omega,hJx3⟩⟩
  ·obtain rfl:i=ord.length:=by omega
   have hq:decide ((ord.length:Int) < (ord.length:Int))=false:=by simp
   gi_wp2_with fail;go_end0;exact⟨⟨_,rfl⟩,_,trivial,.inl hJi⟩
theorem VD {dl:Int->List Dd} {al:Bool}:∀{ord:List (Int×Bool)} {σ τ:List Int},zT dl al σ ord=some τ->∃S:Nat->List Int,S 0=σ/\S ord.length=τ/\∀(i:Nat) (p:Int×Bool),ord[i]?=some p->yH dl al (S i) p=some (S (i+1))
 |[],σ,τ,h=>⟨fun _=>σ,rfl,by simpa[zT] using h,fun i p hp=>by simp at hp⟩
 |p::l,σ,τ,h=>by
  simp only[zT] at h;cases hs:yH dl al σ p with
  |none=>rw[hs] at h;cases h
  |some ρ=>
   rw[hs] at h;obtain⟨S,h1,h2,h3⟩:=VD h;refine⟨fun i=>match i with|0=>σ|i+1=>S i,rfl,h2,fun i q hq=>?_⟩;cases i with
   |zero=>
    simp only[List.getElem?_cons_zero,Option.some.injEq] at hq;subst hq;show yH dl al σ p=some (S 0);rw[hs,h1]
   |succ i=>exact h3 i q (by simpa using hq)
theorem JN {dl:Int->List Dd} {al:Bool} {ord:List (Int×Bool)} {S:Nat->List Int} (h:∀(i:Nat) (p:Int×Bool),ord[i]?=some p->yH dl al (S i) p=some (S (i+1))):∀i,i<=ord.length->(S i).length=(S 0).length
 |0,_=>rfl
 |i+1,hi=>by
  obtain⟨p,hp⟩:∃p,ord[i]?=some p:=⟨_,List.getElem?_eq_getElem (by omega)⟩
  rw[JO (h i p hp)];exact JN h i (by omega)
theorem VG {dl:Int->List Dd} {al:Bool} {σ τ:List Int} {p:Int×Bool} {k:Nat} (h:yH dl al σ p=some τ) (hd:∀d ∈ dl p.1,d.op=2->YI d.val) (hs:∀x,σ[k]?=some x->YI x):∀x,τ[k]?=some x->YI x:=by
 unfold yH at h
 split at h
 ·cases h;exact hs
 ·cases hr:Yo σ (dl p.1) with
  |none=>rw[hr] at h;cases h
  |some ρ=>
   rw[hr] at h;simp only[Option.some.injEq] at h
   split at h
   ·exact h▸Kk hd hr hs
   ·exact h▸hs
theorem Yu {A:Au} {x:Int} {d:Dd} (h:d ∈ yZ A x):∃s ∈ A,d ∈ s.deeds:=by
 unfold yZ at h;cases hf:A.find? (fun s=>s.id==x) with
 |none=>rw[hf] at h;cases h
 |some s=>rw[hf] at h;exact⟨s,List.mem_of_find?_eq_some hf,h⟩
theorem VE {A:Au} {al:Bool} {ord:List (Int×Bool)} {S:Nat->List Int} (hok:∀s ∈ A,∀d ∈ s.deeds,DdR (S 0) d) (h:∀(i:Nat) (p:Int×Bool),ord[i]?=some p->yH (yZ A) al (S i) p=some (S (i+1))):∀i,i<=ord.length->∀s ∈ A,∀d ∈ s.deeds,DdR (S i) d
 |0,_=>hok
 |i+1,hi=>fun s hs d hd=>by
  have hp:=h i _ (List.getElem?_eq_getElem (by omega));have ih:=VE hok h i (by omega);have q:=ih s hs d hd;refine⟨by rw[JO hp];exact q.obj,VG hp (fun e he=>?_) q.sm,q.op,q.key⟩;obtain⟨s',hs',he'⟩:=Yu he;exact(ih s' hs' e he').wr
def OrI (S:Nat->List Int) (l0:Nat) (w:World) (q:Nat->Prop) (i:Nat) (A:World):Prop:=(∃x,A.heap[w.heap.size]?=some (.cells #[x] 57 (0,0))/\A.heap[w.heap.size+1]?=some (.cells #[.slice none 0 0] 57 (0,0))/\A.heap[w.heap.size+1+1]?=some (.cells #[.nilIface] 34 (0,0))/\jO A 0 x (S i)/\∀k,x.ownBlock=some k->k≠l0/\¬q k)/\Below w.heap.size w A/\∀k,q k->w.heap.size+3<=k
theorem Nz {w:World} {a1 a2 a3:Option Addr} {n1 n2 n3 c1 c2 c3:Nat} {al:Bool}:Calls Tryz.prog 49 #[Vu (.slice a1 n1 c1),.slice a2 n2 c2,.slice a3 n3 c3,.bool al] w fun e w'=>e=.returned (.func (.func 84) #[] #[.pointer (some ⟨w.heap.size,0,none⟩),.pointer (some ⟨w.heap.size+1+1,0,none⟩),.pointer (some ⟨w.heap.size+1,0,none⟩),.pointer (some ⟨w.heap.size+1+1+1,0,none⟩)])/\
  w'=(((w.alloc (.cells #[.slice a1 n1 c1] 57)).alloc (.cells #[.slice a2 n2 c2] 42)).alloc (.cells #[.slice a3 n3 c3] 28)).alloc (.cells #[.bool al] 4):=by
 go_enter Tryz.func49,Tryz.ntmps49;go_wp2;go_ret;exact⟨rfl,rfl⟩
theorem MT {B:Nat} (v tv stv:Value) (σ τ:List Int) (A:Au) (ord:List (Int×Bool)) (al:Bool) (w:World) (h:jO w 0 v σ) (hl:σ.length<=1000) (hn:ord.length<=1000) (hst:qj vL 87 2 w 0 stv ord) (hT:zw w B tv A) (hE:uu 16 w)
  (hA:∀p ∈ ord,∃(k:Nat) (s:St),A[k]?=some s/\s.id=p.1/\∀(j:Nat) (t:St),j < k->A[j]?=some t->t.id≠p.1) (hok:∀s ∈ A,∀d ∈ s.deeds,DdR σ d) (hp:zT (yZ A) al σ ord=some τ):
  Calls Tryz.prog 19 #[Vu v,tv,stv,.bool al] w fun e w'=>∃v',e=.returned (.tuple #[Vu v',.nilIface])/\jO w' 0 v' τ/\Below w.heap.size w w':=by
 obtain⟨S,rfl,rfl,hS⟩:=VD hp;have hlen:=JN hS;have hS':∀(i:Nat) (p:Int×Bool),ord[i]?=some p->∃(k:Nat) (s:St),A[k]?=some s/\s.id=p.1/\(∀(j:Nat) (t:St),j < k->A[j]?=some t->t.id≠p.1)/\(∀d ∈ s.deeds,DdR (S i) d)/\yH (fun _=>s.deeds) al (S i) p=some (S (i+1)):=by
  intro i p hip;obtain⟨k,s,hk,hid',hfst⟩:=hA p (List.mem_of_getElem? hip);refine⟨k,s,hk,hid',hfst,VE hok hS i (Nat.le_of_lt (List.getElem?_eq_some_iff.1 hip).1) s (List.mem_of_getElem? hk),?_⟩;rw[←hS i p hip];have:yZ A p.1=s.deeds:=by
   unfold yZ;have:A.find? (fun s=>s.id==p.1)=some s:=by
    rw[List.find?_eq_some_iff_getElem];obtain⟨hkl,he⟩:=List.getElem?_eq_some_iff.1 hk;refine⟨by simp[hid'],k,hkl,he,fun j hj=>?_⟩;have:=hfst j A[j] hj (List.getElem?_eq_getElem (by omega));simpa using this
   rw[this]
  unfold yH;rw[this]
 obtain⟨av,cv,rfl⟩:=qj.slv h;obtain⟨rs,hTv,-,-⟩:=id hT;obtain⟨af,ct,htv⟩:=qj.slv hTv;obtain⟨ae,cs,rfl⟩:=qj.slv hst;subst htv;have P1:=qd (fun w0:World=>pl_pts 2 w0 S A ord al B w.heap.size (w.heap.size+3) (w.heap.size+3+1+1) (w.heap.size+3+1) (w.heap.size+3+1+1+1) (.slice av (S 0).length cv) (.slice av (S 0).length cv) (.slice af rs.length ct) (.slice ae ord.length cs) hlen hl hn hS');have HL:=qd hlen;have H:=qd h;have HT:=qd hT;have HE:=qd hE;have HST:=qd hst;clear hS hS' hp hA hok hlen h hT hE hst hTv;have b0:Below w.heap.size w (((w.alloc (.cells #[.slice av (S 0).length cv] 57)).alloc (.cells #[.slice none 0 0] 57)).alloc (.cells #[.nilIface] 34)):=(((Below.refl _ w).alloc (Nat.le_refl _) _).alloc (by simp) _).alloc (by simp;omega) _;have r0:=qy (o:=.cells #[.nilIface] 34) (qy (o:=.cells #[.slice none 0 0] 57) (qs w (.cells #[.slice av (S 0).length cv] 57)));have r1:=qy (o:=.cells #[.nilIface] 34) (qs (w.alloc (.cells #[.slice av (S 0).length cv] 57)) (.cells #[.slice none 0 0] 57));have r2:=qs ((w.alloc (.cells #[.slice av (S 0).length cv] 57)).alloc (.cells #[.slice none 0 0] 57)) (.cells #[.nilIface] 34);have z0:=show(((w.alloc (.cells #[.slice av (S 0).length cv] 57)).alloc (.cells #[.slice none 0 0] 57)).alloc (.cells #[.nilIface] 34)).heap.size=w.heap.size+3 by simp
 simp only[World.size_alloc] at r1 r2;refine(callsIn_wide (n:=2+2)).1 ?_;refine callsIn_of_wp_marks Tryz.func19 rfl trivial ?_ rfl;simp only[Tryz.ntmps19,List.size_toArray,List.length_cons,List.length_nil,Nat.reduceAdd,Nat.reduceSub,Array.replicate_succ,Array.replicate_zero,List.push_toArray,List.append_toArray,List.nil_append,List.cons_append];have B0:=qd b0;have R0:=qd r0;have R1:=qd r1;have R2:=qd r2;have Z0:=qd z0;clear b0 r0 r1 r2 z0;gi_wp2_with fail;generalize ((w.alloc (.cells #[.slice av (S 0).length cv] 57)).alloc (.cells #[.slice none 0 0] 57)).alloc (.cells #[.nilIface] 34)=W0 at *;refine⟨trivial,(callsIn_wide.2 Nz).mono ?_⟩;rintro e w1 ⟨rfl,rfl⟩;have bq:Below W0.heap.size W0 ((((W0.alloc (.cells #[.slice av (S 0).length cv] 57)).alloc (.cells #[.slice af rs.length ct] 42)).alloc (.cells #[.slice ae ord.length cs] 28)).alloc (.cells #[.bool al] 4)):=((((Below.refl _ _).alloc (Nat.le_refl _) _).alloc (by simp) _).alloc (by simp;omega) _).alloc (by simp;omega) _;have q1:=qy (o:=.cells #[.bool al] 4) (qy (o:=.cells #[.slice ae ord.length cs] 28) (qy (o:=.cells #[.slice af rs.length ct] 42) (qs W0 (.cells #[.slice av (S 0).length cv] 57))));have q2:=qy (o:=.cells #[.bool al] 4) (qy (o:=.cells #[.slice ae ord.length cs] 28) (qs (W0.alloc (.cells #[.slice av (S 0).length cv] 57)) (.cells #[.slice af rs.length ct] 42)));have q3:=qy (o:=.cells #[.bool al] 4) (qs ((W0.alloc (.cells #[.slice av (S 0).length cv] 57)).alloc (.cells #[.slice af rs.length ct] 42)) (.cells #[.slice ae ord.length cs] 28));have q4:=qs (((W0.alloc (.cells #[.slice av (S 0).length cv] 57)).alloc (.cells #[.slice af rs.length ct] 42)).alloc (.cells #[.slice ae ord.length cs] 28)) (.cells #[.bool al] 4);have zq:((((W0.alloc (.cells #[.slice av (S 0).length cv] 57)).alloc (.cells #[.slice af rs.length ct] 42)).alloc (.cells #[.slice ae ord.length cs] 28)).alloc (.cells #[.bool al] 4)).heap.size=w.heap.size+7:=by simp[Z0.o]
 simp only[World.size_alloc,Z0.o] at q1 q2 q3 q4;have BQ:=qd bq;have Q1:=qd q1;have Q2:=qd q2;have Q3:=qd q3;have Q4:=qd q4;have ZQ:=qd zq;clear bq q1 q2 q3 q4 zq;gi_wp2_with fail;generalize (((W0.alloc (.cells #[.slice av (S 0).length cv] 57)).alloc (.cells #[.slice af rs.length ct] 42)).alloc (.cells #[.slice ae ord.length cs] 28)).alloc (.cells #[.bool al] 4)=wq at *;simp only[Z0.o] at *;have bw:Below w.heap.size w wq:=B0.o.trans (BQ.o.mono (by omega));have t0:=qh R0.o BQ.o (by omega);have t1:=qh R1.o BQ.o (by omega);have t2:=qh R2.o BQ.o (by omega);have hzq:wq.heap.size<=w.heap.size+7/\w.heap.size+7<=wq.heap.size:=⟨by rw[ZQ.o];exact Nat.le_refl _,by rw[ZQ.o];exact Nat.le_refl _⟩
 have hI:∀(q:Nat->Prop) (i:Nat) (A B:World),True->OrI S (wq.heap.size+1) w q i A->wq.heap.size<=A.heap.size->Below wq.heap.size A B->(∀k,k < A.heap.size->k≠wq.heap.size+1->¬q k->B.heap[k]?=A.heap[k]?)->OrI S (wq.heap.size+1) w q i B:=by
  rintro q i A B - ⟨⟨x,h1,h2,h3,h4,h5⟩,hB,hq⟩ hs hb he;have nq:∀j,j < 3->¬q (w.heap.size+j):=fun j hj e=>by have:=hq _ e;omega
  exact⟨⟨x,(he _ (qe h1) (by omega) (nq 0 (by omega))).trans h1,(he _ (qe h2) (by omega) (nq 1 (by omega))).trans h2,(he _ (qe h3) (by omega) (nq 2 (by omega))).trans h3,
   qj.fr (S:=fun k=>k=wq.heap.size+1\/q k) h4 ⟨hb.mono (Nat.zero_le _),fun k hk hn=>he k hk (fun e=>hn (.inl e)) (fun e=>hn (.inr e))⟩ fun k hk hn=>hn.elim (h5 k hk).1 (h5 k hk).2,h5⟩,hB.trans (hb.mono (by omega)),hq⟩
 have hv0:=qj.below H.o bw;have hI0:∀q:Nat->Prop,(∀k,q k->wq.heap.size+2<=k)->OrI S (wq.heap.size+1) w q 0 wq:=fun q hq=>⟨⟨_,t0,t1,t2,hv0,fun k hk=>⟨fun e=>by have:=(qj.lt hv0 k hk).2;omega,fun e=>by have:=(qj.lt hv0 k hk).2;have:=hq k e;omega⟩⟩,bw,fun k hk=>by have:=hq k hk;omega⟩
 have IT:=P1.o wq t0 (by simp) Q1.o Q3.o Q2.o Q4.o (by omega) (qj.below H.o bw) (qj.below HST.o bw) (HT.o.below bw) (HE.o.below bw);refine vw (M:=Mo) (L:=Lb wq.heap.size fun k=>k=w.heap.size) (Qs:=fun _=>True) (G:=fun _=>True) (m:=2) (gf:=84) (N:=ord.length) (H:=HandP wq.heap.size w.heap.size S) rfl (enters_of Tryz.func84 (by kernel_rfl) rfl) (fun _ h=>h.1) IT (fun _ i W hb args h=>by obtain⟨_,rfl,-⟩:=h;rfl)
  (OrI S (wq.heap.size+1) w) (fun _ _ _ _=>False) hI (fun _ _ _ _ _ _ h _ _ _=>h) (fun _ _ _ _ _=>trivial) (fun q _ hq=>hI0 q hq) (fun W hW=>hW) (fun r h=>h) (fun r h=>h) ?_ ?_ ?_
 ·rintro q i W1 hb args hi - hIi hq hlo hhi ⟨v',rfl,o',n'⟩
  obtain⟨a',c',rfl⟩:=qj.slv o';gi_wp2_with fail;refine⟨(Below.refl _ _).alloc (Nat.le_refl _) _,?_⟩;intro w2 z2 k2 b2;have nl:∀k,(Value.slice a' (S (i+1)).length c').ownBlock=some k->k≠wq.heap.size+1:=fun k hk e=>by
   rcases(n' k hk).2.2 with h|⟨k0,h0,h1⟩
   ·omega
   ·have:=(hq k0 h0).1;omega
  obtain⟨⟨x,h1,h2,h3,h4,h5⟩,hB,hq'⟩:=hI q i W1 w2 trivial hIi (by omega) (((Below.refl wq.heap.size W1).alloc (by omega) _).trans b2) (fun k hk hn _=>(k2 k hn).trans (Below.heap_alloc _ _ _ (by omega)));have o2:jO w2 0 (.slice a' (S (i+1)).length c') (S (i+1)):=qj.fr (S:=fun k=>k=wq.heap.size+1) o' ⟨(((Below.refl wq.heap.size W1).alloc (by omega) _).trans b2).mono (Nat.zero_le _),fun k hk hn=>(k2 k hn).trans (Below.heap_alloc _ _ _ (by omega))⟩ nl;have r9:w2.heap[W1.heap.size]?=some (.cells #[.slice a' (S (i+1)).length c',.nilIface] 127 (0,0)):=(k2 _ (by omega)).trans (qs W1 _);have l9:=qe r9;generalize W1.heap.size=p9 at *;have y:=qa r9;have y0:=y 0;have y1:=y 1;simp at y0 y1;have x0:=qa h1 0;have xf:=qt h1 0;have xl:=qe h1;have KF:=qd (xi.set (M:=Mo) (L:=Lb wq.heap.size fun k=>k=w.heap.size) (lo:=wq.heap.size) (hb:=hb) (A:=w2) (g:=w.heap.size) (j:=0) (.slice a' (S (i+1)).length c') (.inl ⟨by omega,fun h=>h.2 rfl⟩));have RF:=qd (qn h1 0 (.slice a' (S (i+1)).length c'));have RF1:=qd ((Below.heap_setCell w2 ⟨w.heap.size,0,none⟩ (.slice a' (S (i+1)).length c') _ (by show w.heap.size+1≠w.heap.size;omega)).trans h2);have RF2:=qd ((Below.heap_setCell w2 ⟨w.heap.size,0,none⟩ (.slice a' (S (i+1)).length c') _ (by show w.heap.size+1+1≠w.heap.size;omega)).trans h3);have OF:=qd (qj.other (j:=0) o2 (qj.neT o2 h1 (by decide)) (.slice a' (S (i+1)).length c'));have BF:=qd (hB.setCell (p:=⟨w.heap.size,0,none⟩) (Nat.le_refl _) (.slice a' (S (i+1)).length c'));have NF:=qd (fun k (hk:(Value.slice a' (S (i+1)).length c').ownBlock=some k)=>(⟨nl k hk,(n' k hk).2.1⟩:k≠wq.heap.size+1/\¬q k));have QF:=qd hq';clear hIi o' n' nl h1 h2 h3 h4 h5 hB hq' o2 r9 y z2 k2 b2 hI hI0 t0 t1 t2 hv0 IT bw;gi_wp2_with fail;exact⟨⟨⟨⟨_,by simpa using RF.o,RF1.o,RF2.o,OF.o,NF.o⟩,BF.o,QF.o⟩,KF.o⟩,trivial⟩
 ·rintro q W - ⟨⟨x,h1,h2,h3,h4,h5⟩,hB,hq⟩ hz hd
  clear hI hI0 t0 t1 t2 hv0 IT bw;obtain⟨a',c',rfl⟩:=qj.slv h4;have x0:=qa h1 0;have xl:=qe h1;have x1:=qa h2 0;have xl1:=qe h2;have xf1:=qt h2 0;have x2:=qa h3 0;have xl2:=qe h3;have xf2:=qt h3 0;simp at x0 x1 x2;have H2:=qd h2;have H3:=qd h3;have H4:=qd h4;have HB:=qd hB;have HD:=qd hd;clear h1 h2 h3 h4 h5 hB hq hd;gi_wp2_with fail;obtain⟨X,hX⟩:∃X,X=(W.setCell ⟨w.heap.size+1,0,none⟩ (.slice a' (S ord.length).length c')).setCell ⟨w.heap.size+1+1,0,none⟩ .nilIface:=⟨_,rfl⟩
  have k1:=qn H2.o 0 (.slice a' (S ord.length).length c');have o1:=qj.other (j:=0) H4.o (qj.neT H4.o H2.o (by decide)) (.slice a' (S ord.length).length c');have k2:(W.setCell ⟨w.heap.size+1,0,none⟩ (.slice a' (S ord.length).length c')).heap[w.heap.size+1+1]?=_:=(Below.heap_setCell W ⟨w.heap.size+1,0,none⟩ _ _ (by show w.heap.size+1+1≠w.heap.size+1;omega)).trans H3.o;have o2:=qj.other (j:=0) o1 (qj.neT o1 k2 (by decide)) .nilIface;have k1:=(Below.heap_setCell (W.setCell ⟨w.heap.size+1,0,none⟩ (.slice a' (S ord.length).length c')) ⟨w.heap.size+1+1,0,none⟩ .nilIface _ (by show w.heap.size+1≠w.heap.size+1+1;omega)).trans k1;have k2:=qn k2 0 .nilIface;have bX:=(HB.o.setCell (p:=⟨w.heap.size+1,0,none⟩) (Nat.le_succ _) (.slice a' (S ord.length).length c')).setCell (p:=⟨w.heap.size+1+1,0,none⟩) (show w.heap.size<=w.heap.size+1+1 by omega) .nilIface;have kd:X.heap[wq.heap.size]?=some (.deferred (some [])):=by
   rw[hX];exact(Below.heap_setCell _ _ _ _ (by show wq.heap.size≠w.heap.size+1+1;omega)).trans ((Below.heap_setCell _ _ _ _ (by show wq.heap.size≠w.heap.size+1;omega)).trans HD.o)
  rw[←hX] at o2 k1 k2 bX ⊢;have nD:∀k,(Value.slice a' (S ord.length).length c').ownBlock=some k->k≠wq.heap.size:=by
   rintro k hk rfl;obtain⟨cs,h⟩:=qj.keepObj o2 _ hk;rw[kd] at h;cases h
  refine vi kd fun w' hb' he=>LeavesIn.fin (v:=.tuple #[Vu (.slice a' (S ord.length).length c'),.nilIface]) ?_ ⟨_,rfl,qj.fr (S:=fun k=>k=wq.heap.size) o2 ⟨hb'.mono (Nat.zero_le _),fun k _ hn=>he k hn⟩ nD,bX.trans (hb'.mono (by omega))⟩;have c1:=qa ((he _ (by omega)).trans k1) 0;have c2:=qa ((he _ (by omega)).trans k2) 0;simp at c1 c2;simp[results,Tryz.results19,go_sem,c1,c2]
 ·rintro q c i W h1 h2 - h3
  exact h3.elim
end
