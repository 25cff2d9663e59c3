/- Parts of the proof; the first: The automaton of well-formed histories of all kinds of objects takes any event that may be, or refuses it. Conditions: those of each theorem, as typed. -/
import Derived.Test.YtcpfbphcldocpaaGreatDoorQC11
import Derived.Test.YtcpfbphcldocpaaGreatDoorQC02
import Derived.Test.YtcpfbphcldocpaaGreatDoorQC04
set_option linter.unusedVariables false
set_option linter.unusedSimpArgs false
set_option linter.unusedSectionVars false
set_option maxRecDepth 100000
set_option maxHeartbeats 4000000
namespace Go.Proofs.YtcpfbphcldocpaaGreatDoor
open Go.Maps Go.RowKit
structure WP (A:Au):Prop where
 busy:Nc A
 wait:∀s ∈ A,s.stand=2->s.deeds≠[]
theorem WP.nil:WP []:=⟨fun j k s t h=>by simp at h,fun s h=>by simp at h⟩
theorem xP {A A':Au} {n:Nat} {e:Ev} (h:zu A n e=some A'):(e.kind=1/\¬ut e.tx A/\¬yJ e.thread A/\A'=A++[zM e n])\/∃(k:Nat) (s s':St),e.kind≠1/\A[k]?=some s/\s.id=e.tx/\xB n e s=some s'/\A'=A.set k s':=by
 unfold zu at h
 split at h
 ·rename_i hk
  split at h
  ·cases h
  ·rename_i hn
   simp only[Bool.or_eq_true,not_or] at hn;exact .inl ⟨hk,fun q=>hn.1 (Xw.2 q),fun q=>hn.2 (Qn.2 q),(Option.some.inj h).symm⟩
 ·rename_i hk
  split at h
  ·cases h
  ·rename_i k hf
   obtain⟨hkl,hp,-⟩:=List.findIdx?_eq_some_iff_getElem.1 hf;rw[List.getElem?_eq_getElem hkl] at h;simp only at h;cases hm:xB n e A[k] with
   |none=>rw[hm] at h;cases h
   |some s'=>
    rw[hm] at h;exact .inr ⟨k,A[k],s',hk,List.getElem?_eq_getElem hkl,by simpa using hp,hm,(Option.some.inj h).symm⟩
theorem WP.step {A A':Au} {n:Nat} {e:Ev} (hI:WP A) (h:zu A n e=some A'):WP A':=by
 rcases xP h with⟨hk,h1,h2,rfl⟩|⟨k,s,s',hk,hs,hi,hm,rfl⟩
 ·constructor
  ·intro j k s t hs ht hth h5 h6
   have key:∀(j:Nat) (s:St),(A++[zM e n])[j]?=some s->A[j]?=some s\/(j=A.length/\s=zM e n):=fun j s hs=>by
    rcases Nat.lt_or_ge j A.length with hj|hj
    ·rw [List.getElem?_append_left hj] at hs;exact .inl hs
    ·have hl:=(List.getElem?_eq_some_iff.1 hs).1
     simp only[List.length_append,List.length_cons,List.length_nil] at hl;obtain rfl:j=A.length:=by omega
     simp only[List.getElem?_concat_length,Option.some.injEq] at hs;exact .inr ⟨rfl,hs.symm⟩
   rcases key j s hs with hs|⟨rfl,rfl⟩ <;> rcases key k t ht with ht|⟨rfl,rfl⟩
   ·exact hI.busy j k s t hs ht hth h5 h6
   ·exact absurd ⟨s,List.mem_of_getElem? hs,hth,h5⟩ h2
   ·exact absurd ⟨t,List.mem_of_getElem? ht,hth.symm,h6⟩ h2
   ·rfl
  ·intro s hs h2
   rcases List.mem_append.1 hs with hs|hs
   ·exact hI.wait s hs h2
   ·rw [List.mem_singleton.1 hs] at h2
    exact absurd h2 (by show ¬((1:Int)=2);decide)
 ·obtain ⟨-,hth,h5⟩:=zN hm
  constructor
  ·intro i j x y hx hy hxy hx5 hy5
   rcases yQ hx with⟨rfl,rfl⟩|⟨hne,hx'⟩ <;> rcases yQ hy with⟨rfl,rfl⟩|⟨hne2,hy'⟩
   ·rfl
   ·exact hI.busy _ _ _ _ hs hy' (by rw[←hth,hxy]) h5 hy5
   ·exact hI.busy _ _ _ _ hx' hs (by rw[←hth,hxy]) hx5 h5
   ·exact hI.busy i j x y hx' hy' hxy hx5 hy5
  ·intro t ht h2
   obtain⟨j,hj⟩:=List.mem_iff_getElem?.1 ht;rcases yQ hj with⟨rfl,rfl⟩|⟨-,hj⟩
   ·rcases xR hm with⟨-,-,rfl⟩|⟨-,-,d,hd,-,rfl⟩|⟨-,-,rfl⟩|⟨-,-,rfl⟩|⟨-,-,rfl⟩|⟨-,-,rfl⟩
    ·simp [uB]
    ·unfold yW at h2;rw[hd] at h2;exact absurd h2 (by show ¬((1:Int)=2);decide)
    ·exact absurd h2 (by show ¬((3:Int)=2);decide)
    ·exact absurd h2 (by show ¬((5:Int)=2);decide)
    ·exact absurd h2 (by show ¬((5:Int)=2);decide)
    ·exact absurd h2 (by show ¬((4:Int)=2);decide)
   ·exact hI.wait t (List.mem_of_getElem? hj) h2
theorem Ym {A A':Au} {n m:Nat} {x:Ev} (hf:zu A n x=some A') (h:A.length<=m/\∀s ∈ A,s.deeds.length<=m):A'.length<=m+1/\∀s ∈ A',s.deeds.length<=m+1:=by
 obtain⟨h1,h2⟩:=h;rcases xP hf with⟨hk,-,-,rfl⟩|⟨k,s,s',hk,hs,hi,hm,rfl⟩
 ·refine ⟨by simp;exact h1,fun s hs=>?_⟩
  simp only[List.mem_append,List.mem_singleton] at hs;rcases hs with hs|rfl
  ·have:=h2 s hs;omega
  ·simp [zM]
 ·refine ⟨by simp;omega,fun t ht=>?_⟩
  obtain⟨j,hj⟩:=List.mem_iff_getElem?.1 ht;have hs2:=h2 s (List.mem_of_getElem? hs);rcases yQ hj with⟨rfl,rfl⟩|⟨-,hj⟩
  ·rcases xR hm with⟨-,-,rfl⟩|⟨-,-,d,hd,-,rfl⟩|⟨-,-,rfl⟩|⟨-,-,rfl⟩|⟨-,-,rfl⟩|⟨-,-,rfl⟩
   ·simp [uB];exact hs2
   ·unfold yW;rw[hd];simp;omega
   ·simp [UH];omega
   ·simp [Qr];omega
   ·simp [Qr];omega
   ·simp [Vr];omega
  ·have:=h2 t (List.mem_of_getElem? hj);omega
theorem WY {x:Ev} (h:xM x=true):1<=x.kind/\x.kind < 8:=by
 unfold xM ub at h
 split at h
 ·cases h
 ·rename_i L hL
  split at hL
  ·omega
  ·split at hL
   ·omega
   ·split at hL
    ·omega
    ·cases hL
theorem g_Feed {B bA n:Nat} {os:List Ob} {A:Au} (x:Ev) (w:World) (hx:YF os x=true) (hdr:dI x.ret) (hn:n < 400) (hA:A.length<=1000) (hl:∀s ∈ A,s.deeds.length<=1000) (hI:WP A) (h:un w B bA os n A) (hW:xg w) (hG:jn w):
  Calls Tryz.prog 78 #[.pointer (some ⟨bA,0,none⟩),Ql x] w (FeedPost w B bA os n (zu A n x)):=by
 obtain⟨xk,xx,xh,xj,xo,xy,xv,xr⟩:=x;have hval:xM ⟨xk,xx,xh,xj,xo,xy,xv,xr⟩=true:=by unfold YF at hx;simp only[Bool.and_eq_true] at hx;exact hx.1
 obtain⟨hk1,hk8⟩:=WY hval;simp only at hk1 hk8 hdr;unfold zu;simp only;by_cases hk:xk=1
 ·rw [if_pos hk]
  by_cases hi:ut xx A
  ·rw [if_pos (by rw[Xw.2 hi];rfl)]
   exact g_begin1 xk xx xh xj xo xy xv xr w hval hdr hk hi hn hA h hW hG
  ·by_cases hb:yJ xh A
   ·rw [if_pos (by rw[Qn.2 hb];simp)]
    exact g_begin2 xk xx xh xj xo xy xv xr w hval hdr hk hi hb hn hA h hW hG
   ·rw [if_neg (by simp only[Bool.or_eq_true,not_or];exact⟨fun q=>hi (Xw.1 q),fun q=>hb (Qn.1 q)⟩)]
    exact g_begin3 xk xx xh xj xo xy xv xr w hval hdr hk hi hb hn hA h hW hG
 ·rw [if_neg hk]
  have hk2:2<=xk:=by omega
  have hoc:xk=2->∃(c:Nat) (o:Ob),xj=c/\os[c]?=some o/\jL xo=o.kind:=fun e=>by
   subst e;obtain⟨h0,h7⟩:=JH hval rfl;simp only at h0 h7;unfold YF at hx;simp only[Bool.and_eq_true] at hx;have hx:=hx.2;cases ho:os[xj.toNat]? with
   |none=>rw[ho] at hx;simp at hx
   |some o=>
    rw[ho] at hx;exact⟨xj.toNat,o,by omega,ho,by simpa using hx⟩
  cases hf:A.findIdx? (fun s=>s.id==xx) with
  |none=>
   have hi:¬ut xx A:=by
    rintro⟨s,hs,e⟩;have:=List.findIdx?_eq_none_iff.1 hf s hs;simp[e] at this
   simp only;by_cases h2:xk=2
   ·exact g_txC xk xx xh xj xo xy xv xr w hval hdr (hoc h2) h2 hk2 hk8 hi hn hA h hW hG
   ·exact g_txE xk xx xh xj xo xy xv xr w hval hdr h2 hk2 hk8 hi hn hA h hW hG
  |some k=>
   obtain⟨hkl,hp,-⟩:=List.findIdx?_eq_some_iff_getElem.1 hf;have hs:=List.getElem?_eq_getElem hkl;have hi:A[k].id=xx:=by simpa using hp
   have hsl:=hl A[k] (List.getElem_mem hkl);have hdl:=hI.wait A[k] (List.getElem_mem hkl);simp only;rw[hs];generalize A[k]=s at *;simp only;by_cases hfr:s.stand ∈ qK xk
   ·cases hm:xB n ⟨xk,xx,xh,xj,xo,xy,xv,xr⟩ s with
    |some s'=>
     by_cases h2:xk=2
     ·exact g_moveC xk xx xh xj xo xy xv xr w hval hdr (hoc h2) h2 hk2 hk8 hs hi hfr hdl hI.busy hm hn hA hsl h hW hG
     ·exact g_moveE xk xx xh xj xo xy xv xr w hval hdr h2 hk2 hk8 hs hi hfr hdl hI.busy hm hn hA hsl h hW hG
    |none=>
     have h3:xk=3:=(Kt (x:=⟨xk,xx,xh,xj,xo,xy,xv,xr⟩) hk2 hk8 hfr hm).1;exact g_fitsE xk xx xh xj xo xy xv xr w hval hdr (by rw[h3];decide) hk2 hk8 hs hi hfr hdl hm hn hA hsl h hW hG
   ·have hm:xB n ⟨xk,xx,xh,xj,xo,xy,xv,xr⟩ s=none:=Ku (x:=⟨xk,xx,xh,xj,xo,xy,xv,xr⟩) hk2 hk8 hfr
    rw[hm];by_cases h2:xk=2
    ·exact g_orderC xk xx xh xj xo xy xv xr w hval hdr (hoc h2) h2 hk2 hk8 hs hi hfr hn hA hsl h hW hG
    ·exact g_orderE xk xx xh xj xo xy xv xr w hval hdr h2 hk2 hk8 hs hi hfr hn hA hsl h hW hG
theorem g_CloneS (ad:Addr) (c:Nat) (os:List Ob) (w:World) (h:Sl w w.heap.size 2 (.slice (some ad) os.length c) os.length (os.flatMap Ob.cells)) (hl:os.length<=8):
  Calls Tryz.prog 127 #[.slice (some ad) os.length c] w fun e w'=>∃v',e=.returned v'/\qj Ob.cells 62 2 w' w.heap.size v' os/\Below w.heap.size w w':=by
 have H:=qd h;have b0:Below w.heap.size w (w.alloc (.cells #[] 62)):=(Below.refl _ w).alloc (Nat.le_refl _) _;have ow:qj Ob.cells 62 2 (w.alloc (.cells #[] 62)) w.heap.size (.slice (some ⟨w.heap.size,0,none⟩) 0 0) []:=qj.lit (f:=Ob.cells) w w.heap.size (Nat.le_refl _) [] Ob.len (by decide);have hs:=h.alloc (Nat.le_refl _) (.cells #[] 62);have OW:=qd ow;have HS:=qd hs;have B0:=qd b0;clear h b0 ow hs;have heq:∀X,Sem.run Tryz.prog (binOp BinOp.eql 22 (.slice (some ad) os.length c) (.slice none 0 0)) X=.ok (.bool false) X:=fun X=>by kernel_rfl
 go_enter Tryz.func127,Tryz.ntmps127;go_wp2_with (at_builtin;refine yN rfl _ _ _ rfl _ 16 Tryz.underlying22 Ul rfl OW.o os rfl HS.o (by first|omega|(simp <;> omega)) rfl rfl Ob.len US (by first|omega|(simp <;> omega)) (by first|omega|(simp <;> omega)) ?_;refine qH.halt ?_)
 refine qH.go ?_;intro v' w' o2 g2;have b2:=B0.o.trans (g2.below B0.o.size fun k h=>(OW.o.lt k h).1);have O2:=qd o2;have B2:=qd b2;clear o2 g2 b2 heq;obtain⟨av,cv,rfl,-⟩:∃a c,v'=.slice a os.length c/\True:=by
  rcases qj.form O2.o with⟨h1,h2⟩|⟨g,cap,h1,-⟩
  ·exact ⟨_,_,by rw[h1,h2];rfl,trivial⟩
  ·exact ⟨_,_,h1,trivial⟩
 go_wp2;go_ret;exact⟨_,rfl,O2.o,B2.o⟩
theorem g_CloneO (v:Value) (os:List Ob) (w:World) (h:Sl w w.heap.size 2 v os.length (os.flatMap Ob.cells)) (hl:os.length<=8):
  Calls Tryz.prog 127 #[v] w fun e w'=>∃v',e=.returned v'/\qj Ob.cells 62 2 w' w.heap.size v' os/\Below w.heap.size w w':=by
 obtain⟨a,c,hv,h1,h2,h3⟩:=h;cases a with
 |some ad=>
  subst hv;exact g_CloneS ad c os w ⟨_,_,rfl,h1,h2,h3⟩ hl
 |none=>
  have hne:os=[]:=by
   cases os with
   |nil=>rfl
   |cons o l=>obtain⟨b,off,hb,-⟩:=h3 (by simp);cases hb
  subst hne;subst hv;have heq:∀X,Sem.run Tryz.prog (binOp BinOp.eql 22 (.slice none 0 c) (.slice none 0 0)) X=.ok (.bool true) X:=fun X=>by kernel_rfl
  go_enter Tryz.func127,Tryz.ntmps127;go_wp2;go_ret;exact⟨_,rfl,qj.nil _ _,Below.refl _ _⟩
theorem g_New (v:Value) (os:List Ob) (w:World) (h:Sl w w.heap.size 2 v os.length (os.flatMap Ob.cells)) (hr:xJ os []=true) (hod:∀o ∈ os,dI o.kind) (hW:xg w) (hG:Jl w):
  Calls Tryz.prog 77 #[v] w fun e w'=>∃bA,e=.returned (.tuple #[.pointer (some ⟨bA,0,none⟩),.nilIface])/\un w' w.heap.size bA os 0 []/\Below w.heap.size w w':=by
 obtain⟨a,c,rfl,hm⟩:=h.ex;have hmk:∀X:World,Sem.run Tryz.prog (Instr.makeMap 174 none) X=.ok (.map (some X.heap.size)) (X.alloc (.map #[] 0)):=fun X=>by kernel_rfl
 have hr8:os.length<=8:=by
  unfold xJ at hr;simp only[Bool.and_eq_true,decide_eq_true_eq] at hr;exact hr.1.1.1
 have hv:=ZC (.slice a os.length c) (.slice none 0 0) os [] w h ⟨none,0,rfl,by simp,by simp,fun h=>by simp at h⟩ hod (fun e he=>(nomatch he)) hW hG;rw[hr] at hv;have hv:=qd hv;have H:=qd h;clear h hW hr hod hG;go_enter Tryz.func77,Tryz.ntmps77;go_wp2_with fail;refine(hv.o).mono ?_;rintro e W1 ⟨⟨ve,rfl,hvn,-⟩,b1⟩;obtain rfl:=hvn rfl;clear hvn;have B1:=qd b1;have hz1:=b1.size;have hc:=qd (g_CloneO (.slice a os.length c) os W1 ((H.o.below b1).more hz1) hr8);clear b1 hv;go_wp2_with fail;refine(hc.o).mono ?_;rintro e W2 ⟨v',rfl,o2,b2⟩;have hz2:=b2.size;obtain⟨av,cv,rfl,-⟩:∃a c,v'=.slice a os.length c/\True:=by
  rcases qj.form o2 with⟨h1,h2⟩|⟨g,cap,h1,-⟩
  ·exact ⟨_,_,by rw[h1,h2];rfl,trivial⟩
  ·exact ⟨_,_,h1,trivial⟩
 have O2:=qd o2;have B2:=qd b2;clear o2 b2 hc;go_wp2;refine bodyPost_ret (v:=.tuple #[.pointer (some ⟨W2.heap.size+2,0,none⟩),.nilIface]) (by simp[results,Tryz.results77,go_sem]) rfl ?_;have m1:=qs W2 (.map #[] 0);have m2:=qX (w:=W2.alloc (.map #[] 0)) (o:=.map #[] 0) (g:=W2.heap.size+1) (by simp);have m3:=qX (w:=(W2.alloc (.map #[] 0)).alloc (.map #[] 0)) (o:=.cells #[.slice av os.length cv,.int .i64 0,.slice none 0 0,.map (some W2.heap.size),.map (some (W2.heap.size+1))] 176) (g:=W2.heap.size+2) (by simp);refine⟨W2.heap.size+2,rfl,⟨W2.heap.size,W2.heap.size+1,.slice av os.length cv,.slice none 0 0,[],?_⟩,?_⟩
 ·exact ⟨m3,by omega,qj.base (qj.alloc (qj.alloc (qj.alloc O2.o _) _) _) hz1,qj.nil _ _,rfl,fun k p s hp=>by simp at hp,List.nodup_nil,fun j k p q hp=>by simp at hp,
   ⟨by omega,_,qL.made (qy (qy m1)),fun k p s hp=>by simp at hp,fun x _=>rfl⟩,⟨by omega,_,qL.made (qy m2),⟨fun x _=>rfl,fun x hx=>by obtain⟨s,hs,-⟩:=hx;simp at hs⟩⟩,by omega⟩
 ·have hb:=(B1.o.trans (B2.o.mono hz1))
  exact((hb.alloc (by omega) _).alloc (by simp;omega) _).alloc (by simp;omega) _
section
attribute [local irreducible] xL
theorem jf.base {w:World} {B B':Nat} {p:Nat×Value} {s:St} (h:jf w B p s) (hB:B'<=B):jf w B' p s:=⟨h.row,Nat.le_trans hB h.hB,qj.base h.dds hB⟩
theorem un.base {w:World} {B B' bA n:Nat} {os:List Ob} {A:Au} (h:un w B bA os n A) (hB:B'<=B):un w B' bA os n A:=by
 obtain⟨bY,bZ,ov,tv,bs,h⟩:=h;exact⟨bY,bZ,ov,tv,bs,h.row,Nat.le_trans hB h.hB,qj.base h.obs hB,qj.base h.txs hB,h.len,fun k p s hp hs=>(h.sts k p s hp hs).base hB,h.nod,h.dis,⟨Nat.le_trans hB h.by_.1,h.by_.2⟩,⟨Nat.le_trans hB h.bz.1,h.bz.2⟩,h.ne⟩
theorem un.below {w w':World} {B bA n:Nat} {os:List Ob} {A:Au} (h:un w B bA os n A) (hb:Below w.heap.size w w'):un w' B bA os n A:=by
 obtain⟨bY,bZ,ov,tv,bs,h⟩:=h;exact⟨bY,bZ,ov,tv,bs,h.below hb⟩
def WM (w:World) (os:List Ob) (es:List Ev) (r:Option Au) (e:Ending) (w':World):Prop:=match r with
 |some A=>∃bA,e=.returned (.tuple #[.pointer (some ⟨bA,0,none⟩),.nilIface])/\un w' w.heap.size bA os es.length A/\Below w.heap.size w w'
 |none=>(∃t x,e=.returned (.tuple #[.pointer none,.iface t x]))/\Below w.heap.size w w'
def Qo (w:World) (os:List Ob) (es:List Ev):Ending->World->Prop:=WM w os es (qN os es)
theorem JQ:∀{l m:List Ev} {A:Au} {n:Nat},ye A n l=none->ye A n (l++m)=none
 |[],m,A,n,h=>by simp[ye] at h
 |e::l,m,A,n,h=>by
  simp only[List.cons_append,ye] at h ⊢;cases hs:zu A n e with
  |none=>rfl
  |some A'=>
   rw[hs] at h;exact JQ (l:=l) h
theorem g_taken (ov vv:Value) (os:List Ob) (es:List Ev) (w:World) (ho:Sl w w.heap.size 2 ov os.length (os.flatMap Ob.cells)) (he:Sl w w.heap.size 8 vv es.length (es.flatMap Ev.cells)) (hod:∀o ∈ os,dI o.kind) (hed:∀e ∈ es,dI e.ret) (hW:xg w) (hG:jn w):
  Calls Tryz.prog 39 #[.agg #[ov,vv]] w (Qo w os es):=by
 obtain⟨ao,co,rfl,mo⟩:=ho.ex;obtain⟨ae,ce,rfl,me⟩:=he.ex;have b0:Below w.heap.size w (w.alloc (.cells #[.slice ao os.length co,.slice ae es.length ce] 25)):=(Below.refl _ w).alloc (Nat.le_refl _) _;have r0:=qs w (.cells #[.slice ao os.length co,.slice ae es.length ce] 25);have hz0:w.heap.size < (w.alloc (.cells #[.slice ao os.length co,.slice ae es.length ce] 25)).heap.size:=qe r0;have hv:=qd (ZC (.slice ao os.length co) (.slice ae es.length ce) os es _ ((ho.below b0).more b0.size) ((he.below b0).more b0.size) hod hed (hW.below b0) (hG.g.below b0));have HO:=qd ho;have HE:=qd he;have HOD:=qd hod;have HED:=qd hed;have HW:=qd hW;have HG:=qd hG;have R0:=qd r0;have B0:=qd b0;clear ho he hod hed hW hG r0 b0;obtain⟨R,hR⟩:∃R,R=qN os es:=⟨_,rfl⟩
 have hP:Qo w os es=WM w os es R:=by unfold Qo;rw[hR]
 rw[hP];have HTB:=qd hR;clear hP hR;go_enter Tryz.func39,Tryz.ntmps39;go_wp2_with fail;generalize w.alloc (.cells #[.slice ao os.length co,.slice ae es.length ce] 25)=W at *;refine(hv.o).mono ?_;rintro e W1 ⟨⟨ve,rfl,hvn,hve⟩,b1⟩;cases hhb:xJ os es with
 |false=>
  obtain⟨te,xe,rfl⟩:=hve hhb;have hR:=HTB.o;unfold qN at hR;rw[hhb] at hR;simp only[Bool.false_eq_true,if_false] at hR;subst hR;clear hvn hve HTB hhb hv;have B1:=qd (B0.o.trans (b1.mono B0.o.size));clear b1;go_wp2;refine bodyPost_ret (v:=.tuple #[.pointer none,.iface te xe]) (by simp[results,Tryz.results39,go_sem]) rfl ?_;exact⟨⟨_,_,rfl⟩,B1.o⟩
 |true=>
 obtain rfl:=hvn hhb;have HHB:=qd hhb;have hHO:xJ os []=true:=by
  unfold xJ at hhb ⊢;simp only[Bool.and_eq_true,decide_eq_true_eq] at hhb;simp[hhb.1.1.1,hhb.1.2]
 have hev:∀e ∈ es,YF os e=true:=by
  unfold xJ at hhb;simp only[Bool.and_eq_true,List.all_eq_true] at hhb;exact hhb.2
 have hel:es.length<=400:=by
  unfold xJ at hhb;simp only[Bool.and_eq_true,decide_eq_true_eq] at hhb;exact hhb.1.1.2
 have HEV:=qd hev;clear hvn hve hhb hev;have r1:=qh R0.o b1 hz0;have l1:=qe r1;have y0:=qa r1 0;have y1:=qa r1 1;simp at y0 y1;have b01:=B0.o.trans (b1.mono B0.o.size);have hz1:=b01.size;have hN:=qd (g_New (.slice ao os.length co) os W1 ((HO.o.below b01).more hz1) hHO HOD.o (HW.o.below b01) (HG.o.g.below b01));have R1:=qd r1;have B1:=qd b01;clear r1 b1 b01 hv;go_wp2_with fail;refine(hN.o).mono ?_;rintro e W2 ⟨bA,rfl,hA2,b2⟩;have r2:=qh R1.o b2 l1;have l2:=qe r2;clear y0 y1;have y0:=qa r2 0;have y1:=qa r2 1;simp at y0 y1;have B2:=qd b2;have HA2:=qd hA2;have hz2:=b2.size;clear r2 b2 hA2 hN;go_wp2_with fail
 go_loopw [27] (fun p wr=>∃i:Nat,i<=es.length/\p=.int .i64 i/\(∃Ai,ye [] 0 (es.take i)=some Ai/\WP Ai/\(Ai.length<=i/\∀s ∈ Ai,s.deeds.length<=i)/\un wr W1.heap.size bA os i Ai)/\Below W1.heap.size W1 wr) (fun p _=>es.length - (intOf p).toNat)
 case atStart=>exact⟨0,by omega,by go_num,⟨[],by simp[ye],WP.nil,⟨by simp,fun s hs=>(nomatch hs)⟩,HA2.o⟩,B2.o⟩
 case round=>
  obtain⟨i,hi,rfl,⟨Ai,hrun,hRI,hbd,hAi⟩,hB⟩:=hrel;have HRUN:=qd hrun;have HRI:=qd hRI;have HBD:=qd hbd;clear hrun hRI hbd;have hz:=hB.size;have HB:=qd hB;have HAI:=qd hAi;clear hB hAi;by_cases hlt:i < es.length
  ·obtain ⟨b,off,x,hat,hb,hx,hc⟩:=HE.o.atF Ev.len rfl hlt
   have BW:=qd (B1.o.trans (HB.o.mono hz1));have c0:=qp BW.o hb (hc 0 (by decide));have c1:=qp BW.o hb (hc 1 (by decide));have c2:=qp BW.o hb (hc 2 (by decide));have c3:=qp BW.o hb (hc 3 (by decide));have c4:=qp BW.o hb (hc 4 (by decide));have c5:=qp BW.o hb (hc 5 (by decide));have c6:=qp BW.o hb (hc 6 (by decide));have c7:=qp BW.o hb (hc 7 (by decide));have hok:=qd (HEV.o x (List.mem_of_getElem? hx));have hdr:=HED.o x (List.mem_of_getElem? hx);have HX:=qd hx;obtain⟨xk,xx,xh,xj,xo,xy,xv,xr⟩:=x;simp only at hdr;simp at c0 c1 c2 c3 c4 c5 c6 c7;have hbw:b < wr.heap.size:=by omega
   subst hat;clear hx hc;have bz:Below wr.heap.size wr (wr.alloc (.cells #[.int .i64 xk,.int .i64 xx,.int .i64 xh,.int .i64 xj,.int .i64 xo,.int .i64 xy,.int .i64 xv,.int .i64 xr] 69)):=(Below.refl _ wr).alloc (Nat.le_refl _) _;have hbl:=HBD.o.1;have hbl2:=HBD.o.2;have hfd:=g_Feed (n:=i) ⟨xk,xx,xh,xj,xo,xy,xv,xr⟩ _ hok.o hdr (by omega) (by omega) (fun s hs=>by have:=hbl2 s hs;omega) HRI.o (HAI.o.below bz) ((HW.o.below BW.o).below bz) ((HG.o.below BW.o).below bz);obtain⟨r,hr⟩:∃r,r=zu Ai i ⟨xk,xx,xh,xj,xo,xy,xv,xr⟩:=⟨_,rfl⟩
   rw[←hr] at hfd;have hfd:=qd hfd;have HSTEP:=qd hr;clear hbl2 hr;have BZ:=qd bz;clear bz;go_wp2_with fail;generalize wr.alloc (.cells #[.int .i64 xk,.int .i64 xx,.int .i64 xh,.int .i64 xj,.int .i64 xo,.int .i64 xy,.int .i64 xv,.int .i64 xr] 69)=W3 at *;have hsn:ye [] 0 (es.take (i+1))=r:=by
    rw[List.take_add_one,HX.o];show ye [] 0 (es.take i++[_])=r;rw[Qg,HRUN.o,HSTEP.o];simp only[Option.bind_some,List.length_take,Nat.zero_add];rw[Nat.min_eq_left hi]
   have HSN:=qd hsn;clear hsn;cases r with
   |some A4=>
    refine(hfd.o).mono ?_;rintro e W4 ⟨he,hA4,b4⟩;subst he;have hz3:=BZ.o.size;have HA4:=qd hA4;have B4:=qd ((HB.o.trans (BZ.o.mono hz)).trans b4);clear hfd b4 hA4;go_wp2_with fail;go_roundw
    case rel=>exact⟨i+1,by omega,by go_num,⟨A4,HSN.o,HRI.o.step HSTEP.o.symm,Ym HSTEP.o.symm HBD.o,HA4.o⟩,B4.o⟩
    case measure=>simp[intOf];omega
   |none=>
    have hR:=HTB.o;unfold qN at hR;rw[HHB.o,if_pos rfl] at hR;have hno:ye [] 0 es=none:=by
     have:=List.take_append_drop (i+1) es;rw[←this];exact JQ HSN.o
    rw[hno] at hR;subst hR;refine(hfd.o).mono ?_;rintro e W4 ⟨⟨te,xe,rfl⟩,b4⟩;have B4:=qd (B1.o.trans (((HB.o.trans (BZ.o.mono hz)).trans b4).mono hz1));clear hfd b4 HTB;go_wp2;refine bodyPost_ret (v:=.tuple #[.pointer none,.iface 128 (.pointer (some ⟨W4.heap.size,0,none⟩))]) (by simp[results,Tryz.results39,go_sem]) rfl ?_;exact⟨⟨_,_,rfl⟩,B4.o.alloc B4.o.size _⟩
  ·obtain rfl:i=es.length:=by omega
   go_wp2;refine bodyPost_ret (v:=.tuple #[.pointer (some ⟨bA,0,none⟩),.nilIface]) (by simp[results,Tryz.results39,go_sem]) rfl ?_;have hR:=HTB.o;unfold qN at hR;have hrun:=HRUN.o;rw[List.take_length] at hrun;rw[HHB.o,if_pos rfl,hrun] at hR;subst hR;exact⟨bA,rfl,HAI.o.base hz1,B1.o.trans (HB.o.mono hz1)⟩
end
section
attribute [local irreducible] xL
structure YQ where
 id:Int
 thread:Int
 status:Int
 beg:Int
 fin:Int
 tri:Int
 dv:Value
def YQ.cells (r:YQ):List Value:=[.int .i64 r.id,.int .i64 r.thread,.int .i64 r.status,.int .i64 r.beg,.int .i64 r.fin,.int .i64 r.tri,r.dv]
theorem YQ.len (r:YQ):r.cells.length=7:=rfl
theorem infoTx:(Tryz.prog.info? 49).map (fun i=>(i.zero,i.size,i.bytes))=some (some (.agg #[.int .i64 0,.int .i64 0,.int .i64 0,.int .i64 0,.int .i64 0,.int .i64 0,.slice none 0 0]),7,72):=by kernel_rfl
theorem tx_one (i:Int) {th st be fi tr:Int} {a:Option Addr} {n c:Nat}:∀u ∈ YQ.cells ⟨i,th,st,be,fi,tr,.slice a n c⟩,u.oneCell'=true:=by intro u hu;simp[YQ.cells] at hu;rcases hu with rfl|rfl|rfl|rfl|rfl|rfl|rfl <;> rfl
def TxOf (r:YQ) (s:St):Prop:=r.id=s.id/\r.thread=s.thread/\r.status=s.status/\r.beg=s.beg/\r.fin=s.fin/\r.tri=s.tri
def zw (w:World) (B:Nat) (v:Value) (A:Au):Prop:=∃rs:List YQ,qj YQ.cells 49 7 w B v rs/\rs.length=A.length/\∀(k:Nat) (r:YQ) (s:St),rs[k]?=some r->A[k]?=some s->TxOf r s/\XH w B r.dv s.deeds
section
variable {w w':World} {B:Nat} {v:Value} {A:Au}
theorem zw.below (h:zw w B v A) (hb:Below w.heap.size w w'):zw w' B v A:=
 let ⟨rs,a,b,c⟩:=h;⟨rs,qj.below a hb,b,fun k r s hr hs=>⟨(c k r s hr hs).1,qj.below (c k r s hr hs).2 hb⟩⟩
theorem zw.base {B':Nat} (h:zw w B v A) (hB:B'<=B):zw w B' v A:=
 let ⟨rs,a,b,c⟩:=h;⟨rs,qj.base a hB,b,fun k r s hr hs=>⟨(c k r s hr hs).1,qj.base (c k r s hr hs).2 hB⟩⟩
theorem zw.snoc {rs:List YQ} {r:YQ} {s:St} {v':Value} (hv:qj YQ.cells 49 7 w B v rs) (hl:rs.length=A.length) (hc:∀(k:Nat) (r:YQ) (s:St),rs[k]?=some r->A[k]?=some s->TxOf r s/\XH w B r.dv s.deeds) (h1:TxOf r s) (hu:XH w B r.dv s.deeds)
  (h':qj YQ.cells 49 7 w' B v' (rs++[r])) (hb:Yz w w' v v'):zw w' B v' (A++[s]):=by
 refine⟨_,h',by simp[hl],fun k r' s' hr hs=>?_⟩;rcases Nat.lt_trichotomy k A.length with h|h|h
 ·rw [List.getElem?_append_left (by omega)] at hr hs
  exact⟨(hc k r' s' hr hs).1,qj.grwT (hc k r' s' hr hs).2 hv (by decide) hb⟩
 ·subst h
  rw[List.getElem?_append_right (by omega)] at hr hs;simp[hl] at hr hs;subst hr hs;exact⟨h1,qj.grwT hu hv (by decide) hb⟩
 ·rw [List.getElem?_eq_none (by simp;omega)] at hs
  cases hs
theorem qj.slv {α:Type} {f:α->List Value} {e:TypeId} {sz:Nat} {l:List α} (h:qj f e sz w B v l):∃a c,v=.slice a l.length c:=by
 rcases qj.form h with⟨h1,h2⟩|⟨g,cap,h1,-⟩
 ·exact ⟨_,_,by rw[h1,h2];rfl⟩
 ·exact ⟨_,_,h1⟩
end
theorem sh_Txs {B bA n:Nat} {os:List Ob} {A:Au} (w:World) (h:un w B bA os n A) (hA:A.length<=1000) (hl:∀s ∈ A,s.deeds.length<=1000):
  Calls Tryz.prog 40 #[.pointer (some ⟨bA,0,none⟩)] w fun e w'=>∃v,e=.returned v/\zw w' w.heap.size v A/\Below w.heap.size w w':=by
 obtain⟨bY,bZ,ov,tv,bs,h⟩:=h;have r0:=h.row;have l0:=qe r0;have y:=qa r0;have y2:=y 2;simp at y2;obtain⟨ta,tc,rfl⟩:=qj.slv h.txs;simp only[List.length_map] at y2 r0;have hlen:=h.len;have hbl:bs.length<=1000:=by omega
 have H:=qd h;have HL:=qd hl;clear y r0 h hl;go_enter Tryz.func40,Tryz.ntmps40;go_wp2_with (at_make;refine uU (f:=YQ.cells) (e:=49) (sz:=7) (B:=w.heap.size) rfl _ _ _ rfl _ 72 Tryz.underlying42 infoTx rfl rfl (by first|omega|(simp <;> omega)) (by first|omega|(simp <;> omega)) (by first|omega|(simp <;> omega)) ?_;refine qH.halt ?_)
 refine qH.go ?_;intro w1 o1 b1 z1;have y2:=qp b1 l0 y2;have O1:=qd o1;have B1:=qd b1;have lw:w.heap.size < w1.heap.size:=by omega
 have l1:bA < w1.heap.size:=by omega
 clear o1 b1;go_wp2_with fail
 go_loopw [3,18] (fun q p wr=>∃(k:Nat),k<=bs.length/\p=.int .i64 k/\zw wr w.heap.size q (A.take k)/\Below w.heap.size w wr) (fun _ p _=>bs.length - (intOf p).toNat)
 case atStart=>exact⟨0,by omega,by go_num,⟨[],O1.o,by simp,fun k r s hr=>by simp at hr⟩,B1.o⟩
 case round=>
  obtain⟨k,hk,rfl,hT,hB⟩:=hrel;have hz:=hB.size;have HB:=qd hB;have HT:=qd hT;clear hB hT;by_cases hlt:k < bs.length
  ·obtain ⟨s,hs⟩:∃s,A[k]?=some s:=⟨_,List.getElem?_eq_getElem (by omega)⟩
   have HW:=qd (H.o.below HB.o);obtain⟨bp,hbp,hst⟩:=HW.o.get hs;obtain⟨p,dv⟩:=bp;obtain⟨gt,u,hta,hgt,hu,hcu⟩:=HW.o.txs.at1 (by simp) (k:=k) (by simpa using hlt);rw[List.getElem?_map,hbp] at hu;simp only[Option.map_some,Option.some.injEq] at hu;subst hu;subst hta;unfold xE at hcu;obtain⟨da,dc,hdv⟩:=qj.slv hst.dds;simp only at hdv;subst hdv;have hdl:=HL.o s (List.mem_of_getElem? hs);have rp:=hst.row;have lp:=qe rp;simp only at lp;have py:=qa rp;have p0:=py 0;have p1:=py 1;have p2:=py 2;have p3:=py 3;have p4:=py 4;have p5:=py 5;have p6:=py 6;simp[uH] at p0 p1 p2 p3 p4 p5 p6;have HST:=qd hst;have HS:=qd hs;obtain⟨rs,hv,hvl,hvc⟩:=HT.o;obtain⟨aq,cq,rfl⟩:=qj.slv hv;have hrl:rs.length=k:=by rw[hvl,List.length_take];omega
   have hrl2:rs.length<=1000:=by omega
   rw[hrl] at hv ⊢;have HV:=qd hv;have HRL:=qd hrl;clear hrl;have HVL:=qd hvl;have HVC:=qd hvc;clear py rp hst hs hbp hv hvl hvc HT;obtain⟨wo,rfl⟩:∃wo,wo=wr:=⟨_,rfl⟩
   go_wp2_with fail;obtain⟨dn,hdn⟩:∃dn,dn=s.deeds.length:=⟨_,rfl⟩
   have rt:=qs wo (.cells #[.int .i64 s.id,.int .i64 s.thread,.int .i64 s.status,.int .i64 s.beg,.int .i64 s.fin,.int .i64 s.tri,.slice da s.deeds.length dc] 49);have bt:Below wo.heap.size wo (wo.alloc (.cells #[.int .i64 s.id,.int .i64 s.thread,.int .i64 s.status,.int .i64 s.beg,.int .i64 s.fin,.int .i64 s.tri,.slice da s.deeds.length dc] 49)):=(Below.refl _ wo).alloc (Nat.le_refl _) _;generalize wo.alloc (.cells #[.int .i64 s.id,.int .i64 s.thread,.int .i64 s.status,.int .i64 s.beg,.int .i64 s.fin,.int .i64 s.tri,.slice da s.deeds.length dc] 49)=W6 at *;have lt6:=qe rt;have ty:=qa rt;have t6:=ty 6;simp at t6;have RT:=qd rt;have BT:=qd bt;have zt:=bt.size;clear ty rt bt p0 p1 p2 p3 p4 p5 p6 hdn;refine qD (W6.heap.size) [0,1,0,3,0,1,2,0,2] (.fin [0,1,2,4,5,3,6,7,8]) (by kernel_rfl) ?_;simp only[xC,qJ,qu,sD,sE,sF,sG]
   repeat first|(refine qq fun K hK=>?_;go_simp;refine hK _ _ ?_;clear hK K)|(apply qx;(intro w2 hw2;have hk1:=hw2.cell;have hk3:=hw2.1;clear hw2;go_simp;with_reducible rfl);simp only[Act.put,sA,sB,sC])
   refine qC (fun K hK=>?_);refine jB (f:=Dd.cells) (e:=112) (sz:=8) (B:=W6.heap.size) _ _ _ rfl _ 64 Tryz.underlying47 ZA rfl rfl (by first|omega|(simp <;> omega)) (by first|omega|(simp <;> omega)) (by first|omega|(simp <;> omega)) ?_;intro w3 o3 b3 z3;refine hK _ _ (RN.KeepsN.of_below b3) ?_;clear hK K;have b3:Below W6.heap.size W6 w3:=(Below.refl _ W6).drew.trans b3;have z3':W6.heap.size<=w3.heap.size:=b3.size;refine qF (fun K hK=>?_);refine jw _ _ _ rfl _ 64 Tryz.underlying47 ZA rfl o3 s.deeds rfl (qj.below HST.o.dds (BT.o.trans (b3.mono zt))).sl (by first|omega|(simp <;> omega)) rfl rfl Dd.len Vo (by first|omega|(simp <;> omega)) (by first|omega|(simp <;> omega)) ?_;intro v' w4 o4 g4;refine hK _ _ ?_;clear hK K;have b4:=b3.trans (g4.below z3' fun j h=>(o3.lt j h).1);have o4:XH w4 W6.heap.size v' s.deeds:=o4;obtain⟨an,cn,rfl⟩:=qj.slv o4;have r4:=qh RT.o b4 lt6;have l4:=qe r4;have ne4:=qj.neT o4 r4 (by decide);have z4:W6.heap.size<=w4.heap.size:=b4.size;clear t6;have ty:=qa r4;have t0:=ty 0;have t1:=ty 1;have t2:=ty 2;have t3:=ty 3;have t4:=ty 4;have t5:=ty 5;have t6:=ty 6;simp at t0 t1 t2 t3 t4 t5 t6;have tf:∀j,w4.frozen? ⟨wo.heap.size,j,none⟩=false:=fun j=>qt r4 j;have O4:=qd o4;have B4:=qd b4;have R4:=qd r4;clear ty o4 b4 r4 o3 b3 z3 g4
   repeat (refine qq fun K hK=>?_;go_simp;refine hK _ _ ?_;clear hK K)
   refine qF (fun K hK=>?_);go_simp;refine hK _ _ ?_;clear hK K
   repeat refine qm ?_
   have o5:=qj.other (j:=6) O4.o ne4 (.slice an s.deeds.length cn);have b5:Below wo.heap.size wo (w4.setCell ⟨wo.heap.size,6,none⟩ (.slice an s.deeds.length cn)):=(BT.o.trans (B4.o.mono zt)).setCell (p:=⟨wo.heap.size,6,none⟩) (Nat.le_refl _) _;have r5:=qn R4.o 6 (.slice an s.deeds.length cn);have l5:wo.heap.size < (w4.setCell ⟨wo.heap.size,6,none⟩ (.slice an s.deeds.length cn)).heap.size:=qe r5;generalize w4.setCell ⟨wo.heap.size,6,none⟩ (.slice an s.deeds.length cn)=w5 at *;clear t0 t1 t2 t3 t4 t5 t6 tf;have ty:=qa r5;have t0:=ty 0;have t1:=ty 1;have t2:=ty 2;have t3:=ty 3;have t4:=ty 4;have t5:=ty 5;have t6:=ty 6;simp at t0 t1 t2 t3 t4 t5 t6;have HV5:=qd (qj.below HV.o b5);have HVC5:=qd (fun(j:Nat) (r:YQ) (t:St) (h1:rs[j]?=some r) (h2:(A.take k)[j]?=some t)=>(show TxOf r t/\XH w5 w.heap.size r.dv t.deeds from⟨(HVC.o j r t h1 h2).1,qj.below (HVC.o j r t h1 h2).2 b5⟩));have O5:=qd (qj.base o5 (show w.heap.size<=W6.heap.size by omega));have B5:=qd (HB.o.trans (b5.mono hz));have hz5:w.heap.size<=w5.heap.size:=by omega
   clear ty r5 o5 b5 HV HVC;go_wp2_with (at_builtin;refine qM rfl _ _ _ rfl _ 72 Tryz.underlying42 infoTx rfl HV5.o (⟨s.id,s.thread,s.status,s.beg,s.fin,s.tri,.slice an s.deeds.length cn⟩:YQ) hz5 (by rfl) (by rfl) (by first|rfl|simp) rfl (tx_one _) (by first|omega|(simp only[List.length_append,List.length_cons,List.length_nil,List.length_replicate];omega)) (by first|omega|(simp only[List.length_append,List.length_cons,List.length_nil,List.length_replicate];omega)) ?_;refine qH.halt ?_)
   refine qH.go ?_;intro g6 c6 w6 o6 G6;have o6:qj YQ.cells 49 7 w6 w.heap.size (.slice (some ⟨g6,0,none⟩) (rs.length+1) c6) (rs++[⟨s.id,s.thread,s.status,s.beg,s.fin,s.tri,.slice an s.deeds.length cn⟩]):=o6;have T6:=qd (zw.snoc HV5.o HVL.o HVC5.o (s:=s) ⟨rfl,rfl,rfl,rfl,rfl,rfl⟩ O5.o o6 G6);have B6:=qd (B5.o.trans (G6.below B5.o.size fun j h=>(HV5.o.lt j h).1));clear o6 G6;go_wp2_with fail;go_roundw
   case rel=>exact⟨k+1,by omega,by go_num,by rw[zk HS.o];exact T6.o,B6.o⟩
   case measure=>simp[intOf];omega
  ·obtain rfl:k=bs.length:=by omega
   have hT:=HT.o;rw[hlen,List.take_length] at hT;obtain⟨rs,hv,hvl,hvc⟩:=hT;obtain⟨aq,cq,rfl⟩:=qj.slv hv;have HT2:=qd (show zw wr w.heap.size (.slice aq rs.length cq) A from⟨rs,hv,hvl,hvc⟩);clear hv hvl hvc HT;go_wp2;go_ret;exact⟨_,rfl,HT2.o,HB.o⟩
end
section
attribute [local irreducible] xL
def vZ (w:World) (r:Option Au) (e:Ending) (w':World):Prop:=match r with
 |some A=>∃v,e=.returned (.tuple #[v,.nilIface])/\zw w' w.heap.size v A/\Below w.heap.size w w'
 |none=>(∃t x,e=.returned (.tuple #[.slice none 0 0,.iface t x]))/\Below w.heap.size w w'
structure JE (os:List Ob) (A:Au):Prop where
 ol:os.length<=8
 len:A.length<=400
 dl:∀s ∈ A,s.deeds.length<=400
 id:∀s ∈ A,dI s.id
 obj:∀s ∈ A,∀d ∈ s.deeds,0<=d.obj/\d.obj < os.length
 val:∀s ∈ A,∀d ∈ s.deeds,dI d.val/\dI d.got
theorem JE.dobj {os:List Ob} {A:Au} (h:JE os A) {s:St} (hs:s ∈ A) {d:Dd} (hd:d ∈ s.deeds):dI d.obj:=by
 have h1:=h.obj s hs d hd;have h2:=h.ol;unfold dI Lit.wf;simp[IntKind.min,IntKind.max,IntKind.bits,IntKind.signed];omega
def xQ (os:List Ob) (r:Option Au):Option Au:=match r with
 |some A=>if qU os [] A=true then some A else none
 |none=>none
theorem Vk (ov vv:Value) (os:List Ob) (w:World) (ho:Sl w w.heap.size 2 ov os.length (os.flatMap Ob.cells)) (hvv:∃a n c,vv=.slice a n c)
  (hT:∀W,Below w.heap.size w W->Calls Tryz.prog 13 #[.agg #[ov,vv]] W (vZ W none)):
  Calls Tryz.prog 43 #[.agg #[ov,vv]] w (vZ w none):=by
 obtain⟨ao,co,rfl,mo⟩:=ho.ex;obtain⟨av,nv,cv,rfl⟩:=hvv;have b0:Below w.heap.size w (w.alloc (.cells #[.slice ao os.length co,.slice av nv cv] 25)):=(Below.refl _ w).alloc (Nat.le_refl _) _;have TC:=qd (hT _ b0);have B0:=qd b0;clear b0 hT ho mo;go_enter Tryz.func43,Tryz.ntmps43;go_wp2_with fail;generalize w.alloc (.cells #[.slice ao os.length co,.slice av nv cv] 25)=W at *;refine TC.o.mono ?_;rintro e W1 ⟨⟨te,xe,rfl⟩,b1⟩;have B1:=qd (B0.o.trans (b1.mono B0.o.size));clear b1 TC;go_wp2;refine bodyPost_ret (v:=.tuple #[.slice none 0 0,.iface te xe]) (by simp[results,Tryz.results43,go_sem]) rfl ?_;exact⟨⟨_,_,rfl⟩,B1.o⟩
theorem ZK (ov vv:Value) (os:List Ob) (A:Au) (w:World) (ho:Sl w w.heap.size 2 ov os.length (os.flatMap Ob.cells)) (hvv:∃a n c,vv=.slice a n c)
  (hT:∀W,Below w.heap.size w W->Calls Tryz.prog 13 #[.agg #[ov,vv]] W (vZ W (some A))) (hD:JE os A) {t0:TypeId} {v0:Value} (hev:w.cell? ⟨6,0,none⟩=some (.iface t0 v0)) (hel:6 < w.heap.size):
  Calls Tryz.prog 43 #[.agg #[ov,vv]] w (vZ w (xQ os (some A))):=by
 obtain⟨ao,co,rfl,mo⟩:=ho.ex;obtain⟨av,nv,cv,rfl⟩:=hvv;have b0:Below w.heap.size w (w.alloc (.cells #[.slice ao os.length co,.slice av nv cv] 25)):=(Below.refl _ w).alloc (Nat.le_refl _) _;have r0:=qs w (.cells #[.slice ao os.length co,.slice av nv cv] 25);have TC:=qd (hT _ b0);have HO:=qd ((ho.below b0).more b0.size);have B0:=qd b0;have R0:=qd r0;have EV:=qd (qp b0 hel hev);have HD:=qd hD;have hz0:w.heap.size < (w.alloc (.cells #[.slice ao os.length co,.slice av nv cv] 25)).heap.size:=by simp
 have hmm:=@run_makeMap Tryz.prog;obtain⟨R,hR⟩:∃R,xQ os (some A)=R:=⟨_,rfl⟩
 rw[hR];have HR:=qd hR;clear b0 r0 hT ho mo hev hD hR;go_enter Tryz.func43,Tryz.ntmps43;go_wp2_with fail;generalize w.alloc (.cells #[.slice ao os.length co,.slice av nv cv] 25)=W at *;refine TC.o.mono ?_;rintro e W1 ⟨tv,rfl,⟨rs,o1,hrl,hrc⟩,b1⟩;obtain⟨at1,ct1,rfl⟩:=qj.slv o1;have hz1:=b1.size;have B1:=qd (B0.o.trans (b1.mono B0.o.size));have R1:=qd (qh R0.o b1 (qe R0.o));have EV1:=qd (qp b1 (by have:=B0.o.size;omega) EV.o);have HO1:=qd ((HO.o.below b1).more b1.size);have O1:=qd o1;have HRC:=qd hrc;have HRL:=qd hrl;have hrl4:rs.length<=400:=by have:=HD.o.len;omega
 clear b1 o1 hrc hrl TC R0 EV HO;go_wp2_with fail;have CS:=qd (show jK (W1.alloc (.map #[] 0)) W1.heap.size [] from jK.made (heap_alloc_new W1 _));have BS:=qd (show Below W1.heap.size W1 (W1.alloc (.map #[] 0)) from(Below.refl _ W1).alloc (Nat.le_refl _) _);have hzS:W1.heap.size < (W1.alloc (.map #[] 0)).heap.size:=by simp
 generalize W1.alloc (.map #[] 0)=W2 at *
 go_loopw [24] (fun p wr=>∃(k:Nat) (wl:List (Int×Int)),k<=rs.length/\p=.int .i64 k/\jK wr W1.heap.size wl/\qU os [] A=qU os wl (A.drop k)/\Below W1.heap.size W1 wr/\W1.heap.size < wr.heap.size) (fun p _=>rs.length - (intOf p).toNat)
 case atStart=>exact⟨0,[],by omega,by go_num,CS.o,rfl,BS.o,hzS⟩
 case round=>
  obtain⟨k,wl,hk,rfl,hS,hP,hB,hzw⟩:=hrel;have HS:=qd hS;have HP:=qd hP;have HB:=qd hB;clear CS BS hzS W2 hS hP hB;by_cases hlt:k < rs.length
  ·obtain ⟨b,off,r,rfl,hb,hr,hc⟩:=(qj.sl (qj.below O1.o HB.o)).atF YQ.len rfl hlt
   obtain⟨s,hs⟩:∃s,A[k]?=some s:=⟨_,List.getElem?_eq_getElem (by have:=HRL.o;omega)⟩
   have hdv:=(HRC.o k r s hr hs).2;have HDK:=qd (show A.drop k=s::A.drop (k+1) from List.drop_eq_getElem?_toList_append▸by rw[hs];rfl);have hsm:=List.mem_of_getElem? hs;have HSM:=qd hsm;have hnd:=HD.o.dl s hsm;have HOb:=qd (HD.o.obj s hsm);have HVa:=qd (HD.o.val s hsm);have HDo:=qd (fun(d:Dd) (hd:d ∈ s.deeds)=>HD.o.dobj hsm hd);have hol:=HD.o.ol;obtain⟨i1,th1,st1,be1,fi1,tr1,dv⟩:=r;simp only at hdv;obtain⟨ad,cd,rfl⟩:=qj.slv hdv;have c0:wr.cell? ⟨b,off+k*7,none⟩=some (.int .i64 i1):=hc 0 (by decide);have c1:wr.cell? ⟨b,off+k*7+1,none⟩=some (.int .i64 th1):=hc 1 (by decide);have c2:wr.cell? ⟨b,off+k*7+2,none⟩=some (.int .i64 st1):=hc 2 (by decide);have c3:wr.cell? ⟨b,off+k*7+3,none⟩=some (.int .i64 be1):=hc 3 (by decide);have c4:wr.cell? ⟨b,off+k*7+4,none⟩=some (.int .i64 fi1):=hc 4 (by decide);have c5:wr.cell? ⟨b,off+k*7+5,none⟩=some (.int .i64 tr1):=hc 5 (by decide);have c6:wr.cell? ⟨b,off+k*7+6,none⟩=some (.slice ad s.deeds.length cd):=hc 6 (by decide);have HDV:=qd hdv;obtain⟨ds,hds⟩:∃ds,s.deeds=ds:=⟨_,rfl⟩
   rw[hds] at HDV HOb HVa HDo c6 hnd;have HDS:=qd hds;clear hr hs hc hsm hds hdv;have b5:Below W1.heap.size W1 ((wr.alloc (.cells #[.int .i64 i1,.int .i64 th1,.int .i64 st1,.int .i64 be1,.int .i64 fi1,.int .i64 tr1,.slice ad ds.length cd] 49)).alloc (.map #[] 0)):=(HB.o.alloc (Nat.le_of_lt hzw) _).alloc (by simp;omega) _;have B5:=qd b5;have S5:=qd (show jK ((wr.alloc (.cells #[.int .i64 i1,.int .i64 th1,.int .i64 st1,.int .i64 be1,.int .i64 fi1,.int .i64 tr1,.slice ad ds.length cd] 49)).alloc (.map #[] 0)) W1.heap.size wl from HS.o.obj (by rw[heap_alloc_old _ _ (by simp;omega),heap_alloc_old _ _ (by omega)]));have I5:=qd (show zi ((wr.alloc (.cells #[.int .i64 i1,.int .i64 th1,.int .i64 st1,.int .i64 be1,.int .i64 fi1,.int .i64 tr1,.slice ad ds.length cd] 49)).alloc (.map #[] 0)) (wr.heap.size+1) [] from zi.made (by have:=heap_alloc_new (wr.alloc (.cells #[.int .i64 i1,.int .i64 th1,.int .i64 st1,.int .i64 be1,.int .i64 fi1,.int .i64 tr1,.slice ad ds.length cd] 49)) (.map #[] 0);simpa using this));have hz5:wr.heap.size+1 < ((wr.alloc (.cells #[.int .i64 i1,.int .i64 th1,.int .i64 st1,.int .i64 be1,.int .i64 fi1,.int .i64 tr1,.slice ad ds.length cd] 49)).alloc (.map #[] 0)).heap.size:=by simp
   clear b5;go_wp2_with fail;generalize ((wr.alloc (.cells #[.int .i64 i1,.int .i64 th1,.int .i64 st1,.int .i64 be1,.int .i64 fi1,.int .i64 tr1,.slice ad ds.length cd] 49)).alloc (.map #[] 0))=W5 at *;clear c0 c1 c2 c3 c4 c5 c6 HS HB hb;generalize wr.heap.size=nb at *
   go_loopw [32] (fun q wi=>∃(j:Nat) (rd:List Int) (wk:List (Int×Int)),j<=ds.length/\q=.int .i64 j/\zi wi (nb+1) rd/\jK wi W1.heap.size wk/\xH os [] wl ds=xH os rd wk (ds.drop j)/\Below W1.heap.size W1 wi/\nb+1 < wi.heap.size) (fun q _=>ds.length - (intOf q).toNat)
   case atStart=>exact⟨0,[],wl,by omega,by go_num,I5.o,S5.o,rfl,B5.o,hz5⟩
   case round=>
    obtain⟨j,rd,wk,hj,rfl,hI,hS,hE,hB,hzi⟩:=hrel;clear S5 I5 B5 hz5 W5;have hz1i:=hB.size;have hIl:=hI.lt;have hSl:=hS.lt;have HI:=qd hI;have HS:=qd hS;have HE:=qd hE;have HB:=qd hB;clear hI hS hE hB;by_cases hlt2:j < ds.length
    ·obtain ⟨b2,off2,d,hq2,hb2,hdj,hc2⟩:=(qj.sl (qj.below HDV.o HB.o)).atF Dd.len rfl hlt2
     subst hq2;have HDJ:=qd (show ds.drop j=d::ds.drop (j+1) from List.drop_eq_getElem?_toList_append▸by rw[hdj];rfl);have hdm:=List.mem_of_getElem? hdj;have hob:=HOb.o d hdm;have hva:=HVa.o d hdm;have hdo:=HDo.o d hdm;obtain⟨ob',op,ke,va,re,go,at_,ba⟩:=d;obtain⟨ob,rfl⟩:∃ob:Nat,ob'=(ob:Int):=⟨ob'.toNat,by have:=hob.1;simp only at this;omega⟩
     have hobl:ob < os.length:=by have:=hob.2;simp only at this;omega
     have HCk:=qd (⟨hdo,hva.1⟩:dI (ob:Int)/\dI va);have c0:wr.cell? ⟨b2,off2+j*8,none⟩=some (.int .i64 (ob:Int)):=hc2 0 (by decide);have c1:wr.cell? ⟨b2,off2+j*8+1,none⟩=some (.int .i64 op):=hc2 1 (by decide);have c2:wr.cell? ⟨b2,off2+j*8+2,none⟩=some (.int .i64 ke):=hc2 2 (by decide);have c3:wr.cell? ⟨b2,off2+j*8+3,none⟩=some (.int .i64 va):=hc2 3 (by decide);have c4:wr.cell? ⟨b2,off2+j*8+4,none⟩=some (.int .i64 re):=hc2 4 (by decide);have c5:wr.cell? ⟨b2,off2+j*8+5,none⟩=some (.int .i64 go):=hc2 5 (by decide);have c6:wr.cell? ⟨b2,off2+j*8+6,none⟩=some (.int .i64 at_):=hc2 6 (by decide);have c7:wr.cell? ⟨b2,off2+j*8+7,none⟩=some (.int .i64 ba):=hc2 7 (by decide);obtain⟨bo,offo,o,hqo,hbo,hoo,hco⟩:=(HO1.o.below HB.o).atF Ob.len rfl hobl;subst hqo;obtain⟨kd,ini⟩:=o;have k0:wr.cell? ⟨bo,offo+ob*2,none⟩=some (.int .i64 kd):=hco 0 (by decide);have k1:wr.cell? ⟨bo,offo+ob*2+1,none⟩=some (.int .i64 ini):=hco 1 (by decide);have HOO:=qd (show os[((ob:Nat):Int).toNat]?=some ⟨kd,ini⟩ by simpa using hoo);have rh:=qh R1.o HB.o (qe R1.o);have z0:=qa rh 0;simp at z0;have zl:=qe rh;have EVi:=qp HB.o (by have:=B1.o.size;omega) EV1.o;have hgl:6 < wr.heap.size:=by have:=B1.o.size;omega
     have hbow:bo < wr.heap.size:=by omega
     have hb2w:b2 < wr.heap.size:=by omega
     have BA:=qd (B1.o.trans (HB.o.mono (by have:=B1.o.size;omega)));have hPE:xH os rd wk (⟨(ob:Int),op,ke,va,re,go,at_,ba⟩::ds.drop (j+1))=(if kd=1 then(if op=1 then xH os (if re=3 then(ob:Int)::rd else rd) wk (ds.drop (j+1)) else if (ob:Int) ∈ rd/\((ob:Int),va) ∉ wk/\ini≠va then xH os rd (((ob:Int),va)::wk) (ds.drop (j+1)) else none) else none):=by
      rw[xH,HOO.o]
     have HPE:=qd hPE;clear hPE hco hc2 hoo rh hdj hdm hob hva hdo;by_cases hk1:kd=1
     ·subst hk1
      by_cases ho1:op=1
      ·subst ho1
       have bd:Below wr.heap.size wr (wr.alloc (.cells #[.int .i64 (ob:Int),.int .i64 1,.int .i64 ke,.int .i64 va,.int .i64 re,.int .i64 go,.int .i64 at_,.int .i64 ba] 112)):=(Below.refl _ wr).alloc (Nat.le_refl _) _;have rd8:=qs wr (.cells #[.int .i64 (ob:Int),.int .i64 1,.int .i64 ke,.int .i64 va,.int .i64 re,.int .i64 go,.int .i64 at_,.int .i64 ba] 112);have BD:=qd bd;have RD8:=qd rd8;have HId:=qd (HI.o.obj (bd.block _ hIl));have HSd:=qd (HS.o.obj (bd.block _ hSl));have hzd:(wr.alloc (.cells #[.int .i64 (ob:Int),.int .i64 1,.int .i64 ke,.int .i64 va,.int .i64 re,.int .i64 go,.int .i64 at_,.int .i64 ba] 112)).heap.size=wr.heap.size+1:=by simp
       have HZd:=qd hzd;have y:=qa rd8;have y0:=y 0;have y1:=y 1;have y2:=y 2;have y3:=y 3;have y4:=y 4;have y5:=y 5;have y6:=y 6;have y7:=y 7;simp at y0 y1 y2 y3 y4 y5 y6 y7;have yl:=qe rd8;clear y rd8 bd hzd;obtain⟨M,hM,hM2⟩:=HId.o;have hlk:=(hM.look Tryz.underlying3 Tryz.underlying102 (YU _) (ob:Int) rfl).1;rw[hM2] at hlk;have HM2:=qd hM2;obtain⟨x,hx⟩:∃x:Bool,x=(decide ((ob:Int) ∈ rd)||decide (re=3)):=⟨_,rfl⟩
       have HX:=qd hx;clear hM2 HId hx;by_cases hr:(ob:Int) ∈ rd
       ·have e1:decide ((ob:Int) ∈ rd)=true:=by simpa using hr
        rw[e1] at hlk;have ex:x=true:=by rw[HX.o,e1];rfl
        subst ex;clear hr e1;go_wp2_with (at_mapUpdate;refine qH.halt ?_)
        refine qH.go ?_;refine hM.wpList_store Tryz.underlying3 Tryz.underlying102 (a:=(ob:Int)) (v:=.bool true) rfl (.inl rfl) (by rfl) (by rfl) (by first|rfl|(subst_vars;rfl)) ?_;intro w6 hM6 t6;have I6:=qd (zi.put (rd':=if re=3 then(ob:Int)::rd else rd) hM6 HM2.o (by rw[HX.o];by_cases h3:re=3 <;> simp[h3]) (fun k hk=>by by_cases h3:re=3 <;> simp[h3,hk]));have S6:=qd (HSd.o.obj (qA t6 (by omega)));have B6:=qd ((HB.o.trans (BD.o.mono hz1i)).trans (Below.turned t6 (by omega)));have z6:=qP t6;have hz7:nb+1 < w6.heap.size:=by have:=HZd.o;omega
        clear t6 hM6;go_wp2_with fail;go_roundw
        case rel=>exact⟨j+1,_,wk,by omega,by go_num,I6.o,S6.o,by rw[HE.o,HDJ.o,HPE.o,if_pos trivial,if_pos trivial],B6.o,hz7⟩
        case measure=>simp[intOf];omega
       ·have e1:decide ((ob:Int) ∈ rd)=false:=by simpa using hr
        rw[e1] at hlk;by_cases h3:re=3
        ·have q3:(re==3)=true:=by simpa using h3
         have ex:x=true:=by rw[HX.o,e1,h3];rfl
         subst ex;clear hr e1 h3;go_wp2_with (at_mapUpdate;refine qH.halt ?_)
         refine qH.go ?_;refine hM.wpList_store Tryz.underlying3 Tryz.underlying102 (a:=(ob:Int)) (v:=.bool true) rfl (.inl rfl) (by rfl) (by rfl) (by first|rfl|(subst_vars;rfl)) ?_;intro w6 hM6 t6;have I6:=qd (zi.put (rd':=if re=3 then(ob:Int)::rd else rd) hM6 HM2.o (by rw[HX.o];by_cases h3:re=3 <;> simp[h3]) (fun k hk=>by by_cases h3:re=3 <;> simp[h3,hk]));have S6:=qd (HSd.o.obj (qA t6 (by omega)));have B6:=qd ((HB.o.trans (BD.o.mono hz1i)).trans (Below.turned t6 (by omega)));have z6:=qP t6;have hz7:nb+1 < w6.heap.size:=by have:=HZd.o;omega
         clear t6 hM6;go_wp2_with fail;go_roundw
         case rel=>exact⟨j+1,_,wk,by omega,by go_num,I6.o,S6.o,by rw[HE.o,HDJ.o,HPE.o,if_pos trivial,if_pos trivial],B6.o,hz7⟩
         case measure=>simp[intOf];omega
        ·have q3:(re==3)=false:=by simpa using h3
         have ex:x=false:=by rw[HX.o,e1];simpa using h3
         subst ex;clear hr e1 h3;go_wp2_with (at_mapUpdate;refine qH.halt ?_)
         refine qH.go ?_;refine hM.wpList_store Tryz.underlying3 Tryz.underlying102 (a:=(ob:Int)) (v:=.bool false) rfl (.inl rfl) (by rfl) (by rfl) (by first|rfl|(subst_vars;rfl)) ?_;intro w6 hM6 t6;have I6:=qd (zi.put (rd':=if re=3 then(ob:Int)::rd else rd) hM6 HM2.o (by rw[HX.o];by_cases h3:re=3 <;> simp[h3]) (fun k hk=>by by_cases h3:re=3 <;> simp[h3,hk]));have S6:=qd (HSd.o.obj (qA t6 (by omega)));have B6:=qd ((HB.o.trans (BD.o.mono hz1i)).trans (Below.turned t6 (by omega)));have z6:=qP t6;have hz7:nb+1 < w6.heap.size:=by have:=HZd.o;omega
         clear t6 hM6;go_wp2_with fail;go_roundw
         case rel=>exact⟨j+1,_,wk,by omega,by go_num,I6.o,S6.o,by rw[HE.o,HDJ.o,HPE.o,if_pos trivial,if_pos trivial],B6.o,hz7⟩
         case measure=>simp[intOf];omega
      ·have qo:(op==1)=false:=by simpa using ho1
       have HO1n:=qd ho1;have bd:Below wr.heap.size wr (wr.alloc (.cells #[.int .i64 (ob:Int),.int .i64 op,.int .i64 ke,.int .i64 va,.int .i64 re,.int .i64 go,.int .i64 at_,.int .i64 ba] 112)):=(Below.refl _ wr).alloc (Nat.le_refl _) _;have rd8:=qs wr (.cells #[.int .i64 (ob:Int),.int .i64 op,.int .i64 ke,.int .i64 va,.int .i64 re,.int .i64 go,.int .i64 at_,.int .i64 ba] 112);have BD:=qd bd;have RD8:=qd rd8;have HId:=qd (HI.o.obj (bd.block _ hIl));have HSd:=qd (HS.o.obj (bd.block _ hSl));have hzd:(wr.alloc (.cells #[.int .i64 (ob:Int),.int .i64 op,.int .i64 ke,.int .i64 va,.int .i64 re,.int .i64 go,.int .i64 at_,.int .i64 ba] 112)).heap.size=wr.heap.size+1:=by simp
       have HZd:=qd hzd;have y:=qa rd8;have y0:=y 0;have y1:=y 1;have y2:=y 2;have y3:=y 3;have y4:=y 4;have y5:=y 5;have y6:=y 6;have y7:=y 7;simp at y0 y1 y2 y3 y4 y5 y6 y7;have yl:=qe rd8;clear y rd8 bd hzd;clear ho1;have hne7:((wr.alloc (.cells #[.int .i64 (ob:Int),.int .i64 op,.int .i64 ke,.int .i64 va,.int .i64 re,.int .i64 go,.int .i64 at_,.int .i64 ba] 112)).alloc (.cells #[.int .i64 (ob:Int),.int .i64 va] 157)).heap.size=wr.heap.size+2:=by simp
       have b7:Below wr.heap.size wr ((wr.alloc (.cells #[.int .i64 (ob:Int),.int .i64 op,.int .i64 ke,.int .i64 va,.int .i64 re,.int .i64 go,.int .i64 at_,.int .i64 ba] 112)).alloc (.cells #[.int .i64 (ob:Int),.int .i64 va] 157)):=BD.o.alloc (by simp) _;have R7:=qd (show((wr.alloc (.cells #[.int .i64 (ob:Int),.int .i64 op,.int .i64 ke,.int .i64 va,.int .i64 re,.int .i64 go,.int .i64 at_,.int .i64 ba] 112)).alloc (.cells #[.int .i64 (ob:Int),.int .i64 va] 157)).heap[wr.heap.size]?=_ from qh RD8.o ((Below.refl _ _).alloc (Nat.le_refl _) _) (by have:=HZd.o;omega));have C7:=qd (show((wr.alloc (.cells #[.int .i64 (ob:Int),.int .i64 op,.int .i64 ke,.int .i64 va,.int .i64 re,.int .i64 go,.int .i64 at_,.int .i64 ba] 112)).alloc (.cells #[.int .i64 (ob:Int),.int .i64 va] 157)).heap[wr.heap.size+1]?=some (.cells #[.int .i64 (ob:Int),.int .i64 va] 157 (0,0)) by have:=qs (wr.alloc (.cells #[.int .i64 (ob:Int),.int .i64 op,.int .i64 ke,.int .i64 va,.int .i64 re,.int .i64 go,.int .i64 at_,.int .i64 ba] 112)) (.cells #[.int .i64 (ob:Int),.int .i64 va] 157);rw[HZd.o] at this;exact this);have B7:=qd b7;have HZ7:=qd hne7;have I7:=qd (HI.o.obj (b7.block _ hIl));have S7:=qd (HS.o.obj (b7.block _ hSl));have HIl:=qd hIl;have HSl:=qd hSl;have Z7:=qd (qp b7 zl z0);have K7:=qd (qp b7 hbow k1);have EV7:=qd (qp b7 hgl EVi);clear b7 hne7;go_wp2_with fail;generalize ((wr.alloc (.cells #[.int .i64 (ob:Int),.int .i64 op,.int .i64 ke,.int .i64 va,.int .i64 re,.int .i64 go,.int .i64 at_,.int .i64 ba] 112)).alloc (.cells #[.int .i64 (ob:Int),.int .i64 va] 157))=W7 at *;clear c0 c1 c2 c3 c4 c5 c6 c7 k0 k1 y0 y1 y2 y3 y4 y5 y6 y7 yl z0 EVi;have y:=qa R7.o;have y0:=y 0;have y3:=y 3;have yc:=qa C7.o;have yc0:=yc 0;have yc1:=yc 1;simp at y0 y3 yc0 yc1;have z0:=Z7.o;have k1:=K7.o;have EVi:=EV7.o;have hz7:=HZ7.o;have yl:wr.heap.size < W7.heap.size:=by omega
       have ycl:wr.heap.size+1 < W7.heap.size:=by omega
       have hobW:bo < W7.heap.size:=by omega
       have hwW:w.heap.size < W7.heap.size:=by omega
       have hgW:6 < W7.heap.size:=by omega
       have hI7l:nb+1 < W7.heap.size:=by omega
       have hS7l:W1.heap.size < W7.heap.size:=by omega
       clear y yc hz7;have LR:=qd (fun(X:World) (hX:X.heap[nb+1]?=W7.heap[nb+1]?)=>(I7.o.obj hX).look (ob:Int));have LW:=qd (fun(X:World) (hX:X.heap[W1.heap.size]?=W7.heap[W1.heap.size]?)=>(S7.o.obj hX).look ⟨((ob:Int),va),HCk.o⟩);by_cases hr:(ob:Int) ∈ rd
       ·have E1:=qd (show decide ((ob:Int) ∈ rd)=true by simpa using hr)
        have HR1:=qd hr;clear hr;by_cases hw:((ob:Int),va) ∈ wk
        ·have E2:=qd (show decide (((ob:Int),va) ∈ wk)=true by simpa using hw)
         have HW1:=qd hw;clear hw;refine qD (W7.heap.size) [0,0,1,1,0,0,0,1,1,0,0,0,1,0,1,0,0,1,0,1,0,0] (.fin [0,1,2,3,4,5,6,7,8,9,10,11,12,13,14,15,16,17,18,19,20,21]) (by kernel_rfl) ?_;simp only[xC,qJ,qu,sD,sE,sF,sG,Option.bind_some]
         repeat first|(refine qq fun K hK=>?_;go_simp;refine hK _ _ ?_;clear hK K)|(apply qx;(intro w2 hw2;have hk1:=hw2.cell;have hk3:=hw2.1;clear hw2;go_simp;with_reducible rfl);simp only[Act.put,sA,sB,sC])
         refine xO (fun K hK=>?_);refine⟨.bool true,fun w2 hw2=>?_,?_⟩
         ·have lk:=LR.o w2 (hw2.2 (nb+1) hI7l)
          rw[E1.o] at lk;go_simp
         refine hK _ _ ?_;clear hK K
         repeat first|(refine qq fun K hK=>?_;go_simp;refine hK _ _ ?_;clear hK K)|(apply qx;(intro w2 hw2;have hk1:=hw2.cell;have hk3:=hw2.1;clear hw2;go_simp;with_reducible rfl);simp only[Act.put,sA,sB,sC])|refine qz rfl rfl ?_
         refine xO (fun K hK=>?_);refine⟨.bool true,fun w2 hw2=>?_,?_⟩
         ·have lk:=LW.o w2 (hw2.2 W1.heap.size hS7l)
          unfold YG at lk;rw[E2.o] at lk;go_simp
         refine hK _ _ ?_;clear hK K
         repeat first|(refine qq fun K hK=>?_;go_simp;refine hK _ _ ?_;clear hK K)|(apply qx;(intro w2 hw2;have hk1:=hw2.cell;have hk3:=hw2.1;clear hw2;go_simp;with_reducible rfl);simp only[Act.put,sA,sB,sC])|refine qz rfl rfl ?_|(refine qE rfl rfl fun K hK=>?_;simp only[Act.put,sA,sB,sC];refine hK _ _ ?_;clear hK K)|(refine qQ rfl fun K hK=>?_;simp only[Act.put,sA,sB,sC];refine hK _ _ ?_;clear hK K)|refine qm ?_
         go_wp2_with fail;refine qD (W7.heap.size) [1,0,0] (.fin [0,1,2]) (by kernel_rfl) ?_;simp only[xC,qJ,qu,sD,sE,sF,sG]
         repeat first|(refine qq fun K hK=>?_;go_simp;refine hK _ _ ?_;clear hK K)|(apply qx;(intro w2 hw2;have hk1:=hw2.cell;have hk3:=hw2.1;clear hw2;go_simp;with_reducible rfl);simp only[Act.put,sA,sB,sC])|refine qm ?_
         go_wp2_with fail;refine bodyPost_ret (v:=.tuple #[.slice none 0 0,.iface t0 v0]) (by simp[results,Tryz.results43,go_sem]) rfl ?_;have hno:xQ os (some A)=none:=by
          show(if qU os [] A=true then some A else none)=none;rw[if_neg];rw[HP.o,HDK.o,qU,HDS.o,HE.o,HDJ.o];rw[HPE.o,if_pos trivial,if_neg HO1n.o,if_neg (fun h=>h.2.1 HW1.o)];simp
         rw[←HR.o,hno];exact⟨⟨_,_,rfl⟩,((BA.o.trans (B7.o.mono (by have:=BA.o.size;omega))).drew).drew⟩
        ·have E2:=qd (show decide (((ob:Int),va) ∈ wk)=false by simpa using hw)
         have HW1:=qd hw;clear hw;by_cases hi:ini=va
         ·have qi:(ini==va)=true:=by simpa using hi
          have HIN:=qd hi;clear hi;refine qD (W7.heap.size) [0,0,1,1,0,0,0,1,1,0,0,0,1,0,1,0,0,1,0,1,0,0] (.fin [0,1,2,3,4,5,6,7,8,9,10,11,12,13,14,15,16,17,18,19,20,21]) (by kernel_rfl) ?_;simp only[xC,qJ,qu,sD,sE,sF,sG,Option.bind_some]
          repeat first|(refine qq fun K hK=>?_;go_simp;refine hK _ _ ?_;clear hK K)|(apply qx;(intro w2 hw2;have hk1:=hw2.cell;have hk3:=hw2.1;clear hw2;go_simp;with_reducible rfl);simp only[Act.put,sA,sB,sC])
          refine xO (fun K hK=>?_);refine⟨.bool true,fun w2 hw2=>?_,?_⟩
          ·have lk:=LR.o w2 (hw2.2 (nb+1) hI7l)
           rw[E1.o] at lk;go_simp
          refine hK _ _ ?_;clear hK K
          repeat first|(refine qq fun K hK=>?_;go_simp;refine hK _ _ ?_;clear hK K)|(apply qx;(intro w2 hw2;have hk1:=hw2.cell;have hk3:=hw2.1;clear hw2;go_simp;with_reducible rfl);simp only[Act.put,sA,sB,sC])|refine qz rfl rfl ?_
          refine xO (fun K hK=>?_);refine⟨.bool false,fun w2 hw2=>?_,?_⟩
          ·have lk:=LW.o w2 (hw2.2 W1.heap.size hS7l)
           unfold YG at lk;rw[E2.o] at lk;go_simp
          refine hK _ _ ?_;clear hK K
          repeat first|(refine qq fun K hK=>?_;go_simp;refine hK _ _ ?_;clear hK K)|(apply qx;(intro w2 hw2;have hk1:=hw2.cell;have hk3:=hw2.1;clear hw2;go_simp;with_reducible rfl);simp only[Act.put,sA,sB,sC])|refine qz rfl rfl ?_|(refine qE rfl rfl fun K hK=>?_;simp only[Act.put,sA,sB,sC];refine hK _ _ ?_;clear hK K)|(refine qQ rfl fun K hK=>?_;simp only[Act.put,sA,sB,sC];refine hK _ _ ?_;clear hK K)|refine qm ?_
          go_wp2_with fail;refine qD (W7.heap.size) [1,0,0] (.fin [0,1,2]) (by kernel_rfl) ?_;simp only[xC,qJ,qu,sD,sE,sF,sG]
          repeat first|(refine qq fun K hK=>?_;go_simp;refine hK _ _ ?_;clear hK K)|(apply qx;(intro w2 hw2;have hk1:=hw2.cell;have hk3:=hw2.1;clear hw2;go_simp;with_reducible rfl);simp only[Act.put,sA,sB,sC])|refine qm ?_
          go_wp2_with fail;refine bodyPost_ret (v:=.tuple #[.slice none 0 0,.iface t0 v0]) (by simp[results,Tryz.results43,go_sem]) rfl ?_;have hno:xQ os (some A)=none:=by
           show(if qU os [] A=true then some A else none)=none;rw[if_neg];rw[HP.o,HDK.o,qU,HDS.o,HE.o,HDJ.o];rw[HPE.o,if_pos trivial,if_neg HO1n.o,if_neg (fun h=>h.2.2 HIN.o)];simp
          rw[←HR.o,hno];exact⟨⟨_,_,rfl⟩,((BA.o.trans (B7.o.mono (by have:=BA.o.size;omega))).drew).drew⟩
         ·have qi:(ini==va)=false:=by simpa using hi
          have HIN:=qd hi;clear hi;refine qD (W7.heap.size) [0,0,1,1,0,0,0,1,1,0,0,0,1,0,1,0,0,1,0,1,0,0] (.fin [0,1,2,3,4,5,6,7,8,9,10,11,12,13,14,15,16,17,18,19,20,21]) (by kernel_rfl) ?_;simp only[xC,qJ,qu,sD,sE,sF,sG,Option.bind_some]
          repeat first|(refine qq fun K hK=>?_;go_simp;refine hK _ _ ?_;clear hK K)|(apply qx;(intro w2 hw2;have hk1:=hw2.cell;have hk3:=hw2.1;clear hw2;go_simp;with_reducible rfl);simp only[Act.put,sA,sB,sC])
          refine xO (fun K hK=>?_);refine⟨.bool true,fun w2 hw2=>?_,?_⟩
          ·have lk:=LR.o w2 (hw2.2 (nb+1) hI7l)
           rw[E1.o] at lk;go_simp
          refine hK _ _ ?_;clear hK K
          repeat first|(refine qq fun K hK=>?_;go_simp;refine hK _ _ ?_;clear hK K)|(apply qx;(intro w2 hw2;have hk1:=hw2.cell;have hk3:=hw2.1;clear hw2;go_simp;with_reducible rfl);simp only[Act.put,sA,sB,sC])|refine qz rfl rfl ?_
          refine xO (fun K hK=>?_);refine⟨.bool false,fun w2 hw2=>?_,?_⟩
          ·have lk:=LW.o w2 (hw2.2 W1.heap.size hS7l)
           unfold YG at lk;rw[E2.o] at lk;go_simp
          refine hK _ _ ?_;clear hK K
          repeat first|(refine qq fun K hK=>?_;go_simp;refine hK _ _ ?_;clear hK K)|(apply qx;(intro w2 hw2;have hk1:=hw2.cell;have hk3:=hw2.1;clear hw2;go_simp;with_reducible rfl);simp only[Act.put,sA,sB,sC])|refine qz rfl rfl ?_|(refine qE rfl rfl fun K hK=>?_;simp only[Act.put,sA,sB,sC];refine hK _ _ ?_;clear hK K)|(refine qQ rfl fun K hK=>?_;simp only[Act.put,sA,sB,sC];refine hK _ _ ?_;clear hK K)|refine qm ?_
          go_wp2_with (at_mapUpdate;refine qH.halt ?_)
          refine qH.go ?_;obtain⟨MwV,hMw,hMw2⟩:=S7.o;refine hMw.drew.wpList_store ck Tryz.underlying180 (a:=⟨((ob:Int),va),HCk.o⟩) (v:=.bool true) rfl rfl (by rfl) (by rfl) (by rfl) ?_;intro w8 hM8 t8;have z8:=qP (w:=W7.drew) t8;have S8:=qd (jK.put hM8 hMw2);have I8:=qd (I7.o.obj (qA (w:=W7.drew) t8 (by omega)));have B8:=qd ((HB.o.trans (B7.o.mono hz1i)).drew.trans (Below.turned t8 (Nat.le_refl _)));have hz9:nb+1 < w8.heap.size:=by have:W7.drew.heap.size=W7.heap.size:=rfl;omega
          clear t8 hM8 hMw hMw2;go_wp2_with fail;go_roundw
          case rel=>exact⟨j+1,rd,_,by omega,by go_num,I8.o,S8.o,by rw[HE.o,HDJ.o,HPE.o,if_pos trivial,if_neg HO1n.o,if_pos ⟨HR1.o,HW1.o,HIN.o⟩],B8.o,hz9⟩
          case measure=>simp[intOf];omega
       ·have E1:=qd (show decide ((ob:Int) ∈ rd)=false by simpa using hr)
        have HR1:=qd hr;clear hr;refine qD (W7.heap.size) [0,0,1,1,0,0,0,1,1,0,0,0,1,0,1,0,0,1,0,1,0,0] (.fin [0,1,2,3,4,5,6,7,8,9,10,11,12,13,14,15,16,17,18,19,20,21]) (by kernel_rfl) ?_;simp only[xC,qJ,qu,sD,sE,sF,sG,Option.bind_some]
        repeat first|(refine qq fun K hK=>?_;go_simp;refine hK _ _ ?_;clear hK K)|(apply qx;(intro w2 hw2;have hk1:=hw2.cell;have hk3:=hw2.1;clear hw2;go_simp;with_reducible rfl);simp only[Act.put,sA,sB,sC])
        refine xO (fun K hK=>?_);refine⟨.bool false,fun w2 hw2=>?_,?_⟩
        ·have lk:=LR.o w2 (hw2.2 (nb+1) hI7l)
         rw[E1.o] at lk;go_simp
        refine hK _ _ ?_;clear hK K
        repeat first|(refine qq fun K hK=>?_;go_simp;refine hK _ _ ?_;clear hK K)|(apply qx;(intro w2 hw2;have hk1:=hw2.cell;have hk3:=hw2.1;clear hw2;go_simp;with_reducible rfl);simp only[Act.put,sA,sB,sC])|refine qz rfl rfl ?_|(refine qE rfl rfl fun K hK=>?_;simp only[Act.put,sA,sB,sC];refine hK _ _ ?_;clear hK K)|(refine qQ rfl fun K hK=>?_;simp only[Act.put,sA,sB,sC];refine hK _ _ ?_;clear hK K)|refine qm ?_
        go_wp2_with fail;refine qD (W7.heap.size) [1,0,0] (.fin [0,1,2]) (by kernel_rfl) ?_;simp only[xC,qJ,qu,sD,sE,sF,sG]
        repeat first|(refine qq fun K hK=>?_;go_simp;refine hK _ _ ?_;clear hK K)|(apply qx;(intro w2 hw2;have hk1:=hw2.cell;have hk3:=hw2.1;clear hw2;go_simp;with_reducible rfl);simp only[Act.put,sA,sB,sC])|refine qm ?_
        go_wp2_with fail;refine bodyPost_ret (v:=.tuple #[.slice none 0 0,.iface t0 v0]) (by simp[results,Tryz.results43,go_sem]) rfl ?_;have hno:xQ os (some A)=none:=by
         show(if qU os [] A=true then some A else none)=none;rw[if_neg];rw[HP.o,HDK.o,qU,HDS.o,HE.o,HDJ.o];rw[HPE.o,if_pos trivial,if_neg HO1n.o,if_neg (fun h=>HR1.o h.1)];simp
        rw[←HR.o,hno];exact⟨⟨_,_,rfl⟩,((BA.o.trans (B7.o.mono (by have:=BA.o.size;omega))).drew).drew⟩
     ·have qk:(kd !=1)=true:=by simpa using hk1
      have HK1:=qd hk1;have bd:Below wr.heap.size wr (wr.alloc (.cells #[.int .i64 (ob:Int),.int .i64 op,.int .i64 ke,.int .i64 va,.int .i64 re,.int .i64 go,.int .i64 at_,.int .i64 ba] 112)):=(Below.refl _ wr).alloc (Nat.le_refl _) _;have rd8:=qs wr (.cells #[.int .i64 (ob:Int),.int .i64 op,.int .i64 ke,.int .i64 va,.int .i64 re,.int .i64 go,.int .i64 at_,.int .i64 ba] 112);have BD:=qd bd;have RD8:=qd rd8;have HId:=qd (HI.o.obj (bd.block _ hIl));have HSd:=qd (HS.o.obj (bd.block _ hSl));have hzd:(wr.alloc (.cells #[.int .i64 (ob:Int),.int .i64 op,.int .i64 ke,.int .i64 va,.int .i64 re,.int .i64 go,.int .i64 at_,.int .i64 ba] 112)).heap.size=wr.heap.size+1:=by simp
      have HZd:=qd hzd;have y:=qa rd8;have y0:=y 0;have y1:=y 1;have y2:=y 2;have y3:=y 3;have y4:=y 4;have y5:=y 5;have y6:=y 6;have y7:=y 7;simp at y0 y1 y2 y3 y4 y5 y6 y7;have yl:=qe rd8;clear y rd8 bd hzd;clear hk1;go_wp2_with fail;have EVd:=qp BD.o hgl EVi;generalize wr.alloc (.cells #[.int .i64 (ob:Int),.int .i64 op,.int .i64 ke,.int .i64 va,.int .i64 re,.int .i64 go,.int .i64 at_,.int .i64 ba] 112)=W6 at *;have hgl6:6 < W6.heap.size:=by have:=HZd.o;omega
      refine qD (W6.heap.size) [1,0,0] (.fin [0,1,2]) (by kernel_rfl) ?_;simp only[xC,qJ,qu,sD,sE,sF,sG]
      repeat first|(refine qq fun K hK=>?_;go_simp;refine hK _ _ ?_;clear hK K)|(apply qx;(intro w2 hw2;have hk1:=hw2.cell;have hk3:=hw2.1;clear hw2;go_simp;with_reducible rfl);simp only[Act.put,sA,sB,sC])|refine qm ?_
      go_wp2_with fail;refine bodyPost_ret (v:=.tuple #[.slice none 0 0,.iface t0 v0]) (by simp[results,Tryz.results43,go_sem]) rfl ?_;have hno:xQ os (some A)=none:=by
       show(if qU os [] A=true then some A else none)=none;rw[if_neg];rw[HP.o,HDK.o,qU,HDS.o,HE.o,HDJ.o];rw[HPE.o,if_neg HK1.o];simp
      rw[←HR.o,hno];exact⟨⟨_,_,rfl⟩,(BA.o.trans (BD.o.mono (by have:=BA.o.size;omega))).drew⟩
    ·obtain rfl:j=ds.length:=by omega
     have hq:decide ((ds.length:Int) < (ds.length:Int))=false:=by simp
     have hend:xH os [] wl ds=some wk:=by rw[HE.o,List.drop_length];rfl
     have HEND:=qd hend;clear hend;go_wp2_with fail;go_roundw
     case rel=>exact⟨k+1,wk,by omega,by go_num,HS.o,by rw[HP.o,HDK.o,qU,HDS.o,HEND.o],HB.o,by omega⟩
     case measure=>simp[intOf];omega
  ·obtain rfl:k=rs.length:=by omega
   have hq:decide ((rs.length:Int) < (rs.length:Int))=false:=by simp
   have hyes:qU os [] A=true:=by rw[HP.o,List.drop_of_length_le (by have:=HRL.o;omega)];rfl
   have HYES:=qd hyes;clear hyes;go_wp2_with fail;refine bodyPost_ret (v:=.tuple #[.slice at1 rs.length ct1,.nilIface]) (by simp[results,Tryz.results43,go_sem]) rfl ?_;have hall:xQ os (some A)=some A:=by
    show(if qU os [] A=true then some A else none)=some A;rw[if_pos HYES.o]
   rw[←HR.o,hall];refine⟨_,rfl,⟨rs,qj.base (qj.below O1.o HB.o) (by have:=B0.o.size;omega),HRL.o,fun i r s hr hs=>?_⟩,B1.o.trans (HB.o.mono (by have:=B1.o.size;omega))⟩;have:=HRC.o i r s hr hs;exact⟨this.1,qj.base (qj.below this.2 HB.o) (by have:=B0.o.size;omega)⟩
end
