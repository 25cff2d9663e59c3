/- Parts of the proof, merged by program out of 4 texts (GsF, GsG, GsH, ShV): the first: The automaton of well-formed histories of all kinds of objects takes any event that may be, or refuses it. Conditions: those of each theorem, as typed. -/
import Derived.Test.YtcpfbphcldocpaaGreatDoorQF15
import Derived.Test.YtcpfbphcldocpaaGreatDoorQF02
set_option linter.unusedVariables false
set_option linter.unusedSimpArgs false
set_option linter.unusedSectionVars false
set_option maxRecDepth 100000
set_option maxHeartbeats 4000000
namespace Go.Proofs.YtcpfbphcldocpaaGreatDoor
open Go.Maps Go.RowKit
structure RunI (A:Au):Prop where
 busy:BusyU A
 wait:∀s ∈ A,s.stand=2→s.deeds≠[]
theorem RunI.nil:RunI []:=⟨fun j k s t h=>by simp at h,fun s h=>by simp at h⟩
theorem stepG_cases {A A':Au} {n:Nat} {e:Ev} (h:stepG A n e=some A'):(e.kind=1∧¬hasId e.tx A∧¬isBusy e.thread A∧A'=A++[newSt e n])∨∃(k:Nat) (s s':St),e.kind≠1∧A[k]?=some s∧s.id=e.tx∧moveG n e s=some s'∧A'=A.set k s':=by
 unfold stepG at h
 split at h
 ·rename_i hk
  split at h
  ·cases h
  ·rename_i hn
   simp only[Bool.or_eq_true,not_or] at hn
   exact .inl ⟨hk,fun q=>hn.1 (hasB_iff.2 q),fun q=>hn.2 (busyB_iff.2 q),(Option.some.inj h).symm⟩
 ·rename_i hk
  split at h
  ·cases h
  ·rename_i k hf
   obtain⟨hkl,hp,-⟩:=List.findIdx?_eq_some_iff_getElem.1 hf
   rw[List.getElem?_eq_getElem hkl] at h
   simp only at h
   cases hm:moveG n e A[k] with
   |none=>rw[hm] at h;cases h
   |some s'=>
    rw[hm] at h
    exact .inr ⟨k,A[k],s',hk,List.getElem?_eq_getElem hkl,by simpa using hp,hm,(Option.some.inj h).symm⟩
theorem RunI.step {A A':Au} {n:Nat} {e:Ev} (hI:RunI A) (h:stepG A n e=some A'):RunI A':=by
 rcases stepG_cases h with⟨hk,h1,h2,rfl⟩|⟨k,s,s',hk,hs,hi,hm,rfl⟩
 ·constructor
  ·intro j k s t hs ht hth h5 h6
   have key:∀(j:Nat) (s:St),(A++[newSt e n])[j]?=some s→A[j]?=some s∨(j=A.length∧s=newSt e n):=fun j s hs=>by
    rcases Nat.lt_or_ge j A.length with hj|hj
    ·rw [List.getElem?_append_left hj] at hs;exact .inl hs
    ·have hl:=(List.getElem?_eq_some_iff.1 hs).1
     simp only[List.length_append,List.length_cons,List.length_nil] at hl
     obtain rfl:j=A.length:=by omega
     simp only[List.getElem?_concat_length,Option.some.injEq] at hs
     exact .inr ⟨rfl,hs.symm⟩
   rcases key j s hs with hs|⟨rfl,rfl⟩ <;> rcases key k t ht with ht|⟨rfl,rfl⟩
   ·exact hI.busy j k s t hs ht hth h5 h6
   ·exact absurd ⟨s,List.mem_of_getElem? hs,hth,h5⟩ h2
   ·exact absurd ⟨t,List.mem_of_getElem? ht,hth.symm,h6⟩ h2
   ·rfl
  ·intro s hs h2
   rcases List.mem_append.1 hs with hs|hs
   ·exact hI.wait s hs h2
   ·rw [List.mem_singleton.1 hs] at h2
    exact absurd h2 (by show ¬((1:Int)=2);decide)
 ·obtain ⟨-,hth,h5⟩:=moveG_keeps hm
  constructor
  ·intro i j x y hx hy hxy hx5 hy5
   rcases get_set hx with⟨rfl,rfl⟩|⟨hne,hx'⟩ <;> rcases get_set hy with⟨rfl,rfl⟩|⟨hne2,hy'⟩
   ·rfl
   ·exact hI.busy _ _ _ _ hs hy' (by rw[←hth,hxy]) h5 hy5
   ·exact hI.busy _ _ _ _ hx' hs (by rw[←hth,hxy]) hx5 h5
   ·exact hI.busy i j x y hx' hy' hxy hx5 hy5
  ·intro t ht h2
   obtain⟨j,hj⟩:=List.mem_iff_getElem?.1 ht
   rcases get_set hj with⟨rfl,rfl⟩|⟨-,hj⟩
   ·rcases moveG_cases hm with⟨-,-,rfl⟩|⟨-,-,d,hd,-,rfl⟩|⟨-,-,rfl⟩|⟨-,-,rfl⟩|⟨-,-,rfl⟩|⟨-,-,rfl⟩
    ·simp [callSt]
    ·unfold retSt at h2;rw[hd] at h2;exact absurd h2 (by show ¬((1:Int)=2);decide)
    ·exact absurd h2 (by show ¬((3:Int)=2);decide)
    ·exact absurd h2 (by show ¬((5:Int)=2);decide)
    ·exact absurd h2 (by show ¬((5:Int)=2);decide)
    ·exact absurd h2 (by show ¬((4:Int)=2);decide)
   ·exact hI.wait t (List.mem_of_getElem? hj) h2
theorem stepG_bound {A A':Au} {n m:Nat} {x:Ev} (hf:stepG A n x=some A') (h:A.length≤m∧∀s ∈ A,s.deeds.length≤m):A'.length≤m+1∧∀s ∈ A',s.deeds.length≤m+1:=by
 obtain⟨h1,h2⟩:=h
 rcases stepG_cases hf with⟨hk,-,-,rfl⟩|⟨k,s,s',hk,hs,hi,hm,rfl⟩
 ·refine ⟨by simp;exact h1,fun s hs=>?_⟩
  simp only[List.mem_append,List.mem_singleton] at hs
  rcases hs with hs|rfl
  ·have:=h2 s hs;omega
  ·simp [newSt]
 ·refine ⟨by simp;omega,fun t ht=>?_⟩
  obtain⟨j,hj⟩:=List.mem_iff_getElem?.1 ht
  have hs2:=h2 s (List.mem_of_getElem? hs)
  rcases get_set hj with⟨rfl,rfl⟩|⟨-,hj⟩
  ·rcases moveG_cases hm with⟨-,-,rfl⟩|⟨-,-,d,hd,-,rfl⟩|⟨-,-,rfl⟩|⟨-,-,rfl⟩|⟨-,-,rfl⟩|⟨-,-,rfl⟩
   ·simp [callSt];exact hs2
   ·unfold retSt;rw[hd];simp;omega
   ·simp [tryS];omega
   ·simp [endS];omega
   ·simp [endS];omega
   ·simp [canS];omega
  ·have:=h2 t (List.mem_of_getElem? hj);omega
theorem valid_kind {x:Ev} (h:validB x=true):1≤x.kind∧x.kind < 8:=by
 unfold validB listG at h
 split at h
 ·cases h
 ·rename_i L hL
  split at hL
  ·omega
  ·split at hL
   ·omega
   ·split at hL
    ·omega
    ·cases hL
theorem g_Feed {B bA n:Nat} {os:List Ob} {A:Au} (x:Ev) (w:World) (hx:evB os x=true) (hdr:dI x.ret) (hn:n < 400) (hA:A.length≤1000) (hl:∀s ∈ A,s.deeds.length≤1000) (hI:RunI A) (h:AuAt w B bA os n A) (hW:WordsG w) (hG:ErrsF w):
  Calls Tryz.prog 78 #[.pointer (some ⟨bA,0,none⟩),evV x] w (FeedPost w B bA os n (stepG A n x)):=by
 obtain⟨xk,xx,xh,xj,xo,xy,xv,xr⟩:=x
 have hval:validB ⟨xk,xx,xh,xj,xo,xy,xv,xr⟩=true:=by unfold evB at hx;simp only[Bool.and_eq_true] at hx;exact hx.1
 obtain⟨hk1,hk8⟩:=valid_kind hval
 simp only at hk1 hk8 hdr
 unfold stepG
 simp only
 by_cases hk:xk=1
 ·rw [if_pos hk]
  by_cases hi:hasId xx A
  ·rw [if_pos (by rw[hasB_iff.2 hi];rfl)]
   exact g_begin1 xk xx xh xj xo xy xv xr w hval hdr hk hi hn hA h hW hG
  ·by_cases hb:isBusy xh A
   ·rw [if_pos (by rw[busyB_iff.2 hb];simp)]
    exact g_begin2 xk xx xh xj xo xy xv xr w hval hdr hk hi hb hn hA h hW hG
   ·rw [if_neg (by simp only[Bool.or_eq_true,not_or];exact⟨fun q=>hi (hasB_iff.1 q),fun q=>hb (busyB_iff.1 q)⟩)]
    exact g_begin3 xk xx xh xj xo xy xv xr w hval hdr hk hi hb hn hA h hW hG
 ·rw [if_neg hk]
  have hk2:2≤xk:=by omega
  have hoc:xk=2→∃(c:Nat) (o:Ob),xj=c∧os[c]?=some o∧ofOp xo=o.kind:=fun e=>by
   subst e
   obtain⟨h0,h7⟩:=valid_obj hval rfl
   simp only at h0 h7
   unfold evB at hx
   simp only[Bool.and_eq_true] at hx
   have hx:=hx.2
   cases ho:os[xj.toNat]? with
   |none=>rw[ho] at hx;simp at hx
   |some o=>
    rw[ho] at hx
    exact⟨xj.toNat,o,by omega,ho,by simpa using hx⟩
  cases hf:A.findIdx? (fun s=>s.id==xx) with
  |none=>
   have hi:¬hasId xx A:=by
    rintro⟨s,hs,e⟩
    have:=List.findIdx?_eq_none_iff.1 hf s hs
    simp[e] at this
   simp only
   by_cases h2:xk=2
   ·exact g_txC xk xx xh xj xo xy xv xr w hval hdr (hoc h2) h2 hk2 hk8 hi hn hA h hW hG
   ·exact g_txE xk xx xh xj xo xy xv xr w hval hdr h2 hk2 hk8 hi hn hA h hW hG
  |some k=>
   obtain⟨hkl,hp,-⟩:=List.findIdx?_eq_some_iff_getElem.1 hf
   have hs:=List.getElem?_eq_getElem hkl
   have hi:A[k].id=xx:=by simpa using hp
   have hsl:=hl A[k] (List.getElem_mem hkl)
   have hdl:=hI.wait A[k] (List.getElem_mem hkl)
   simp only
   rw[hs]
   generalize A[k]=s at *
   simp only
   by_cases hfr:s.stand ∈ fromOf xk
   ·cases hm:moveG n ⟨xk,xx,xh,xj,xo,xy,xv,xr⟩ s with
    |some s'=>
     by_cases h2:xk=2
     ·exact g_moveC xk xx xh xj xo xy xv xr w hval hdr (hoc h2) h2 hk2 hk8 hs hi hfr hdl hI.busy hm hn hA hsl h hW hG
     ·exact g_moveE xk xx xh xj xo xy xv xr w hval hdr h2 hk2 hk8 hs hi hfr hdl hI.busy hm hn hA hsl h hW hG
    |none=>
     have h3:xk=3:=(moveG_none (x:=⟨xk,xx,xh,xj,xo,xy,xv,xr⟩) hk2 hk8 hfr hm).1
     exact g_fitsE xk xx xh xj xo xy xv xr w hval hdr (by rw[h3];decide) hk2 hk8 hs hi hfr hdl hm hn hA hsl h hW hG
   ·have hm:moveG n ⟨xk,xx,xh,xj,xo,xy,xv,xr⟩ s=none:=moveG_from (x:=⟨xk,xx,xh,xj,xo,xy,xv,xr⟩) hk2 hk8 hfr
    rw[hm]
    by_cases h2:xk=2
    ·exact g_orderC xk xx xh xj xo xy xv xr w hval hdr (hoc h2) h2 hk2 hk8 hs hi hfr hn hA hsl h hW hG
    ·exact g_orderE xk xx xh xj xo xy xv xr w hval hdr h2 hk2 hk8 hs hi hfr hn hA hsl h hW hG
theorem g_CloneS (ad:Addr) (c:Nat) (os:List Ob) (w:World) (h:Sl w w.heap.size 2 (.slice (some ad) os.length c) os.length (os.flatMap Ob.cells)) (hl:os.length≤8):
  Calls Tryz.prog 127 #[.slice (some ad) os.length c] w fun e w'=>∃v',e=.returned v'∧OwnF Ob.cells 62 2 w' w.heap.size v' os∧Below w.heap.size w w':=by
 have H:=hid h
 have b0:Below w.heap.size w (w.alloc (.cells #[] 62)):=(Below.refl _ w).alloc (Nat.le_refl _) _
 have ow:OwnF Ob.cells 62 2 (w.alloc (.cells #[] 62)) w.heap.size (.slice (some ⟨w.heap.size,0,none⟩) 0 0) []:=OwnF.lit (f:=Ob.cells) w w.heap.size (Nat.le_refl _) [] Ob.len (by decide)
 have hs:=h.alloc (Nat.le_refl _) (.cells #[] 62)
 have OW:=hid ow
 have HS:=hid hs
 have B0:=hid b0
 clear h b0 ow hs
 have heq:∀X,Sem.run Tryz.prog (binOp BinOp.eql 22 (.slice (some ad) os.length c) (.slice none 0 0)) X=.ok (.bool false) X:=fun X=>by kernel_rfl
 go_enter Tryz.func127,Tryz.ntmps127
 go_wp2_with (at_builtin;refine wpList_appA rfl _ _ _ rfl _ 16 Tryz.underlying22 infoO rfl OW.out os rfl HS.out (by first|omega|(simp <;> omega)) rfl rfl Ob.len ob_one (by first|omega|(simp <;> omega)) (by first|omega|(simp <;> omega)) ?_;refine Stop.halt ?_)
 refine Stop.go ?_
 intro v' w' o2 g2
 have b2:=B0.out.trans (g2.below B0.out.size fun k h=>(OW.out.lt k h).1)
 have O2:=hid o2
 have B2:=hid b2
 clear o2 g2 b2 heq
 obtain⟨av,cv,rfl,-⟩:∃a c,v'=.slice a os.length c∧True:=by
  rcases OwnF.form O2.out with⟨h1,h2⟩|⟨g,cap,h1,-⟩
  ·exact ⟨_,_,by rw[h1,h2];rfl,trivial⟩
  ·exact ⟨_,_,h1,trivial⟩
 go_wp2
 go_ret
 exact⟨_,rfl,O2.out,B2.out⟩
theorem g_CloneO (v:Value) (os:List Ob) (w:World) (h:Sl w w.heap.size 2 v os.length (os.flatMap Ob.cells)) (hl:os.length≤8):
  Calls Tryz.prog 127 #[v] w fun e w'=>∃v',e=.returned v'∧OwnF Ob.cells 62 2 w' w.heap.size v' os∧Below w.heap.size w w':=by
 obtain⟨a,c,hv,h1,h2,h3⟩:=h
 cases a with
 |some ad=>
  subst hv
  exact g_CloneS ad c os w ⟨_,_,rfl,h1,h2,h3⟩ hl
 |none=>
  have hne:os=[]:=by
   cases os with
   |nil=>rfl
   |cons o l=>obtain⟨b,off,hb,-⟩:=h3 (by simp);cases hb
  subst hne
  subst hv
  have heq:∀X,Sem.run Tryz.prog (binOp BinOp.eql 22 (.slice none 0 c) (.slice none 0 0)) X=.ok (.bool true) X:=fun X=>by kernel_rfl
  go_enter Tryz.func127,Tryz.ntmps127
  go_wp2
  go_ret
  exact⟨_,rfl,OwnF.nil _ _,Below.refl _ _⟩
theorem g_New (v:Value) (os:List Ob) (w:World) (h:Sl w w.heap.size 2 v os.length (os.flatMap Ob.cells)) (hr:histB os []=true) (hod:∀o ∈ os,dI o.kind) (hW:WordsG w) (hG:ErrsG w):
  Calls Tryz.prog 77 #[v] w fun e w'=>∃bA,e=.returned (.tuple #[.pointer (some ⟨bA,0,none⟩),.nilIface])∧AuAt w' w.heap.size bA os 0 []∧Below w.heap.size w w':=by
 obtain⟨a,c,rfl,hm⟩:=h.ex
 have hmk:∀X:World,Sem.run Tryz.prog (Instr.makeMap 174 none) X=.ok (.map (some X.heap.size)) (X.alloc (.map #[] 0)):=fun X=>by kernel_rfl
 have hr8:os.length≤8:=by
  unfold histB at hr
  simp only[Bool.and_eq_true,decide_eq_true_eq] at hr
  exact hr.1.1.1
 have hv:=g_hValid (.slice a os.length c) (.slice none 0 0) os [] w h ⟨none,0,rfl,by simp,by simp,fun h=>by simp at h⟩ hod (fun e he=>(nomatch he)) hW hG
 rw[hr] at hv
 have hv:=hid hv
 have H:=hid h
 clear h hW hr hod hG
 go_enter Tryz.func77,Tryz.ntmps77
 go_wp2_with fail
 refine(hv.out).mono ?_
 rintro e W1 ⟨⟨ve,rfl,hvn,-⟩,b1⟩
 obtain rfl:=hvn rfl
 clear hvn
 have B1:=hid b1
 have hz1:=b1.size
 have hc:=hid (g_CloneO (.slice a os.length c) os W1 ((H.out.below b1).more hz1) hr8)
 clear b1 hv
 go_wp2_with fail
 refine(hc.out).mono ?_
 rintro e W2 ⟨v',rfl,o2,b2⟩
 have hz2:=b2.size
 obtain⟨av,cv,rfl,-⟩:∃a c,v'=.slice a os.length c∧True:=by
  rcases OwnF.form o2 with⟨h1,h2⟩|⟨g,cap,h1,-⟩
  ·exact ⟨_,_,by rw[h1,h2];rfl,trivial⟩
  ·exact ⟨_,_,h1,trivial⟩
 have O2:=hid o2
 have B2:=hid b2
 clear o2 b2 hc
 go_wp2
 refine bodyPost_ret (v:=.tuple #[.pointer (some ⟨W2.heap.size+2,0,none⟩),.nilIface]) (by simp[results,Tryz.results77,go_sem]) rfl ?_
 have m1:=row_new W2 (.map #[] 0)
 have m2:=row_new' (w:=W2.alloc (.map #[] 0)) (o:=.map #[] 0) (g:=W2.heap.size+1) (by simp)
 have m3:=row_new' (w:=(W2.alloc (.map #[] 0)).alloc (.map #[] 0)) (o:=.cells #[.slice av os.length cv,.int .i64 0,.slice none 0 0,.map (some W2.heap.size),.map (some (W2.heap.size+1))] 176) (g:=W2.heap.size+2) (by simp)
 refine⟨W2.heap.size+2,rfl,⟨W2.heap.size,W2.heap.size+1,.slice av os.length cv,.slice none 0 0,[],?_⟩,?_⟩
 ·exact ⟨m3,by omega,OwnF.base (OwnF.alloc (OwnF.alloc (OwnF.alloc O2.out _) _) _) hz1,OwnF.nil _ _,rfl,fun k p s hp=>by simp at hp,List.nodup_nil,fun j k p q hp=>by simp at hp,
   ⟨by omega,_,RawM.made (row_old (row_old m1)),fun k p s hp=>by simp at hp,fun x _=>rfl⟩,⟨by omega,_,RawM.made (row_old m2),⟨fun x _=>rfl,fun x hx=>by obtain⟨s,hs,-⟩:=hx;simp at hs⟩⟩,by omega⟩
 ·have hb:=(B1.out.trans (B2.out.mono hz1))
  exact((hb.alloc (by omega) _).alloc (by simp;omega) _).alloc (by simp;omega) _
section
attribute [local irreducible] wpL
theorem StAt.base {w:World} {B B':Nat} {p:Nat×Value} {s:St} (h:StAt w B p s) (hB:B'≤B):StAt w B' p s:=⟨h.row,Nat.le_trans hB h.hB,OwnF.base h.dds hB⟩
theorem AuAt.base {w:World} {B B' bA n:Nat} {os:List Ob} {A:Au} (h:AuAt w B bA os n A) (hB:B'≤B):AuAt w B' bA os n A:=by
 obtain⟨bY,bZ,ov,tv,bs,h⟩:=h
 exact⟨bY,bZ,ov,tv,bs,h.row,Nat.le_trans hB h.hB,OwnF.base h.obs hB,OwnF.base h.txs hB,h.len,fun k p s hp hs=>(h.sts k p s hp hs).base hB,h.nod,h.dis,⟨Nat.le_trans hB h.by_.1,h.by_.2⟩,⟨Nat.le_trans hB h.bz.1,h.bz.2⟩,h.ne⟩
theorem AuAt.below {w w':World} {B bA n:Nat} {os:List Ob} {A:Au} (h:AuAt w B bA os n A) (hb:Below w.heap.size w w'):AuAt w' B bA os n A:=by
 obtain⟨bY,bZ,ov,tv,bs,h⟩:=h
 exact⟨bY,bZ,ov,tv,bs,h.below hb⟩
def TakenRet (w:World) (os:List Ob) (es:List Ev) (r:Option Au) (e:Ending) (w':World):Prop:=match r with
 |some A=>∃bA,e=.returned (.tuple #[.pointer (some ⟨bA,0,none⟩),.nilIface])∧AuAt w' w.heap.size bA os es.length A∧Below w.heap.size w w'
 |none=>(∃t x,e=.returned (.tuple #[.pointer none,.iface t x]))∧Below w.heap.size w w'
def TakenPost (w:World) (os:List Ob) (es:List Ev):Ending→World→Prop:=TakenRet w os es (tableG os es)
theorem runG_none:∀{l m:List Ev} {A:Au} {n:Nat},runG A n l=none→runG A n (l++m)=none
 |[],m,A,n,h=>by simp[runG] at h
 |e::l,m,A,n,h=>by
  simp only[List.cons_append,runG] at h ⊢
  cases hs:stepG A n e with
  |none=>rfl
  |some A'=>
   rw[hs] at h
   exact runG_none (l:=l) h
theorem g_taken (ov vv:Value) (os:List Ob) (es:List Ev) (w:World) (ho:Sl w w.heap.size 2 ov os.length (os.flatMap Ob.cells)) (he:Sl w w.heap.size 8 vv es.length (es.flatMap Ev.cells)) (hod:∀o ∈ os,dI o.kind) (hed:∀e ∈ es,dI e.ret) (hW:WordsG w) (hG:ErrsF w):
  Calls Tryz.prog 39 #[.agg #[ov,vv]] w (TakenPost w os es):=by
 obtain⟨ao,co,rfl,mo⟩:=ho.ex
 obtain⟨ae,ce,rfl,me⟩:=he.ex
 have b0:Below w.heap.size w (w.alloc (.cells #[.slice ao os.length co,.slice ae es.length ce] 25)):=(Below.refl _ w).alloc (Nat.le_refl _) _
 have r0:=row_new w (.cells #[.slice ao os.length co,.slice ae es.length ce] 25)
 have hz0:w.heap.size < (w.alloc (.cells #[.slice ao os.length co,.slice ae es.length ce] 25)).heap.size:=row_lt r0
 have hv:=hid (g_hValid (.slice ao os.length co) (.slice ae es.length ce) os es _ ((ho.below b0).more b0.size) ((he.below b0).more b0.size) hod hed (hW.below b0) (hG.g.below b0))
 have HO:=hid ho
 have HE:=hid he
 have HOD:=hid hod
 have HED:=hid hed
 have HW:=hid hW
 have HG:=hid hG
 have R0:=hid r0
 have B0:=hid b0
 clear ho he hod hed hW hG r0 b0
 obtain⟨R,hR⟩:∃R,R=tableG os es:=⟨_,rfl⟩
 have hP:TakenPost w os es=TakenRet w os es R:=by unfold TakenPost;rw[hR]
 rw[hP]
 have HTB:=hid hR
 clear hP hR
 go_enter Tryz.func39,Tryz.ntmps39
 go_wp2_with fail
 generalize w.alloc (.cells #[.slice ao os.length co,.slice ae es.length ce] 25)=W at *
 refine(hv.out).mono ?_
 rintro e W1 ⟨⟨ve,rfl,hvn,hve⟩,b1⟩
 cases hhb:histB os es with
 |false=>
  obtain⟨te,xe,rfl⟩:=hve hhb
  have hR:=HTB.out
  unfold tableG at hR
  rw[hhb] at hR
  simp only[Bool.false_eq_true,if_false] at hR
  subst hR
  clear hvn hve HTB hhb hv
  have B1:=hid (B0.out.trans (b1.mono B0.out.size))
  clear b1
  go_wp2
  refine bodyPost_ret (v:=.tuple #[.pointer none,.iface te xe]) (by simp[results,Tryz.results39,go_sem]) rfl ?_
  exact⟨⟨_,_,rfl⟩,B1.out⟩
 |true=>
 obtain rfl:=hvn hhb
 have HHB:=hid hhb
 have hHO:histB os []=true:=by
  unfold histB at hhb ⊢
  simp only[Bool.and_eq_true,decide_eq_true_eq] at hhb
  simp[hhb.1.1.1,hhb.1.2]
 have hev:∀e ∈ es,evB os e=true:=by
  unfold histB at hhb
  simp only[Bool.and_eq_true,List.all_eq_true] at hhb
  exact hhb.2
 have hel:es.length≤400:=by
  unfold histB at hhb
  simp only[Bool.and_eq_true,decide_eq_true_eq] at hhb
  exact hhb.1.1.2
 have HEV:=hid hev
 clear hvn hve hhb hev
 have r1:=row_below R0.out b1 hz0
 have l1:=row_lt r1
 have y0:=row_cell r1 0
 have y1:=row_cell r1 1
 simp at y0 y1
 have b01:=B0.out.trans (b1.mono B0.out.size)
 have hz1:=b01.size
 have hN:=hid (g_New (.slice ao os.length co) os W1 ((HO.out.below b01).more hz1) hHO HOD.out (HW.out.below b01) (HG.out.g.below b01))
 have R1:=hid r1
 have B1:=hid b01
 clear r1 b1 b01 hv
 go_wp2_with fail
 refine(hN.out).mono ?_
 rintro e W2 ⟨bA,rfl,hA2,b2⟩
 have r2:=row_below R1.out b2 l1
 have l2:=row_lt r2
 clear y0 y1
 have y0:=row_cell r2 0
 have y1:=row_cell r2 1
 simp at y0 y1
 have B2:=hid b2
 have HA2:=hid hA2
 have hz2:=b2.size
 clear r2 b2 hA2 hN
 go_wp2_with fail
 go_loopw [27] (fun p wr=>∃i:Nat,i≤es.length∧p=.int .i64 i∧(∃Ai,runG [] 0 (es.take i)=some Ai∧RunI Ai∧(Ai.length≤i∧∀s ∈ Ai,s.deeds.length≤i)∧AuAt wr W1.heap.size bA os i Ai)∧Below W1.heap.size W1 wr) (fun p _=>es.length - (intOf p).toNat)
 case atStart=>exact⟨0,by omega,by go_num,⟨[],by simp[runG],RunI.nil,⟨by simp,fun s hs=>(nomatch hs)⟩,HA2.out⟩,B2.out⟩
 case round=>
  obtain⟨i,hi,rfl,⟨Ai,hrun,hRI,hbd,hAi⟩,hB⟩:=hrel
  have HRUN:=hid hrun
  have HRI:=hid hRI
  have HBD:=hid hbd
  clear hrun hRI hbd
  have hz:=hB.size
  have HB:=hid hB
  have HAI:=hid hAi
  clear hB hAi
  by_cases hlt:i < es.length
  ·obtain ⟨b,off,x,hat,hb,hx,hc⟩:=HE.out.atF Ev.len rfl hlt
   have BW:=hid (B1.out.trans (HB.out.mono hz1))
   have c0:=cell_below BW.out hb (hc 0 (by decide))
   have c1:=cell_below BW.out hb (hc 1 (by decide))
   have c2:=cell_below BW.out hb (hc 2 (by decide))
   have c3:=cell_below BW.out hb (hc 3 (by decide))
   have c4:=cell_below BW.out hb (hc 4 (by decide))
   have c5:=cell_below BW.out hb (hc 5 (by decide))
   have c6:=cell_below BW.out hb (hc 6 (by decide))
   have c7:=cell_below BW.out hb (hc 7 (by decide))
   have hok:=hid (HEV.out x (List.mem_of_getElem? hx))
   have hdr:=HED.out x (List.mem_of_getElem? hx)
   have HX:=hid hx
   obtain⟨xk,xx,xh,xj,xo,xy,xv,xr⟩:=x
   simp only at hdr
   simp at c0 c1 c2 c3 c4 c5 c6 c7
   have hbw:b < wr.heap.size:=by omega
   subst hat
   clear hx hc
   have bz:Below wr.heap.size wr (wr.alloc (.cells #[.int .i64 xk,.int .i64 xx,.int .i64 xh,.int .i64 xj,.int .i64 xo,.int .i64 xy,.int .i64 xv,.int .i64 xr] 69)):=(Below.refl _ wr).alloc (Nat.le_refl _) _
   have hbl:=HBD.out.1
   have hbl2:=HBD.out.2
   have hfd:=g_Feed (n:=i) ⟨xk,xx,xh,xj,xo,xy,xv,xr⟩ _ hok.out hdr (by omega) (by omega) (fun s hs=>by have:=hbl2 s hs;omega) HRI.out (HAI.out.below bz) ((HW.out.below BW.out).below bz) ((HG.out.below BW.out).below bz)
   obtain⟨r,hr⟩:∃r,r=stepG Ai i ⟨xk,xx,xh,xj,xo,xy,xv,xr⟩:=⟨_,rfl⟩
   rw[←hr] at hfd
   have hfd:=hid hfd
   have HSTEP:=hid hr
   clear hbl2 hr
   have BZ:=hid bz
   clear bz
   go_wp2_with fail
   generalize wr.alloc (.cells #[.int .i64 xk,.int .i64 xx,.int .i64 xh,.int .i64 xj,.int .i64 xo,.int .i64 xy,.int .i64 xv,.int .i64 xr] 69)=W3 at *
   have hsn:runG [] 0 (es.take (i+1))=r:=by
    rw[List.take_add_one,HX.out]
    show runG [] 0 (es.take i++[_])=r
    rw[runG_snoc,HRUN.out,HSTEP.out]
    simp only[Option.bind_some,List.length_take,Nat.zero_add]
    rw[Nat.min_eq_left hi]
   have HSN:=hid hsn
   clear hsn
   cases r with
   |some A4=>
    refine(hfd.out).mono ?_
    rintro e W4 ⟨he,hA4,b4⟩
    subst he
    have hz3:=BZ.out.size
    have HA4:=hid hA4
    have B4:=hid ((HB.out.trans (BZ.out.mono hz)).trans b4)
    clear hfd b4 hA4
    go_wp2_with fail
    go_roundw
    case rel=>exact⟨i+1,by omega,by go_num,⟨A4,HSN.out,HRI.out.step HSTEP.out.symm,stepG_bound HSTEP.out.symm HBD.out,HA4.out⟩,B4.out⟩
    case measure=>simp[intOf];omega
   |none=>
    have hR:=HTB.out
    unfold tableG at hR
    rw[HHB.out,if_pos rfl] at hR
    have hno:runG [] 0 es=none:=by
     have:=List.take_append_drop (i+1) es
     rw[←this]
     exact runG_none HSN.out
    rw[hno] at hR
    subst hR
    refine(hfd.out).mono ?_
    rintro e W4 ⟨⟨te,xe,rfl⟩,b4⟩
    have B4:=hid (B1.out.trans (((HB.out.trans (BZ.out.mono hz)).trans b4).mono hz1))
    clear hfd b4 HTB
    go_wp2
    refine bodyPost_ret (v:=.tuple #[.pointer none,.iface 128 (.pointer (some ⟨W4.heap.size,0,none⟩))]) (by simp[results,Tryz.results39,go_sem]) rfl ?_
    exact⟨⟨_,_,rfl⟩,B4.out.alloc B4.out.size _⟩
  ·obtain rfl:i=es.length:=by omega
   go_wp2
   refine bodyPost_ret (v:=.tuple #[.pointer (some ⟨bA,0,none⟩),.nilIface]) (by simp[results,Tryz.results39,go_sem]) rfl ?_
   have hR:=HTB.out
   unfold tableG at hR
   have hrun:=HRUN.out
   rw[List.take_length] at hrun
   rw[HHB.out,if_pos rfl,hrun] at hR
   subst hR
   exact⟨bA,rfl,HAI.out.base hz1,B1.out.trans (HB.out.mono hz1)⟩
end
section
attribute [local irreducible] wpL
structure TxR where
 id:Int
 thread:Int
 status:Int
 beg:Int
 fin:Int
 tri:Int
 dv:Value
def TxR.cells (r:TxR):List Value:=[.int .i64 r.id,.int .i64 r.thread,.int .i64 r.status,.int .i64 r.beg,.int .i64 r.fin,.int .i64 r.tri,r.dv]
theorem TxR.len (r:TxR):r.cells.length=7:=rfl
theorem infoTx:(Tryz.prog.info? 49).map (fun i=>(i.zero,i.size,i.bytes))=some (some (.agg #[.int .i64 0,.int .i64 0,.int .i64 0,.int .i64 0,.int .i64 0,.int .i64 0,.slice none 0 0]),7,72):=by kernel_rfl
theorem tx_one (i:Int) {th st be fi tr:Int} {a:Option Addr} {n c:Nat}:∀u ∈ TxR.cells ⟨i,th,st,be,fi,tr,.slice a n c⟩,u.oneCell'=true:=by intro u hu;simp[TxR.cells] at hu;rcases hu with rfl|rfl|rfl|rfl|rfl|rfl|rfl <;> rfl
def TxOf (r:TxR) (s:St):Prop:=r.id=s.id∧r.thread=s.thread∧r.status=s.status∧r.beg=s.beg∧r.fin=s.fin∧r.tri=s.tri
def TxsAt (w:World) (B:Nat) (v:Value) (A:Au):Prop:=∃rs:List TxR,OwnF TxR.cells 49 7 w B v rs∧rs.length=A.length∧∀(k:Nat) (r:TxR) (s:St),rs[k]?=some r→A[k]?=some s→TxOf r s∧OwnD w B r.dv s.deeds
section
variable {w w':World} {B:Nat} {v:Value} {A:Au}
theorem TxsAt.below (h:TxsAt w B v A) (hb:Below w.heap.size w w'):TxsAt w' B v A:=
 let ⟨rs,a,b,c⟩:=h;⟨rs,OwnF.below a hb,b,fun k r s hr hs=>⟨(c k r s hr hs).1,OwnF.below (c k r s hr hs).2 hb⟩⟩
theorem TxsAt.base {B':Nat} (h:TxsAt w B v A) (hB:B'≤B):TxsAt w B' v A:=
 let ⟨rs,a,b,c⟩:=h;⟨rs,OwnF.base a hB,b,fun k r s hr hs=>⟨(c k r s hr hs).1,OwnF.base (c k r s hr hs).2 hB⟩⟩
theorem TxsAt.snoc {rs:List TxR} {r:TxR} {s:St} {v':Value} (hv:OwnF TxR.cells 49 7 w B v rs) (hl:rs.length=A.length) (hc:∀(k:Nat) (r:TxR) (s:St),rs[k]?=some r→A[k]?=some s→TxOf r s∧OwnD w B r.dv s.deeds) (h1:TxOf r s) (hu:OwnD w B r.dv s.deeds)
  (h':OwnF TxR.cells 49 7 w' B v' (rs++[r])) (hb:Grw w w' v v'):TxsAt w' B v' (A++[s]):=by
 refine⟨_,h',by simp[hl],fun k r' s' hr hs=>?_⟩
 rcases Nat.lt_trichotomy k A.length with h|h|h
 ·rw [List.getElem?_append_left (by omega)] at hr hs
  exact⟨(hc k r' s' hr hs).1,OwnF.grwT (hc k r' s' hr hs).2 hv (by decide) hb⟩
 ·subst h
  rw[List.getElem?_append_right (by omega)] at hr hs
  simp[hl] at hr hs
  subst hr hs
  exact⟨h1,OwnF.grwT hu hv (by decide) hb⟩
 ·rw [List.getElem?_eq_none (by simp;omega)] at hs
  cases hs
theorem OwnF.slv {α:Type} {f:α→List Value} {e:TypeId} {sz:Nat} {l:List α} (h:OwnF f e sz w B v l):∃a c,v=.slice a l.length c:=by
 rcases OwnF.form h with⟨h1,h2⟩|⟨g,cap,h1,-⟩
 ·exact ⟨_,_,by rw[h1,h2];rfl⟩
 ·exact ⟨_,_,h1⟩
end
theorem sh_Txs {B bA n:Nat} {os:List Ob} {A:Au} (w:World) (h:AuAt w B bA os n A) (hA:A.length≤1000) (hl:∀s ∈ A,s.deeds.length≤1000):
  Calls Tryz.prog 40 #[.pointer (some ⟨bA,0,none⟩)] w fun e w'=>∃v,e=.returned v∧TxsAt w' w.heap.size v A∧Below w.heap.size w w':=by
 obtain⟨bY,bZ,ov,tv,bs,h⟩:=h
 have r0:=h.row
 have l0:=row_lt r0
 have y:=row_cell r0
 have y2:=y 2
 simp at y2
 obtain⟨ta,tc,rfl⟩:=OwnF.slv h.txs
 simp only[List.length_map] at y2 r0
 have hlen:=h.len
 have hbl:bs.length≤1000:=by omega
 have H:=hid h
 have HL:=hid hl
 clear y r0 h hl
 go_enter Tryz.func40,Tryz.ntmps40
 go_wp2_with (at_make;refine wpList_makeF (f:=TxR.cells) (e:=49) (sz:=7) (B:=w.heap.size) rfl _ _ _ rfl _ 72 Tryz.underlying42 infoTx rfl rfl (by first|omega|(simp <;> omega)) (by first|omega|(simp <;> omega)) (by first|omega|(simp <;> omega)) ?_;refine Stop.halt ?_)
 refine Stop.go ?_
 intro w1 o1 b1 z1
 have y2:=cell_below b1 l0 y2
 have O1:=hid o1
 have B1:=hid b1
 have lw:w.heap.size < w1.heap.size:=by omega
 have l1:bA < w1.heap.size:=by omega
 clear o1 b1
 go_wp2_with fail
 go_loopw [3,18] (fun q p wr=>∃(k:Nat),k≤bs.length∧p=.int .i64 k∧TxsAt wr w.heap.size q (A.take k)∧Below w.heap.size w wr) (fun _ p _=>bs.length - (intOf p).toNat)
 case atStart=>exact⟨0,by omega,by go_num,⟨[],O1.out,by simp,fun k r s hr=>by simp at hr⟩,B1.out⟩
 case round=>
  obtain⟨k,hk,rfl,hT,hB⟩:=hrel
  have hz:=hB.size
  have HB:=hid hB
  have HT:=hid hT
  clear hB hT
  by_cases hlt:k < bs.length
  ·obtain ⟨s,hs⟩:∃s,A[k]?=some s:=⟨_,List.getElem?_eq_getElem (by omega)⟩
   have HW:=hid (H.out.below HB.out)
   obtain⟨bp,hbp,hst⟩:=HW.out.get hs
   obtain⟨p,dv⟩:=bp
   obtain⟨gt,u,hta,hgt,hu,hcu⟩:=HW.out.txs.at1 (by simp) (k:=k) (by simpa using hlt)
   rw[List.getElem?_map,hbp] at hu
   simp only[Option.map_some,Option.some.injEq] at hu
   subst hu
   subst hta
   unfold ptrV at hcu
   obtain⟨da,dc,hdv⟩:=OwnF.slv hst.dds
   simp only at hdv
   subst hdv
   have hdl:=HL.out s (List.mem_of_getElem? hs)
   have rp:=hst.row
   have lp:=row_lt rp
   simp only at lp
   have py:=row_cell rp
   have p0:=py 0
   have p1:=py 1
   have p2:=py 2
   have p3:=py 3
   have p4:=py 4
   have p5:=py 5
   have p6:=py 6
   simp[stCs] at p0 p1 p2 p3 p4 p5 p6
   have HST:=hid hst
   have HS:=hid hs
   obtain⟨rs,hv,hvl,hvc⟩:=HT.out
   obtain⟨aq,cq,rfl⟩:=OwnF.slv hv
   have hrl:rs.length=k:=by rw[hvl,List.length_take];omega
   have hrl2:rs.length≤1000:=by omega
   rw[hrl] at hv ⊢
   have HV:=hid hv
   have HRL:=hid hrl
   clear hrl
   have HVL:=hid hvl
   have HVC:=hid hvc
   clear py rp hst hs hbp hv hvl hvc HT
   obtain⟨wo,rfl⟩:∃wo,wo=wr:=⟨_,rfl⟩
   go_wp2_with fail
   obtain⟨dn,hdn⟩:∃dn,dn=s.deeds.length:=⟨_,rfl⟩
   have rt:=row_new wo (.cells #[.int .i64 s.id,.int .i64 s.thread,.int .i64 s.status,.int .i64 s.beg,.int .i64 s.fin,.int .i64 s.tri,.slice da s.deeds.length dc] 49)
   have bt:Below wo.heap.size wo (wo.alloc (.cells #[.int .i64 s.id,.int .i64 s.thread,.int .i64 s.status,.int .i64 s.beg,.int .i64 s.fin,.int .i64 s.tri,.slice da s.deeds.length dc] 49)):=(Below.refl _ wo).alloc (Nat.le_refl _) _
   generalize wo.alloc (.cells #[.int .i64 s.id,.int .i64 s.thread,.int .i64 s.status,.int .i64 s.beg,.int .i64 s.fin,.int .i64 s.tri,.slice da s.deeds.length dc] 49)=W6 at *
   have lt6:=row_lt rt
   have ty:=row_cell rt
   have t6:=ty 6
   simp at t6
   have RT:=hid rt
   have BT:=hid bt
   have zt:=bt.size
   clear ty rt bt p0 p1 p2 p3 p4 p5 p6 hdn
   refine wp_rN (W6.heap.size) [0,1,0,3,0,1,2,0,2] (.fin [0,1,2,4,5,3,6,7,8]) (by kernel_rfl) ?_
   simp only[wpT,selX,guardAt,sD,sE,sF,sG]
   repeat first|(refine wpL_p fun K hK=>?_;go_simp;refine hK _ _ ?_;clear hK K)|(apply wpL_s;(intro w2 hw2;have hk1:=hw2.cell;have hk3:=hw2.1;clear hw2;go_simp;with_reducible rfl);simp only[Act.put,sA,sB,sC])
   refine wpL_k (fun K hK=>?_)
   refine wp_makeF (f:=Dd.cells) (e:=112) (sz:=8) (B:=W6.heap.size) _ _ _ rfl _ 64 Tryz.underlying47 infoDd rfl rfl (by first|omega|(simp <;> omega)) (by first|omega|(simp <;> omega)) (by first|omega|(simp <;> omega)) ?_
   intro w3 o3 b3 z3
   refine hK _ _ (RN.KeepsN.of_below b3) ?_
   clear hK K
   have b3:Below W6.heap.size W6 w3:=(Below.refl _ W6).drew.trans b3
   have z3':W6.heap.size≤w3.heap.size:=b3.size
   refine wpL_e (fun K hK=>?_)
   refine wp_appA _ _ _ rfl _ 64 Tryz.underlying47 infoDd rfl o3 s.deeds rfl (OwnF.below HST.out.dds (BT.out.trans (b3.mono zt))).sl (by first|omega|(simp <;> omega)) rfl rfl Dd.len dd_one (by first|omega|(simp <;> omega)) (by first|omega|(simp <;> omega)) ?_
   intro v' w4 o4 g4
   refine hK _ _ ?_
   clear hK K
   have b4:=b3.trans (g4.below z3' fun j h=>(o3.lt j h).1)
   have o4:OwnD w4 W6.heap.size v' s.deeds:=o4
   obtain⟨an,cn,rfl⟩:=OwnF.slv o4
   have r4:=row_below RT.out b4 lt6
   have l4:=row_lt r4
   have ne4:=OwnF.neT o4 r4 (by decide)
   have z4:W6.heap.size≤w4.heap.size:=b4.size
   clear t6
   have ty:=row_cell r4
   have t0:=ty 0
   have t1:=ty 1
   have t2:=ty 2
   have t3:=ty 3
   have t4:=ty 4
   have t5:=ty 5
   have t6:=ty 6
   simp at t0 t1 t2 t3 t4 t5 t6
   have tf:∀j,w4.frozen? ⟨wo.heap.size,j,none⟩=false:=fun j=>row_free r4 j
   have O4:=hid o4
   have B4:=hid b4
   have R4:=hid r4
   clear ty o4 b4 r4 o3 b3 z3 g4
   repeat (refine wpL_p fun K hK=>?_;go_simp;refine hK _ _ ?_;clear hK K)
   refine wpL_e (fun K hK=>?_)
   go_simp
   refine hK _ _ ?_
   clear hK K
   repeat refine wpL_nil ?_
   have o5:=OwnF.other (j:=6) O4.out ne4 (.slice an s.deeds.length cn)
   have b5:Below wo.heap.size wo (w4.setCell ⟨wo.heap.size,6,none⟩ (.slice an s.deeds.length cn)):=(BT.out.trans (B4.out.mono zt)).setCell (p:=⟨wo.heap.size,6,none⟩) (Nat.le_refl _) _
   have r5:=row_set R4.out 6 (.slice an s.deeds.length cn)
   have l5:wo.heap.size < (w4.setCell ⟨wo.heap.size,6,none⟩ (.slice an s.deeds.length cn)).heap.size:=row_lt r5
   generalize w4.setCell ⟨wo.heap.size,6,none⟩ (.slice an s.deeds.length cn)=w5 at *
   clear t0 t1 t2 t3 t4 t5 t6 tf
   have ty:=row_cell r5
   have t0:=ty 0
   have t1:=ty 1
   have t2:=ty 2
   have t3:=ty 3
   have t4:=ty 4
   have t5:=ty 5
   have t6:=ty 6
   simp at t0 t1 t2 t3 t4 t5 t6
   have HV5:=hid (OwnF.below HV.out b5)
   have HVC5:=hid (fun(j:Nat) (r:TxR) (t:St) (h1:rs[j]?=some r) (h2:(A.take k)[j]?=some t)=>(show TxOf r t∧OwnD w5 w.heap.size r.dv t.deeds from⟨(HVC.out j r t h1 h2).1,OwnF.below (HVC.out j r t h1 h2).2 b5⟩))
   have O5:=hid (OwnF.base o5 (show w.heap.size≤W6.heap.size by omega))
   have B5:=hid (HB.out.trans (b5.mono hz))
   have hz5:w.heap.size≤w5.heap.size:=by omega
   clear ty r5 o5 b5 HV HVC
   go_wp2_with (at_builtin;refine wpList_appF rfl _ _ _ rfl _ 72 Tryz.underlying42 infoTx rfl HV5.out (⟨s.id,s.thread,s.status,s.beg,s.fin,s.tri,.slice an s.deeds.length cn⟩:TxR) hz5 (by rfl) (by rfl) (by first|rfl|simp) rfl (tx_one _) (by first|omega|(simp only[List.length_append,List.length_cons,List.length_nil,List.length_replicate];omega)) (by first|omega|(simp only[List.length_append,List.length_cons,List.length_nil,List.length_replicate];omega)) ?_;refine Stop.halt ?_)
   refine Stop.go ?_
   intro g6 c6 w6 o6 G6
   have o6:OwnF TxR.cells 49 7 w6 w.heap.size (.slice (some ⟨g6,0,none⟩) (rs.length+1) c6) (rs++[⟨s.id,s.thread,s.status,s.beg,s.fin,s.tri,.slice an s.deeds.length cn⟩]):=o6
   have T6:=hid (TxsAt.snoc HV5.out HVL.out HVC5.out (s:=s) ⟨rfl,rfl,rfl,rfl,rfl,rfl⟩ O5.out o6 G6)
   have B6:=hid (B5.out.trans (G6.below B5.out.size fun j h=>(HV5.out.lt j h).1))
   clear o6 G6
   go_wp2_with fail
   go_roundw
   case rel=>exact⟨k+1,by omega,by go_num,by rw[take_step HS.out];exact T6.out,B6.out⟩
   case measure=>simp[intOf];omega
  ·obtain rfl:k=bs.length:=by omega
   have hT:=HT.out
   rw[hlen,List.take_length] at hT
   obtain⟨rs,hv,hvl,hvc⟩:=hT
   obtain⟨aq,cq,rfl⟩:=OwnF.slv hv
   have HT2:=hid (show TxsAt wr w.heap.size (.slice aq rs.length cq) A from⟨rs,hv,hvl,hvc⟩)
   clear hv hvl hvc HT
   go_wp2
   go_ret
   exact⟨_,rfl,HT2.out,HB.out⟩
end
