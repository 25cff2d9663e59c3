/- Parts of the proof, merged by program out of 1 texts (PlP): the first: The stores behind each step of an order; transactions one behind the other. Conditions: those of each theorem, as typed. -/
import Derived.Test.YtkfhgifhfkcehaaGreatDoorQL30
import Derived.Test.YtkfhgifhfkcehaaGreatDoorQL31
set_option linter.unusedVariables false
set_option linter.unusedSimpArgs false
set_option linter.unusedSectionVars false
set_option maxRecDepth 100000
set_option maxHeartbeats 4000000
namespace Go.Proofs.YtkfhgifhfkcehaaGreatDoor
open Go.Maps Go.RowKit
section
attribute [local irreducible] wpL
attribute [local go_sem] Oper.semAt_some
def HandP (n0 bs:Nat) (S:Nat→List Int) (q:Nat→Prop) (i:Nat) (w:World) (hb:Nat) (args:Array Value):Prop:=∃v',args=#[.int .i64 i,.agg #[v',.nilIface]]∧OwnS w 0 v' (S (i+1))∧∀k,v'.ownBlock=some k→k < hb∧¬q k∧((k < n0∧k≠bs)∨∃k0,q k0∧k0≤k)
theorem OwnF.keepL {α:Type} {f:α→List Value} {e:TypeId} {sz B lo hb:Nat} {v:Value} {l:List α} {w w':World} (h:OwnF f e sz w B v l) {L:Nat→Prop} (hk:KeepM NoM L lo hb w w') (hS:∀k,v.ownBlock=some k→(L k∨lo≤k)∧k < hb):OwnF f e sz w' B v l:=by
 obtain⟨h1,h2⟩:=h
 refine⟨h1,?_⟩
 rcases h2 with h2|⟨g,cap,cur,rfl,hg,hh,r⟩
 ·exact .inl h2
 ·exact .inr ⟨g,cap,cur,rfl,hg,hk.block g _ (hS g rfl).1 (hS g rfl).2 hh id,r⟩
section
variable {bs n:Nat} {u:Value} {w w':World} {fz:Nat×Nat}
theorem OwnF.keep0 {α:Type} {f:α→List Value} {e:TypeId} {sz B:Nat} {v:Value} {l:List α} (h:OwnF f e sz w B v l) (hk:KeepM NoM (Lb n fun k=>k=bs) n n w w') (hn:n=w.heap.size) (hb:w.heap[bs]?=some (.cells #[u] 46 fz)) (he:46≠e):OwnF f e sz w' B v l:=by
 subst hn
 exact OwnF.keepL h hk fun k hk'=>⟨.inl ⟨(OwnF.lt h k hk').2,fun e2=>OwnF.neT h hb he (e2▸hk')⟩,(OwnF.lt h k hk').2⟩
theorem TxsAt.keep0 {B:Nat} {v:Value} {A:Au} (h:TxsAt w B v A) (hk:KeepM NoM (Lb n fun k=>k=bs) n n w w') (hn:n=w.heap.size) (hb:w.heap[bs]?=some (.cells #[u] 46 fz)):TxsAt w' B v A:=
 let ⟨rs,h1,h2,h3⟩:=h
 ⟨rs,OwnF.keep0 h1 hk hn hb (by decide),h2,fun k r s hr hs=>⟨(h3 k r s hr hs).1,OwnF.keep0 (h3 k r s hr hs).2 hk hn hb (by decide)⟩⟩
theorem ErrAt.keep0 {g:Nat} (h:ErrAt g w) (hk:KeepM NoM (Lb n fun k=>k=bs) n n w w') (hn:n=w.heap.size) (hb:w.heap[bs]?=some (.cells #[u] 46 fz)) (hu:∀t v,u≠.iface t v):ErrAt g w':=by
 obtain⟨h1,t,v,h2⟩:=h
 have hne:g≠bs:=by
  rintro rfl
  have:=row_cell hb 0
  simp at this
  rw[this] at h2
  exact hu t v (Option.some.inj h2)
 refine⟨Nat.lt_of_lt_of_le h1 hk.size,t,v,?_⟩
 have hg:=hk.row0 hn (Array.getElem?_eq_getElem h1) hne
 rw[←h2]
 unfold World.cell?
 simp only[hg,Array.getElem?_eq_getElem h1]
end
theorem pl_pts (m:Nat) (w0:World) (S:Nat→List Int) (A:Au) (ord:List (Int×Bool)) (al:Bool) (B bs p1 p2 p3 p4:Nat) (u v tv stv:Value) (hl:∀i,i≤ord.length→(S i).length=(S 0).length) (hl0:(S 0).length≤1000) (hn:ord.length≤1000)
  (hS:∀(i:Nat) (p:Int×Bool),ord[i]?=some p→∃(k:Nat) (s:St),A[k]?=some s∧s.id=p.1∧(∀(j:Nat) (t:St),j < k→A[j]?=some t→t.id≠p.1)∧(∀d ∈ s.deeds,DdR (S 0).length d)∧stepO (fun _=>s.deeds) al (S i) p=some (S (i+1)))
  (hbs:w0.heap[bs]?=some (.cells #[u] 46 (0,0))) (hu:∀t v,u≠.iface t v) (h1:w0.heap[p1]?=some (.cells #[v] 46 (0,0))) (h2:w0.heap[p2]?=some (.cells #[stv] 49 (0,0))) (h3:w0.heap[p3]?=some (.cells #[tv] 39 (0,0))) (h4:w0.heap[p4]?=some (.cells #[.bool al] 4 (0,0))) (n1:p1≠bs)
  (hO:OwnS w0 0 v (S 0)) (hst:OwnF stpC 58 2 w0 0 stv ord) (hT:TxsAt w0 B tv A) (hE:ErrAt 15 w0):
  IterC Tryz.prog NoM (Lb w0.heap.size fun k=>k=bs) (fun _=>True) (fun _=>True) 76 #[.pointer (some ⟨p1,0,none⟩),.pointer (some ⟨p2,0,none⟩),.pointer (some ⟨p3,0,none⟩),.pointer (some ⟨p4,0,none⟩)] m
  (fun W=>Below w0.heap.size w0 W) (fun _=>True) (HandP w0.heap.size bs S) ord.length:=by
 intro l J Jx W hP _ hJ _ hY h0
 have n2:p2≠bs:=by rintro rfl;rw[hbs] at h2;simp at h2
 have n3:p3≠bs:=by rintro rfl;rw[hbs] at h3;simp at h3
 have n4:p4≠bs:=by rintro rfl;rw[hbs] at h4;simp at h4
 obtain⟨a9,c9,rfl⟩:=OwnF.slv hst
 obtain⟨a8,c8,rfl⟩:=OwnF.slv hO
 have F0:KeepM NoM (Lb w0.heap.size fun k=>k=bs) w0.heap.size w0.heap.size w0 W:=KeepM.below hP (Nat.le_refl _)
 have y1:=row_cell (F0.row0 rfl h1 n1) 0
 have y2:=row_cell (F0.row0 rfl h2 n2) 0
 simp at y1 y2
 have l1:=row_lt (F0.row0 rfl h1 n1)
 have l2:=row_lt (F0.row0 rfl h2 n2)
 have hm:m+1 - 1=m:=rfl
 refine callsIn_of_wp Tryz.func76 rfl trivial ?_ rfl
 simp only[Tryz.ntmps76,List.size_toArray,List.length_cons,List.length_nil,Nat.reduceAdd,Nat.reduceSub,Array.replicate_succ,Array.replicate_zero,List.push_toArray,List.append_toArray,List.nil_append,List.cons_append]
 have b1:Below W.heap.size W (W.alloc (.cells #[.slice a8 (S 0).length c8] 46)):=(Below.refl _ W).alloc (Nat.le_refl _) _
 have r1:=row_new W (.cells #[.slice a8 (S 0).length c8] 46)
 have hJ1:J (fun k=>k=W.heap.size) 0 (W.alloc (.cells #[.slice a8 (S 0).length c8] 46)):=hJ _ 0 _ _ trivial (h0 _ trivial fun k e=>by cases e;exact Nat.le_refl _) (Nat.le_refl _) b1 fun k hk _=>b1.block k hk
 have F1:=F0.more (KeepM.below (lo:=w0.heap.size) b1 (Nat.le_refl _)) F0.size
 have O1:=hid (OwnF.keep0 hO F1 rfl hbs (by decide))
 have U1:=hid (fun k (hk:(Value.slice a8 (S 0).length c8).ownBlock=some k)=>(⟨(OwnF.lt hO k hk).2,fun e=>OwnF.neT hO hbs (by decide) (e▸hk)⟩:Lb w0.heap.size (fun k=>k=bs) k))
 have HY:=hid hY
 have HJ:=hid hJ
 have HS:=hid hS
 have hW0:=F0.size
 have R1:=hid r1
 have F1:=hid F1
 have HJ1:=hid hJ1
 have HT:=hid hT
 have HE:=hid hE
 have HST:=hid hst
 have HL:=hid hl
 have HBS:=hid hbs
 have HU:=hid hu
 have H3:=hid h3
 have H4:=hid h4
 clear hY hJ h0 F0 b1 r1 hJ1 hP hS hT hE hst hl hbs hu h1 h2 h3 h4 hO
 gi_wp2_with fail
 gi_loopw [14] (fun p wr=>∃(i:Nat) (x:Value),i≤ord.length∧p=.int .i64 i∧J (fun k=>k=W.heap.size) i wr∧KeepM NoM (Lb w0.heap.size fun k=>k=bs) w0.heap.size w0.heap.size w0 wr∧W.heap.size < wr.heap.size∧wr.heap[W.heap.size]?=some (.cells #[x] 46 (0,0))∧OwnS wr 0 x (S i)∧(∀k,x.ownBlock=some k→Lb w0.heap.size (fun k=>k=bs) k∨W.heap.size≤k))
  (fun p _=>ord.length - (intOf p).toNat)
 case atStart=>exact⟨0,_,by omega,by go_num,HJ1.out,F1.out,by simp,R1.out,O1.out,fun k hk=>.inl (U1.out k hk)⟩
 case round=>
  obtain⟨i,x,hi,rfl,hJi,hF,hsz,hnow,hOi,hU⟩:=hrel
  have hW1:W.heap.size≤wr.heap.size:=Nat.le_of_lt hsz
  clear HJ1 F1 R1 O1 U1
  by_cases hlt:i < ord.length
  ·obtain ⟨b,off,y,hq,hb,hx,hc⟩:=(OwnF.sl (OwnF.keep0 HST.out hF rfl HBS.out (by decide))).atF stpC_len rfl hlt
   subst hq
   obtain⟨id,c⟩:=y
   have c0:wr.cell? ⟨b,off+i*2,none⟩=some (.int .i64 id):=hc 0 (by decide)
   have c1:wr.cell? ⟨b,off+i*2+1,none⟩=some (.bool c):=hc 1 (by decide)
   have y3:=row_cell (hF.row0 rfl H3.out n3) 0
   have y4:=row_cell (hF.row0 rfl H4.out n4) 0
   have y0:=row_cell hnow 0
   simp at y0 y3 y4
   have l3:=row_lt (hF.row0 rfl H3.out n3)
   have l4:=row_lt (hF.row0 rfl H4.out n4)
   obtain⟨k,s,hk,hid',hfst,hdd,hstp⟩:=HS.out i _ hx
   obtain⟨ax,cx,rfl⟩:=OwnF.slv hOi
   have hln:=HL.out i hi
   have ba:Below wr.heap.size wr (wr.alloc (.cells #[.int .i64 id,.bool c] 58)):=(Below.refl _ wr).alloc (Nat.le_refl _) _
   have ONE:=hid (pl_one (.slice ax (S i).length cx) tv (S i) (S (i+1)) A id c al _ (OwnF.below hOi ba) (by omega) ((TxsAt.keep0 HT.out hF rfl HBS.out).below ba) hk hid' hfst (by rw[hln];exact hdd) ((ErrAt.keep0 HE.out hF rfl HBS.out HU.out).below ba) hstp)
   have BA:=hid ba
   have hsa:=ba.size
   have hne:=OwnF.neT hOi hnow (by decide)
   have HJi:=hid hJi
   have HF:=hid hF
   have HN:=hid hnow
   have HUi:=hid hU
   have HNE:=hid hne
   clear hk hid' hfst hdd hstp hc ba hJi hF hnow hU hOi hne hln
   gi_wp2_with fail
   refine⟨trivial,(callsIn_wide.2 ONE.out).mono ?_⟩
   rintro e w1 ⟨⟨v',rfl,o2,u2⟩,b2⟩
   obtain⟨a',c',rfl⟩:=OwnF.slv o2
   have hs1:wr.heap.size≤w1.heap.size:=Nat.le_trans hsa b2.size
   have b3:Below wr.heap.size wr (w1.alloc (.cells #[.slice a' (S (i+1)).length c'] 46)):=(BA.out.trans (b2.mono hsa)).alloc hs1 _
   have o3:=OwnF.below o2 (((Below.refl _ w1).alloc (Nat.le_refl _) (.cells #[.slice a' (S (i+1)).length c'] 46)))
   have r9:=row_new w1 (.cells #[.slice a' (S (i+1)).length c'] 46)
   have n3':=row_below HN.out b3 hsz
   have v3:∀k,(Value.slice a' (S (i+1)).length c').ownBlock=some k→(Lb w0.heap.size (fun k=>k=bs) k∨W.heap.size≤k)∧k < w1.heap.size+1∧¬k=W.heap.size:=by
    intro k hk
    have hlt3:=(OwnF.lt o3 k hk).2
    have hn3:=OwnF.neT o3 n3' (by decide)
    refine⟨?_,by simpa using hlt3,fun e=>hn3 (e▸hk)⟩
    rcases u2 with u2|u2
    ·exact HUi.out k (by rw[←u2];exact hk)
    ·exact .inr (by have:=u2 k hk;omega)
   have J2:=HJ.out (fun k=>k=W.heap.size) i _ _ trivial HJi.out hW1 (b3.mono hW1) fun k hk _=>b3.block k hk
   obtain⟨fn,tmps,assign,body,hy,hR⟩:=HY.out (fun k=>k=W.heap.size) i _ (w1.heap.size+1) #[.int .i64 i,.agg #[.slice a' (S (i+1)).length c',.nilIface]] hlt trivial J2 (fun k e=>by cases e;exact⟨Nat.le_refl _,by omega⟩) (by omega) (by simp) ⟨_,rfl,o3,fun k hk=>⟨(v3 k hk).2.1,(v3 k hk).2.2,(v3 k hk).1.imp (fun h=>h) fun h=>⟨_,rfl,h⟩⟩⟩
   have B3:=hid b3
   have O3:=hid o3
   have R9:=hid r9
   have N3:=hid n3'
   have V3:=hid v3
   clear b3 o3 r9 n3' v3 J2 o2 u2 b2 ONE HNE
   gi_wp2_with fail
   refine hR.mono ?_
   rintro e W3 (⟨rfl,⟨hJ3,hk3⟩,-⟩|⟨rfl,hJx3,-⟩)
   ·have r9:=hk3.block _ _ (.inr (by omega)) (by omega) R9.out fun h=>h
    have n3':=hk3.block _ _ (.inr (Nat.le_refl _)) (by omega) N3.out fun h=>h
    have z9:=row_cell r9 0
    have z0:=row_cell n3' 0
    have f0:=row_free n3' 0
    simp at z9 z0
    have zl:=row_lt n3'
    have zl9:=row_lt r9
    have F3:=(HF.out.more (KeepM.below (lo:=w0.heap.size) B3.out (Nat.le_trans hW0 (by omega))) (Nat.le_refl _)).more hk3 (by omega)
    have FF:=hid (F3.more (KeepM.set (lo:=w0.heap.size) (hb:=w0.heap.size) (A:=W3) (g:=W.heap.size) (j:=0) (.slice a' (S (i+1)).length c') (.inr hW0)) (Nat.le_refl _))
    have o3:=OwnF.keepL O3.out hk3 fun k hk=>⟨(V3.out k hk).1,(V3.out k hk).2.1⟩
    have OF:=hid (OwnF.other (j:=0) o3 (OwnF.neT o3 n3' (by decide)) (.slice a' (S (i+1)).length c'))
    have RF:=hid (row_set n3' 0 (.slice a' (S (i+1)).length c'))
    have JF:=hid (HJ.out (fun k=>k=W.heap.size) (i+1) _ _ trivial hJ3 (by omega) ((Below.refl _ W3).setCell (p:=⟨W.heap.size,0,none⟩) (Nat.le_refl _) (.slice a' (S (i+1)).length c')) fun k _ hk=>Below.heap_setCell _ _ _ _ fun e=>hk e)
    clear r9 n3' F3 o3 hJ3 hk3
    gi_wp2_with fail
    go_roundw
    case rel=>exact⟨i+1,_,by omega,by go_num,JF.out,FF.out,by simpa using zl,RF.out,OF.out,fun k hk=>(V3.out k hk).1⟩
    case measure=>simp[intOf];omega
   ·gi_wp2_with fail
    refine bodyPost_ret (results_none rfl _ _ _) rfl ?_
    exact⟨⟨_,rfl⟩,(fun k=>k=W.heap.size),trivial,.inr ⟨i+1,by omega,by omega,hJx3⟩⟩
  ·obtain rfl:i=ord.length:=by omega
   have hq:decide ((ord.length:Int) < (ord.length:Int))=false:=by simp
   gi_wp2_with fail
   go_end0
   exact⟨⟨_,rfl⟩,_,trivial,.inl hJi⟩
theorem steps_of {dl:Int→List Dd} {al:Bool}:∀{ord:List (Int×Bool)} {σ τ:List Int},playO dl al σ ord=some τ→∃S:Nat→List Int,S 0=σ∧S ord.length=τ∧∀(i:Nat) (p:Int×Bool),ord[i]?=some p→stepO dl al (S i) p=some (S (i+1))
 |[],σ,τ,h=>⟨fun _=>σ,rfl,by simpa[playO] using h,fun i p hp=>by simp at hp⟩
 |p::l,σ,τ,h=>by
  simp only[playO] at h
  cases hs:stepO dl al σ p with
  |none=>rw[hs] at h;cases h
  |some ρ=>
   rw[hs] at h
   obtain⟨S,h1,h2,h3⟩:=steps_of h
   refine⟨fun i=>match i with|0=>σ|i+1=>S i,rfl,h2,fun i q hq=>?_⟩
   cases i with
   |zero=>
    simp only[List.getElem?_cons_zero,Option.some.injEq] at hq
    subst hq
    show stepO dl al σ p=some (S 0)
    rw[hs,h1]
   |succ i=>exact h3 i q (by simpa using hq)
theorem steps_len {dl:Int→List Dd} {al:Bool} {ord:List (Int×Bool)} {S:Nat→List Int} (h:∀(i:Nat) (p:Int×Bool),ord[i]?=some p→stepO dl al (S i) p=some (S (i+1))):∀i,i≤ord.length→(S i).length=(S 0).length
 |0,_=>rfl
 |i+1,hi=>by
  obtain⟨p,hp⟩:∃p,ord[i]?=some p:=⟨_,List.getElem?_eq_getElem (by omega)⟩
  rw[stepO_len (h i p hp)]
  exact steps_len h i (by omega)
def OrI (S:Nat→List Int) (l0:Nat) (w:World) (q:Nat→Prop) (i:Nat) (A:World):Prop:=(∃x,A.heap[w.heap.size]?=some (.cells #[x] 46 (0,0))∧A.heap[w.heap.size+1]?=some (.cells #[.slice none 0 0] 46 (0,0))∧A.heap[w.heap.size+1+1]?=some (.cells #[.nilIface] 30 (0,0))∧OwnS A 0 x (S i)∧∀k,x.ownBlock=some k→k≠l0∧¬q k)∧Below w.heap.size w A∧∀k,q k→w.heap.size+3≤k
theorem pl_points {w:World} {a1 a2 a3:Option Addr} {n1 n2 n3 c1 c2 c3:Nat} {al:Bool}:Calls Tryz.prog 44 #[stV (.slice a1 n1 c1),.slice a2 n2 c2,.slice a3 n3 c3,.bool al] w fun e w'=>e=.returned (.func (.func 76) #[] #[.pointer (some ⟨w.heap.size,0,none⟩),.pointer (some ⟨w.heap.size+1+1,0,none⟩),.pointer (some ⟨w.heap.size+1,0,none⟩),.pointer (some ⟨w.heap.size+1+1+1,0,none⟩)])∧
  w'=(((w.alloc (.cells #[.slice a1 n1 c1] 46)).alloc (.cells #[.slice a2 n2 c2] 39)).alloc (.cells #[.slice a3 n3 c3] 49)).alloc (.cells #[.bool al] 4):=by
 go_enter Tryz.func44,Tryz.ntmps44
 go_wp2
 go_ret
 exact⟨rfl,rfl⟩
theorem pl_Order {B:Nat} (v tv stv:Value) (σ τ:List Int) (A:Au) (ord:List (Int×Bool)) (al:Bool) (w:World) (h:OwnS w 0 v σ) (hl:σ.length≤1000) (hn:ord.length≤1000) (hst:OwnF stpC 58 2 w 0 stv ord) (hT:TxsAt w B tv A) (hE:ErrAt 15 w)
  (hA:∀p ∈ ord,∃(k:Nat) (s:St),A[k]?=some s∧s.id=p.1∧∀(j:Nat) (t:St),j < k→A[j]?=some t→t.id≠p.1) (hok:∀s ∈ A,∀d ∈ s.deeds,DdR σ.length d) (hp:playO (deedsOf A) al σ ord=some τ):
  Calls Tryz.prog 16 #[stV v,tv,stv,.bool al] w fun e w'=>∃v',e=.returned (.tuple #[stV v',.nilIface])∧OwnS w' 0 v' τ∧Below w.heap.size w w':=by
 obtain⟨S,rfl,rfl,hS⟩:=steps_of hp
 have hlen:=steps_len hS
 have hS':∀(i:Nat) (p:Int×Bool),ord[i]?=some p→∃(k:Nat) (s:St),A[k]?=some s∧s.id=p.1∧(∀(j:Nat) (t:St),j < k→A[j]?=some t→t.id≠p.1)∧(∀d ∈ s.deeds,DdR (S 0).length d)∧stepO (fun _=>s.deeds) al (S i) p=some (S (i+1)):=by
  intro i p hip
  obtain⟨k,s,hk,hid',hfst⟩:=hA p (List.mem_of_getElem? hip)
  refine⟨k,s,hk,hid',hfst,hok s (List.mem_of_getElem? hk),?_⟩
  rw[←hS i p hip]
  have:deedsOf A p.1=s.deeds:=by
   unfold deedsOf
   have:A.find? (fun s=>s.id==p.1)=some s:=by
    rw[List.find?_eq_some_iff_getElem]
    obtain⟨hkl,he⟩:=List.getElem?_eq_some_iff.1 hk
    refine⟨by simp[hid'],k,hkl,he,fun j hj=>?_⟩
    have:=hfst j A[j] hj (List.getElem?_eq_getElem (by omega))
    simpa using this
   rw[this]
  unfold stepO
  rw[this]
 obtain⟨av,cv,rfl⟩:=OwnF.slv h
 obtain⟨rs,hTv,-,-⟩:=id hT
 obtain⟨af,ct,htv⟩:=OwnF.slv hTv
 obtain⟨ae,cs,rfl⟩:=OwnF.slv hst
 subst htv
 have P1:=hid (fun w0:World=>pl_pts 2 w0 S A ord al B w.heap.size (w.heap.size+3) (w.heap.size+3+1+1) (w.heap.size+3+1) (w.heap.size+3+1+1+1) (.slice av (S 0).length cv) (.slice av (S 0).length cv) (.slice af rs.length ct) (.slice ae ord.length cs) hlen hl hn hS')
 have HL:=hid hlen
 have H:=hid h
 have HT:=hid hT
 have HE:=hid hE
 have HST:=hid hst
 clear hS hS' hp hA hok hlen h hT hE hst hTv
 have b0:Below w.heap.size w (((w.alloc (.cells #[.slice av (S 0).length cv] 46)).alloc (.cells #[.slice none 0 0] 46)).alloc (.cells #[.nilIface] 30)):=(((Below.refl _ w).alloc (Nat.le_refl _) _).alloc (by simp) _).alloc (by simp;omega) _
 have r0:=row_old (o:=.cells #[.nilIface] 30) (row_old (o:=.cells #[.slice none 0 0] 46) (row_new w (.cells #[.slice av (S 0).length cv] 46)))
 have r1:=row_old (o:=.cells #[.nilIface] 30) (row_new (w.alloc (.cells #[.slice av (S 0).length cv] 46)) (.cells #[.slice none 0 0] 46))
 have r2:=row_new ((w.alloc (.cells #[.slice av (S 0).length cv] 46)).alloc (.cells #[.slice none 0 0] 46)) (.cells #[.nilIface] 30)
 have z0:=show(((w.alloc (.cells #[.slice av (S 0).length cv] 46)).alloc (.cells #[.slice none 0 0] 46)).alloc (.cells #[.nilIface] 30)).heap.size=w.heap.size+3 by simp
 simp only[World.size_alloc] at r1 r2
 refine(callsIn_wide (n:=2+2)).1 ?_
 refine callsIn_of_wp_marks Tryz.func16 rfl trivial ?_ rfl
 simp only[Tryz.ntmps16,List.size_toArray,List.length_cons,List.length_nil,Nat.reduceAdd,Nat.reduceSub,Array.replicate_succ,Array.replicate_zero,List.push_toArray,List.append_toArray,List.nil_append,List.cons_append]
 have B0:=hid b0
 have R0:=hid r0
 have R1:=hid r1
 have R2:=hid r2
 have Z0:=hid z0
 clear b0 r0 r1 r2 z0
 gi_wp2_with fail
 generalize ((w.alloc (.cells #[.slice av (S 0).length cv] 46)).alloc (.cells #[.slice none 0 0] 46)).alloc (.cells #[.nilIface] 30)=W0 at *
 refine⟨trivial,(callsIn_wide.2 pl_points).mono ?_⟩
 rintro e w1 ⟨rfl,rfl⟩
 have bq:Below W0.heap.size W0 ((((W0.alloc (.cells #[.slice av (S 0).length cv] 46)).alloc (.cells #[.slice af rs.length ct] 39)).alloc (.cells #[.slice ae ord.length cs] 49)).alloc (.cells #[.bool al] 4)):=((((Below.refl _ _).alloc (Nat.le_refl _) _).alloc (by simp) _).alloc (by simp;omega) _).alloc (by simp;omega) _
 have q1:=row_old (o:=.cells #[.bool al] 4) (row_old (o:=.cells #[.slice ae ord.length cs] 49) (row_old (o:=.cells #[.slice af rs.length ct] 39) (row_new W0 (.cells #[.slice av (S 0).length cv] 46))))
 have q2:=row_old (o:=.cells #[.bool al] 4) (row_old (o:=.cells #[.slice ae ord.length cs] 49) (row_new (W0.alloc (.cells #[.slice av (S 0).length cv] 46)) (.cells #[.slice af rs.length ct] 39)))
 have q3:=row_old (o:=.cells #[.bool al] 4) (row_new ((W0.alloc (.cells #[.slice av (S 0).length cv] 46)).alloc (.cells #[.slice af rs.length ct] 39)) (.cells #[.slice ae ord.length cs] 49))
 have q4:=row_new (((W0.alloc (.cells #[.slice av (S 0).length cv] 46)).alloc (.cells #[.slice af rs.length ct] 39)).alloc (.cells #[.slice ae ord.length cs] 49)) (.cells #[.bool al] 4)
 have zq:((((W0.alloc (.cells #[.slice av (S 0).length cv] 46)).alloc (.cells #[.slice af rs.length ct] 39)).alloc (.cells #[.slice ae ord.length cs] 49)).alloc (.cells #[.bool al] 4)).heap.size=w.heap.size+7:=by simp[Z0.out]
 simp only[World.size_alloc,Z0.out] at q1 q2 q3 q4
 have BQ:=hid bq
 have Q1:=hid q1
 have Q2:=hid q2
 have Q3:=hid q3
 have Q4:=hid q4
 have ZQ:=hid zq
 clear bq q1 q2 q3 q4 zq
 gi_wp2_with fail
 generalize (((W0.alloc (.cells #[.slice av (S 0).length cv] 46)).alloc (.cells #[.slice af rs.length ct] 39)).alloc (.cells #[.slice ae ord.length cs] 49)).alloc (.cells #[.bool al] 4)=wq at *
 simp only[Z0.out] at *
 have bw:Below w.heap.size w wq:=B0.out.trans (BQ.out.mono (by omega))
 have t0:=row_below R0.out BQ.out (by omega)
 have t1:=row_below R1.out BQ.out (by omega)
 have t2:=row_below R2.out BQ.out (by omega)
 have hzq:wq.heap.size≤w.heap.size+7∧w.heap.size+7≤wq.heap.size:=⟨by rw[ZQ.out];exact Nat.le_refl _,by rw[ZQ.out];exact Nat.le_refl _⟩
 have hI:∀(q:Nat→Prop) (i:Nat) (A B:World),True→OrI S (wq.heap.size+1) w q i A→wq.heap.size≤A.heap.size→Below wq.heap.size A B→(∀k,k < A.heap.size→k≠wq.heap.size+1→¬q k→B.heap[k]?=A.heap[k]?)→OrI S (wq.heap.size+1) w q i B:=by
  rintro q i A B - ⟨⟨x,h1,h2,h3,h4,h5⟩,hB,hq⟩ hs hb he
  have nq:∀j,j < 3→¬q (w.heap.size+j):=fun j hj e=>by have:=hq _ e;omega
  exact⟨⟨x,(he _ (row_lt h1) (by omega) (nq 0 (by omega))).trans h1,(he _ (row_lt h2) (by omega) (nq 1 (by omega))).trans h2,(he _ (row_lt h3) (by omega) (nq 2 (by omega))).trans h3,
   OwnF.fr (S:=fun k=>k=wq.heap.size+1∨q k) h4 ⟨hb.mono (Nat.zero_le _),fun k hk hn=>he k hk (fun e=>hn (.inl e)) (fun e=>hn (.inr e))⟩ fun k hk hn=>hn.elim (h5 k hk).1 (h5 k hk).2,h5⟩,hB.trans (hb.mono (by omega)),hq⟩
 have hv0:=OwnF.below H.out bw
 have hI0:∀q:Nat→Prop,(∀k,q k→wq.heap.size+2≤k)→OrI S (wq.heap.size+1) w q 0 wq:=fun q hq=>⟨⟨_,t0,t1,t2,hv0,fun k hk=>⟨fun e=>by have:=(OwnF.lt hv0 k hk).2;omega,fun e=>by have:=(OwnF.lt hv0 k hk).2;have:=hq k e;omega⟩⟩,bw,fun k hk=>by have:=hq k hk;omega⟩
 have IT:=P1.out wq t0 (by simp) Q1.out Q3.out Q2.out Q4.out (by omega) (OwnF.below H.out bw) (OwnF.below HST.out bw) (HT.out.below bw) (HE.out.below bw)
 refine wpIn_range_ownC (M:=NoM) (L:=Lb wq.heap.size fun k=>k=w.heap.size) (Qs:=fun _=>True) (G:=fun _=>True) (m:=2) (gf:=76) (N:=ord.length) (H:=HandP wq.heap.size w.heap.size S) rfl (enters_of Tryz.func76 (by kernel_rfl) rfl) (fun _ h=>h.1) IT (fun _ i W hb args h=>by obtain⟨_,rfl,-⟩:=h;rfl)
  (OrI S (wq.heap.size+1) w) (fun _ _ _ _=>False) hI (fun _ _ _ _ _ _ h _ _ _=>h) (fun _ _ _ _ _=>trivial) (fun q _ hq=>hI0 q hq) (fun W hW=>hW) (fun r h=>h) (fun r h=>h) ?_ ?_ ?_
 ·rintro q i W1 hb args hi - hIi hq hlo hhi ⟨v',rfl,o',n'⟩
  obtain⟨a',c',rfl⟩:=OwnF.slv o'
  gi_wp2_with fail
  refine⟨(Below.refl _ _).alloc (Nat.le_refl _) _,?_⟩
  intro w2 z2 k2 b2
  have nl:∀k,(Value.slice a' (S (i+1)).length c').ownBlock=some k→k≠wq.heap.size+1:=fun k hk e=>by
   rcases(n' k hk).2.2 with h|⟨k0,h0,h1⟩
   ·omega
   ·have:=(hq k0 h0).1;omega
  obtain⟨⟨x,h1,h2,h3,h4,h5⟩,hB,hq'⟩:=hI q i W1 w2 trivial hIi (by omega) (((Below.refl wq.heap.size W1).alloc (by omega) _).trans b2) (fun k hk hn _=>(k2 k hn).trans (Below.heap_alloc _ _ _ (by omega)))
  have o2:OwnS w2 0 (.slice a' (S (i+1)).length c') (S (i+1)):=OwnF.fr (S:=fun k=>k=wq.heap.size+1) o' ⟨(((Below.refl wq.heap.size W1).alloc (by omega) _).trans b2).mono (Nat.zero_le _),fun k hk hn=>(k2 k hn).trans (Below.heap_alloc _ _ _ (by omega))⟩ nl
  have r9:w2.heap[W1.heap.size]?=some (.cells #[.slice a' (S (i+1)).length c',.nilIface] 107 (0,0)):=(k2 _ (by omega)).trans (row_new W1 _)
  have l9:=row_lt r9
  generalize W1.heap.size=p9 at *
  have y:=row_cell r9
  have y0:=y 0
  have y1:=y 1
  simp at y0 y1
  have x0:=row_cell h1 0
  have xf:=row_free h1 0
  have xl:=row_lt h1
  have KF:=hid (KeepM.set (M:=NoM) (L:=Lb wq.heap.size fun k=>k=w.heap.size) (lo:=wq.heap.size) (hb:=hb) (A:=w2) (g:=w.heap.size) (j:=0) (.slice a' (S (i+1)).length c') (.inl ⟨by omega,fun h=>h.2 rfl⟩))
  have RF:=hid (row_set h1 0 (.slice a' (S (i+1)).length c'))
  have RF1:=hid ((Below.heap_setCell w2 ⟨w.heap.size,0,none⟩ (.slice a' (S (i+1)).length c') _ (by show w.heap.size+1≠w.heap.size;omega)).trans h2)
  have RF2:=hid ((Below.heap_setCell w2 ⟨w.heap.size,0,none⟩ (.slice a' (S (i+1)).length c') _ (by show w.heap.size+1+1≠w.heap.size;omega)).trans h3)
  have OF:=hid (OwnF.other (j:=0) o2 (OwnF.neT o2 h1 (by decide)) (.slice a' (S (i+1)).length c'))
  have BF:=hid (hB.setCell (p:=⟨w.heap.size,0,none⟩) (Nat.le_refl _) (.slice a' (S (i+1)).length c'))
  have NF:=hid (fun k (hk:(Value.slice a' (S (i+1)).length c').ownBlock=some k)=>(⟨nl k hk,(n' k hk).2.1⟩:k≠wq.heap.size+1∧¬q k))
  have QF:=hid hq'
  clear hIi o' n' nl h1 h2 h3 h4 h5 hB hq' o2 r9 y z2 k2 b2 hI hI0 t0 t1 t2 hv0 IT bw
  gi_wp2_with fail
  exact⟨⟨⟨⟨_,by simpa using RF.out,RF1.out,RF2.out,OF.out,NF.out⟩,BF.out,QF.out⟩,KF.out⟩,trivial⟩
 ·rintro q W - ⟨⟨x,h1,h2,h3,h4,h5⟩,hB,hq⟩ hz hd
  clear hI hI0 t0 t1 t2 hv0 IT bw
  obtain⟨a',c',rfl⟩:=OwnF.slv h4
  have x0:=row_cell h1 0
  have xl:=row_lt h1
  have x1:=row_cell h2 0
  have xl1:=row_lt h2
  have xf1:=row_free h2 0
  have x2:=row_cell h3 0
  have xl2:=row_lt h3
  have xf2:=row_free h3 0
  simp at x0 x1 x2
  have H2:=hid h2
  have H3:=hid h3
  have H4:=hid h4
  have HB:=hid hB
  have HD:=hid hd
  clear h1 h2 h3 h4 h5 hB hq hd
  gi_wp2_with fail
  obtain⟨X,hX⟩:∃X,X=(W.setCell ⟨w.heap.size+1,0,none⟩ (.slice a' (S ord.length).length c')).setCell ⟨w.heap.size+1+1,0,none⟩ .nilIface:=⟨_,rfl⟩
  have k1:=row_set H2.out 0 (.slice a' (S ord.length).length c')
  have o1:=OwnF.other (j:=0) H4.out (OwnF.neT H4.out H2.out (by decide)) (.slice a' (S ord.length).length c')
  have k2:(W.setCell ⟨w.heap.size+1,0,none⟩ (.slice a' (S ord.length).length c')).heap[w.heap.size+1+1]?=_:=(Below.heap_setCell W ⟨w.heap.size+1,0,none⟩ _ _ (by show w.heap.size+1+1≠w.heap.size+1;omega)).trans H3.out
  have o2:=OwnF.other (j:=0) o1 (OwnF.neT o1 k2 (by decide)) .nilIface
  have k1:=(Below.heap_setCell (W.setCell ⟨w.heap.size+1,0,none⟩ (.slice a' (S ord.length).length c')) ⟨w.heap.size+1+1,0,none⟩ .nilIface _ (by show w.heap.size+1≠w.heap.size+1+1;omega)).trans k1
  have k2:=row_set k2 0 .nilIface
  have bX:=(HB.out.setCell (p:=⟨w.heap.size+1,0,none⟩) (Nat.le_succ _) (.slice a' (S ord.length).length c')).setCell (p:=⟨w.heap.size+1+1,0,none⟩) (show w.heap.size≤w.heap.size+1+1 by omega) .nilIface
  have kd:X.heap[wq.heap.size]?=some (.deferred (some [])):=by
   rw[hX]
   exact(Below.heap_setCell _ _ _ _ (by show wq.heap.size≠w.heap.size+1+1;omega)).trans ((Below.heap_setCell _ _ _ _ (by show wq.heap.size≠w.heap.size+1;omega)).trans HD.out)
  rw[←hX] at o2 k1 k2 bX ⊢
  have nD:∀k,(Value.slice a' (S ord.length).length c').ownBlock=some k→k≠wq.heap.size:=by
   rintro k hk rfl
   obtain⟨cs,h⟩:=OwnF.keepObj o2 _ hk
   rw[kd] at h
   cases h
  refine leaves_mark1 kd fun w' hb' he=>LeavesIn.fin (v:=.tuple #[stV (.slice a' (S ord.length).length c'),.nilIface]) ?_ ⟨_,rfl,OwnF.fr (S:=fun k=>k=wq.heap.size) o2 ⟨hb'.mono (Nat.zero_le _),fun k _ hn=>he k hn⟩ nD,bX.trans (hb'.mono (by omega))⟩
  have c1:=row_cell ((he _ (by omega)).trans k1) 0
  have c2:=row_cell ((he _ (by omega)).trans k2) 0
  simp at c1 c2
  simp[results,Tryz.results16,go_sem,c1,c2]
 ·rintro q c i W h1 h2 - h3
  exact h3.elim
end
