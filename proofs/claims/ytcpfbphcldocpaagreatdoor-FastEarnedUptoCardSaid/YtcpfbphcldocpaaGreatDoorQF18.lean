/- Parts of the proof, merged by program out of 2 texts (FtE, FtM): the first: A history under the premise in memory: its movers, who writes a version, who is taken. Conditions: those of each theorem, as typed. -/
import Derived.Test.YtcpfbphcldocpaaGreatDoorQF17
import Derived.Test.YtcpfbphcldocpaaGreatDoorQF09
set_option linter.unusedVariables false
set_option linter.unusedSimpArgs false
set_option linter.unusedSectionVars false
set_option maxRecDepth 100000
set_option maxHeartbeats 4000000
namespace Go.Proofs.YtcpfbphcldocpaaGreatDoor
open Go.Maps Go.RowKit
section
attribute [local irreducible] wpL
structure Mvr where
 p:Nat
 r:Nat
 wm:Nat
 dv:Value
def Mvr.cells (m:Mvr):List Value:=[ptrV m.p]
theorem Mvr.len (m:Mvr):m.cells.length=1:=rfl
theorem infoMv:(Tryz.prog.info? 133).map (fun i=>(i.zero,i.size,i.bytes))=some (some (.pointer none),1,8):=by kernel_rfl
theorem mv_one (m:Mvr):∀u ∈ m.cells,u.oneCell'=true:=by intro u hu;simp[Mvr.cells] at hu;subst hu;rfl
abbrev mvRow (s:St) (m:Mvr) (lk tk:Bool):Obj:=.cells #[.int .i64 s.id,.int .i64 s.thread,.int .i64 s.status,.int .i64 s.beg,.int .i64 s.fin,.int .i64 s.tri,m.dv,.map (some m.r),.map (some m.wm),.bool lk,.bool tk] 140 (0,0)
structure MvAt (w:World) (lo hi:Nat) (m:Mvr) (s:St) (lk tk:Bool):Prop where
 row:w.heap[m.p]?=some (mvRow s m lk tk)
 dds:OwnD w lo m.dv s.deeds
 dvb:∀k,m.dv.ownBlock=some k→k < hi
 rd:IsMI w m.r (rdM s).length (rdM s)
 wr:IsMI w m.wm (wrM s).length (wrM s)
 b:(lo≤m.p∧m.p < hi)∧(lo≤m.r∧m.r < hi)∧lo≤m.wm∧m.wm < hi
def byM (A:Au) (ms:List Mvr) (c:Ck):Option Value:=(byF A c.1.1 c.1.2).bind fun j=>ms[j]?.map fun m=>ptrV m.p
structure FwAt (w:World) (lo hi pW bB:Nat) (lev:Int) (ov vv:Value) (ms:List Mvr) (lv:Value) (A:Au) (T:List Bool):Prop where
 row:w.heap[pW]?=some (.cells #[ov,vv,.int .i64 lev,lv,.map (some bB)] 137 (0,0))
 pB:(lo≤pW∧pW < hi)∧lo≤bB∧bB < hi
 lst:OwnF Mvr.cells 133 1 w lo lv ms
 lstb:∀k,lv.ownBlock=some k→k < hi
 len:ms.length=A.length
 tl:T.length=A.length
 mv:∀(k:Nat) (m:Mvr) (s:St),ms[k]?=some m→A[k]?=some s→MvAt w lo hi m s (lookF lev T k) (T.getD k false)
 inj:∀(j k:Nat) (m m':Mvr),ms[j]?=some m→ms[k]?=some m'→m.p=m'.p→j=k
 nb:∀m ∈ ms,m.r≠bB∧m.wm≠bB
 by_:RawV ckV w bB (byM A ms)
section
variable {w w':World} {lo hi pW bB:Nat} {lev:Int} {ov vv lv:Value} {ms:List Mvr} {A:Au} {T:List Bool}
theorem OwnF.sameB {α:Type} {f:α→List Value} {e:TypeId} {sz B:Nat} {v:Value} {l:List α} (h:OwnF f e sz w B v l) (hk:∀k,v.ownBlock=some k→w'.heap[k]?=w.heap[k]?):OwnF f e sz w' B v l:=by
 obtain⟨h1,h2⟩:=h
 refine⟨h1,?_⟩
 rcases h2 with h2|⟨g,cap,cur,rfl,hg,hh,r⟩
 ·exact .inl h2
 ·exact .inr ⟨g,cap,cur,rfl,hg,(hk g rfl).trans hh,r⟩
theorem MvAt.keep {m:Mvr} {s:St} {lk tk:Bool} {hi':Nat} (h:MvAt w lo hi m s lk tk) (hh:hi≤hi') (h1:w'.heap[m.p]?=w.heap[m.p]?) (h2:∀k,m.dv.ownBlock=some k→w'.heap[k]?=w.heap[k]?) (h3:w'.heap[m.r]?=w.heap[m.r]?) (h4:w'.heap[m.wm]?=w.heap[m.wm]?):MvAt w' lo hi' m s lk tk:=
 ⟨h1.trans h.row,h.dds.sameB h2,fun k hk=>Nat.lt_of_lt_of_le (h.dvb k hk) hh,h.rd.obj h3,h.wr.obj h4,by have:=h.b;omega⟩
theorem FwAt.keep {hi':Nat} (h:FwAt w lo hi pW bB lev ov vv ms lv A T) (hh:hi≤hi') (hk:∀k,lo≤k→k < hi→w'.heap[k]?=w.heap[k]?):FwAt w' lo hi' pW bB lev ov vv ms lv A T where
 row:=(hk pW h.pB.1.1 h.pB.1.2).trans h.row
 pB:=by have:=h.pB;omega
 lst:=h.lst.sameB fun k e=>hk k (OwnF.lt h.lst k e).1 (h.lstb k e)
 lstb k e:=Nat.lt_of_lt_of_le (h.lstb k e) hh
 len:=h.len
 tl:=h.tl
 mv k m s hm hs:=by
  have q:=h.mv k m s hm hs
  have b:=q.b
  exact q.keep hh (hk _ b.1.1 b.1.2) (fun k e=>hk k (OwnF.lt q.dds k e).1 (q.dvb k e)) (hk _ b.2.1.1 b.2.1.2) (hk _ b.2.2.1 b.2.2.2)
 inj:=h.inj
 nb:=h.nb
 by_:=h.by_.obj (hk bB h.pB.2.1 h.pB.2.2)
theorem FwAt.below {K hi':Nat} (h:FwAt w lo hi pW bB lev ov vv ms lv A T) (hb:Below K w w') (hK:hi≤K) (hh:hi≤hi'):FwAt w' lo hi' pW bB lev ov vv ms lv A T:=h.keep hh fun k _ hk=>hb.block k (by omega)
theorem FwAt.get (h:FwAt w lo hi pW bB lev ov vv ms lv A T) {k:Nat} (hk:k < A.length):∃m s,ms[k]?=some m∧A[k]?=some s∧MvAt w lo hi m s (lookF lev T k) (T.getD k false):=by
 have hk':k < ms.length:=by have:=h.len;omega
 have h1:ms[k]?=some ms[k]:=List.getElem?_eq_getElem hk'
 have h2:A[k]?=some A[k]:=List.getElem?_eq_getElem hk
 exact⟨_,_,h1,h2,h.mv k _ _ h1 h2⟩
theorem cells_ne {q1 q2:Nat} {c1 c2:Array Value} {t1 t2:TypeId} {f1 f2:Nat×Nat} (h1:w.heap[q1]?=some (.cells c1 t1 f1)) (h2:w.heap[q2]?=some (.cells c2 t2 f2)) (ht:t1≠t2):q1≠q2:=by
 rintro rfl
 rw[h1] at h2
 simp only[Option.some.injEq,Obj.cells.injEq] at h2
 exact ht h2.2.1
theorem cells_nm {q1 q2:Nat} {c1:Array Value} {t1:TypeId} {f1:Nat×Nat} (h1:w.heap[q1]?=some (.cells c1 t1 f1)) (h2:∃es c,w.heap[q2]?=some (.map es c)):q1≠q2:=by
 rintro rfl
 obtain⟨es,c,h2⟩:=h2
 rw[h1] at h2
 cases h2
theorem IsMI.isMap {b n:Nat} {M:MI} (h:IsMI w b n M):∃es c,w.heap[b]?=some (.map es c):=by
 obtain⟨es,c,hb,-⟩:=h
 exact⟨es,c,hb⟩
theorem lookF_app {T:List Bool} {x:Bool} {k:Nat} (hk:k < T.length):lookF lev (T++[x]) k=lookF lev T k∧(T++[x]).getD k false=T.getD k false:=by
 have e:(T++[x]).getD k false=T.getD k false:=by rw[List.getD_eq_getElem?_getD,List.getD_eq_getElem?_getD,List.getElem?_append_left hk]
 unfold lookF
 rw[e]
 exact⟨rfl,rfl⟩
theorem lookF_last {T:List Bool} {x:Bool}:lookF lev (T++[x]) T.length=(x||decide (lev=3))∧(T++[x]).getD T.length false=x:=by
 have e:(T++[x]).getD T.length false=x:=by rw[List.getD_eq_getElem?_getD];simp
 unfold lookF
 rw[e]
 exact⟨rfl,rfl⟩
theorem FwAt.snoc {hi':Nat} {lv':Value} {m:Mvr} {s:St} {x:Bool} (h:FwAt w lo hi pW bB lev ov vv ms lv A T) (hh:hi≤hi')
  (hk:∀k,lo≤k→k < hi→k≠pW→k≠bB→lv.ownBlock≠some k→w'.heap[k]?=w.heap[k]?)
  (hr:w'.heap[pW]?=some (.cells #[ov,vv,.int .i64 lev,lv',.map (some bB)] 137 (0,0))) (hl:OwnF Mvr.cells 133 1 w' lo lv' (ms++[m])) (hlb:∀k,lv'.ownBlock=some k→k < hi')
  (hm:MvAt w' lo hi' m s (x||decide (lev=3)) x) (hf:hi≤m.p∧hi≤m.r∧hi≤m.wm) (hb:RawV ckV w' bB (byM (A++[s]) (ms++[m]))):
  FwAt w' lo hi' pW bB lev ov vv (ms++[m]) lv' (A++[s]) (T++[x]):=by
 have hlen:=h.len
 have htl:=h.tl
 have hpB:=h.pB
 refine⟨hr,by omega,hl,hlb,by simp[hlen],by simp[htl],fun k m' s' hm' hs'=>?_,fun j k m1 m2 h1 h2 e=>?_,fun m' hm'=>?_,hb⟩
 ·rcases Nat.lt_trichotomy k A.length with hlt|rfl|hgt
  ·rw [List.getElem?_append_left (by omega)] at hm' hs'
   have q:=h.mv k m' s' hm' hs'
   have b:=q.b
   obtain⟨e1,e2⟩:=lookF_app (lev:=lev) (x:=x) (show k < T.length by omega)
   rw[e1,e2]
   refine q.keep hh (hk _ b.1.1 b.1.2 (cells_ne q.row h.row (by decide)) (cells_nm q.row h.by_.isMap) fun e=>?_) (fun k e=>hk k (OwnF.lt q.dds k e).1 (q.dvb k e) ?_ ?_ fun e2=>?_) (hk _ b.2.1.1 b.2.1.2 ?_ (h.nb m' (List.mem_of_getElem? hm')).1 ?_) (hk _ b.2.2.1 b.2.2.2 ?_ (h.nb m' (List.mem_of_getElem? hm')).2 ?_)
   ·exact OwnF.neT h.lst q.row (by decide) e
   ·rintro rfl
    exact OwnF.neT q.dds h.row (by decide) e
   ·rintro rfl
    exact OwnF.neM q.dds h.by_.isMap e
   ·obtain ⟨c1,hc1⟩:=q.dds.keepObj k e
    exact OwnF.neT h.lst hc1 (by decide) e2
   ·exact fun e=>cells_nm h.row q.rd.isMap e.symm
   ·exact OwnF.neM h.lst q.rd.isMap
   ·exact fun e=>cells_nm h.row q.wr.isMap e.symm
   ·exact OwnF.neM h.lst q.wr.isMap
  ·rw [List.getElem?_append_right (by omega)] at hm' hs'
   simp[hlen] at hm' hs'
   subst hm' hs'
   obtain⟨e1,e2⟩:=lookF_last (lev:=lev) (T:=T) (x:=x)
   rw[htl] at e1 e2
   rw[e1,e2]
   exact hm
  ·rw [List.getElem?_eq_none (by simp;omega)] at hs'
   cases hs'
 ·have hlt:∀(j:Nat) (m1:Mvr),(ms++[m])[j]?=some m1→j < ms.length∧ms[j]?=some m1∧m1.p < hi∨j=ms.length∧m1=m:=by
   intro j m1 h1
   rcases Nat.lt_or_ge j ms.length with hj|hj
   ·rw [List.getElem?_append_left hj] at h1
    obtain⟨m2,s2,g1,g2,g3⟩:=h.get (k:=j) (by omega)
    rw[h1] at g1
    obtain rfl:=Option.some.inj g1
    exact .inl ⟨hj,h1,g3.b.1.2⟩
   ·have:=(List.getElem?_eq_some_iff.1 h1).1
    simp at this
    obtain rfl:j=ms.length:=by omega
    simp at h1
    exact .inr ⟨rfl,h1.symm⟩
  rcases hlt j m1 h1 with⟨q1,q2,q3⟩|⟨q1,q2⟩ <;> rcases hlt k m2 h2 with⟨r1,r2,r3⟩|⟨r1,r2⟩
  ·exact h.inj j k m1 m2 q2 r2 e
  ·subst r2;omega
  ·subst q2;omega
  ·omega
 ·rcases List.mem_append.1 hm' with hm'|hm'
  ·exact h.nb m' hm'
  ·rw [List.mem_singleton.1 hm'];omega
theorem FwAt.flag {j:Nat} {m:Mvr} (h:FwAt w lo hi pW bB lev ov vv ms lv A T) (hj:ms[j]?=some m):
  FwAt ((w.setCell ⟨m.p,10,none⟩ (.bool true)).setCell ⟨m.p,9,none⟩ (.bool true)) lo hi pW bB lev ov vv ms lv A (T.set j true):=by
 have hjl:=(List.getElem?_eq_some_iff.1 hj).1
 have hlen:=h.len
 have htl:=h.tl
 obtain⟨m0,s0,g1,g2,g3⟩:=h.get (k:=j) (by omega)
 rw[hj] at g1
 obtain rfl:=Option.some.inj g1
 have old:∀k,k≠m.p→((w.setCell ⟨m.p,10,none⟩ (.bool true)).setCell ⟨m.p,9,none⟩ (.bool true)).heap[k]?=w.heap[k]?:=fun k hk=>by
  rw[RowKit.Below.heap_setCell _ _ _ _ hk,RowKit.Below.heap_setCell _ _ _ _ hk]
 refine⟨(old pW (cells_ne h.row g3.row (by decide))).trans h.row,h.pB,h.lst.sameB fun k e=>old k (by rintro rfl;exact OwnF.neT h.lst g3.row (by decide) e),h.lstb,hlen,by rw[List.length_set];exact htl,fun k m' s' hm' hs'=>?_,h.inj,h.nb,h.by_.obj (old bB fun e=>cells_nm g3.row h.by_.isMap e.symm)⟩
 have q:=h.mv k m' s' hm' hs'
 by_cases e:k=j
 ·subst e
  rw[hj] at hm'
  obtain rfl:=Option.some.inj hm'
  have eT:(T.set k true).getD k false=true:=by rw[getD_set (by omega)];simp
  have eL:lookF lev (T.set k true) k=true:=by unfold lookF;rw[eT];rfl
  rw[eL,eT]
  refine⟨?_,q.dds.sameB fun k' e=>old k' (by rintro rfl;exact OwnF.neT q.dds g3.row (by decide) e),q.dvb,q.rd.obj (old _ fun e=>cells_nm g3.row q.rd.isMap e.symm),q.wr.obj (old _ fun e=>cells_nm g3.row q.wr.isMap e.symm),q.b⟩
  have:=row_set (row_set q.row 10 (.bool true)) 9 (.bool true)
  simpa using this
 ·have eT:(T.set j true).getD k false=T.getD k false:=by rw[getD_set (by omega)];simp[e]
  have eL:lookF lev (T.set j true) k=lookF lev T k:=by unfold lookF;rw[eT]
  rw[eL,eT]
  have hne:m'.p≠m.p:=fun e2=>e (h.inj k j m' m hm' hj e2)
  exact q.keep (Nat.le_refl _) (old _ hne) (fun k' e=>old k' (by rintro rfl;exact OwnF.neT q.dds g3.row (by decide) e)) (old _ fun e=>cells_nm g3.row q.rd.isMap e.symm) (old _ fun e=>cells_nm g3.row q.wr.isMap e.symm)
end
theorem byF_snoc (A:Au) (s:St) (o v:Int):byF (A++[s]) o v=if mayT s=true∧fnd o (wrM s)=some v then some A.length else byF A o v:=by
 unfold byF
 rw[List.length_append,List.length_singleton,List.range_succ,List.foldl_append]
 have e:(List.range A.length).foldl (by1 (A++[s]) o v) none=(List.range A.length).foldl (by1 A o v) none:=by
  have:∀(l:List Nat) (r:Option Nat),(∀i ∈ l,i < A.length)→l.foldl (by1 (A++[s]) o v) r=l.foldl (by1 A o v) r:=fun l=>by
   induction l with
   |nil=>intro r _;rfl
   |cons i l ih=>
    intro r hl
    rw[List.foldl_cons,List.foldl_cons,ih _ fun x hx=>hl x (List.mem_cons_of_mem _ hx)]
    congr 1
    unfold by1
    rw[List.getElem?_append_left (hl i (List.mem_cons_self ..))]
  exact this _ _ fun i hi=>List.mem_range.1 hi
 rw[e]
 simp only[List.foldl_cons,List.foldl_nil,by1]
 rw[List.getElem?_append_right (Nat.le_refl _)]
 simp
theorem firstT_snoc (A:Au) (s:St):firstT (A++[s])=firstT A++[decide (s.status=3)]:=by unfold firstT;rw[List.map_append];rfl
theorem byM_snoc (A:Au) (ms:List Mvr) (s:St) (m:Mvr) (hl:ms.length=A.length) (c:Ck):byM (A++[s]) (ms++[m]) c=if mayT s=true∧fnd c.1.1 (wrM s)=some c.1.2 then some (ptrV m.p) else byM A ms c:=by
 unfold byM
 rw[byF_snoc]
 split
 ·rw [Option.bind_some,←hl,List.getElem?_append_right (Nat.le_refl _)]
  simp
 ·cases h:byF A c.1.1 c.1.2 with
  |none=>rfl
  |some j=>
   rw[Option.bind_some,Option.bind_some,List.getElem?_append_left (by rw[hl];exact byF_lt h)]
end
section
attribute [local irreducible] wpL
theorem mv_Index {v:Value} {l:List Mvr} {B:Nat} (w:World) (h:OwnF Mvr.cells 133 1 w B v l) (hl:l.length≤400) {g:Nat} {lb:Array Value} {p:Mvr→Bool} (eg:∀args w,(callFunc g args).run Tryz.prog w=.ok (.enter g args) w)
  (hp:PredP Tryz.prog g lb (fun m:Mvr=>ptrV m.p) p (· ∈ l) w v.ownBlock):
  Calls Tryz.prog 86 #[v,.func (.func g) #[] lb] w fun e w'=>e=.returned (.int .i64 (idxI p l))∧Below w.heap.size w w':=by
 obtain⟨av,cv,rfl⟩:=OwnF.sli h
 have HH:=hid h
 have HP:=hid hp
 clear h hp
 go_enter Tryz.func86,Tryz.ntmps86
 go_wp2_with fail
 obtain⟨W,rfl⟩:∃W,W=w:=⟨_,rfl⟩
 go_loopw [8] (fun q wr=>∃(k:Nat),k≤l.length∧q=.int .i64 k∧(∀x ∈ l.take k,p x=false)∧Below W.heap.size W wr) (fun q _=>l.length - (intOf q).toNat)
 case atStart=>exact⟨0,by omega,by go_num,by simp,Below.refl _ _⟩
 case round=>
  obtain⟨k,hk,rfl,hn,hb⟩:=hrel
  have HN:=hid hn
  have HB:=hid hb
  have hsz:=hb.size
  clear hn hb
  by_cases hlt:k < l.length
  ·obtain ⟨b,off,d,rfl,hb,hdk,hc⟩:=(OwnF.sl HH.out).atF Mvr.len rfl hlt
   have HDK:=hid hdk
   have hcl:=hid (HP.out wr d (List.mem_of_getElem? hdk) (grownBy.below (grownBy.refl _ _) HB.out))
   obtain⟨mp,mr,mw,mdv⟩:=d
   have c0:wr.cell? ⟨b,off+k,none⟩=some (ptrV mp):=by have:=cell_below HB.out hb (hc 0 (by decide));simpa using this
   unfold ptrV at c0
   have hbw:b < wr.heap.size:=by omega
   clear hc hdk
   obtain⟨r,hr⟩:∃r,p ⟨mp,mr,mw,mdv⟩=r:=⟨_,rfl⟩
   rw[hr] at hcl
   have HR:=hid hr
   clear hr
   go_wp2_with fail
   refine(hcl.out).mono ?_
   rintro e w1 ⟨rfl,b1⟩
   have HB1:=hid (HB.out.trans (b1.mono hsz))
   clear b1 hcl
   cases r with
   |true=>
    go_wp2_with fail
    refine bodyPost_ret (v:=.int .i64 k) (by simp[results,Tryz.results86,go_sem]) rfl ?_
    exact⟨by rw[idx_at HDK.out HR.out HN.out],HB1.out⟩
   |false=>
    go_wp2_with fail
    go_roundw
    case rel=>
     refine⟨k+1,by omega,by go_num,fun x hx=>?_,HB1.out⟩
     rw[List.take_add_one,HDK.out,Option.toList_some] at hx
     rcases List.mem_append.1 hx with hx|hx
     ·exact HN.out x hx
     ·rw [List.mem_singleton.1 hx];exact HR.out
    case measure=>simp[intOf];omega
  ·obtain rfl:k=l.length:=by omega
   have hq:decide ((l.length:Int) < (l.length:Int))=false:=by simp
   go_wp2_with fail
   refine bodyPost_ret (v:=.int .i64 (-1)) (by simp[results,Tryz.results86,go_sem]) rfl ?_
   refine⟨by rw[idx_no fun x hx=>HN.out x (by rw[List.take_length];exact hx)],HB.out⟩
theorem mv_size (w:World):(sizeOf (Tryz.prog.elem 131)).run Tryz.prog w=.ok 1 w:=by kernel_rfl
theorem mv_zero:∃z:Value,(∀w,(zeroValue 133).run Tryz.prog w=.ok z w)∧z.cells.size=1∧∀u ∈ z.cells.toList,u.oneCell'=true:=⟨(.pointer none),fun w=>by kernel_rfl,rfl,by intro u hu;simp[Value.cells] at hu;subst hu;rfl⟩
theorem mv_set {w:World} {B g n c i:Nat} {l:List Mvr} (h:OwnF Mvr.cells 133 1 w B (.slice (some ⟨g,0,none⟩) n c) l) (hi:i < n) (mp mr mw:Nat) (mdv:Value):
  OwnF Mvr.cells 133 1 (w.setCell ⟨g,i,none⟩ (.pointer (some ⟨mp,0,none⟩))) B (.slice (some ⟨g,0,none⟩) n c) (l.set i ⟨mp,mr,mw,mdv⟩):=by
 have hn:=OwnF.len h
 obtain⟨d,hd⟩:∃d,l[i]?=some d:=⟨_,List.getElem?_eq_getElem (by omega)⟩
 have h1:=own_setN h Mvr.len (u:=(⟨mp,mr,mw,mdv⟩:Mvr)) (x:=d) (a:=.pointer (some ⟨mp,0,none⟩)) (j:=0) (by decide) hd rfl
 simpa using h1
theorem mv_Delete {v:Value} {l:List Mvr} {B:Nat} (w:World) (h:OwnF Mvr.cells 133 1 w B v l) (hl:l.length≤400) {g0:Nat} {lb:Array Value} {p:Mvr→Bool} (eg:∀args w,(callFunc g0 args).run Tryz.prog w=.ok (.enter g0 args) w)
  (hp:PredP Tryz.prog g0 lb (fun m:Mvr=>ptrV m.p) p (· ∈ l) w v.ownBlock):
  Calls Tryz.prog 50 #[v,.func (.func g0) #[] lb] w fun e w'=>∃v',e=.returned v'∧OwnF Mvr.cells 133 1 w' B v' (l.filter fun x=>!p x)∧Grw w w' v v':=by
 obtain⟨av,cv,rfl⟩:=OwnF.sli h
 have hix:=mv_Index w h hl eg hp
 rcases idx_cases (p:=p) (l:=l) with⟨e1,e2⟩|⟨k,d,e1,hkl,hkd,hpd,e2⟩
 ·rw [e1] at hix
  have HX:=hid hix
  have HH:=hid h
  have HE:=hid e2
  clear hix h hp e1 e2
  go_enter Tryz.func50,Tryz.ntmps50
  go_wp2_with fail
  refine(HX.out).mono ?_
  rintro e w1 ⟨rfl,b1⟩
  have O1:=hid (OwnF.below HH.out b1)
  have G1:=hid (show Grw w w1 (.slice av l.length cv) (.slice av l.length cv) from⟨grownBy.below (grownBy.refl w _) b1,fun _ h=>.inl h⟩)
  clear b1 HX
  go_wp2_with fail
  go_ret
  exact⟨_,rfl,by rw[HE.out];exact O1.out,G1.out⟩
 ·obtain ⟨g,hgv⟩:∃g,av=some ⟨g,0,none⟩:=by
   rcases OwnF.form h with⟨-,h2⟩|⟨g,cap,h1,-⟩
   ·rw [h2] at hkl;simp at hkl
   ·exact ⟨g,by simp only[Value.slice.injEq] at h1;exact h1.1⟩
  subst hgv
  rw[e1] at hix
  have hgB:=OwnF.lt h g rfl
  have hcap:=OwnF.capD h
  have HX:=hid hix
  have HH:=hid h
  have HE:=hid e2
  have HP:=hid hp
  clear hix h hp e1 e2
  have qk:((k:Int)==-1)=false:=beq_eq_false_iff_ne.2 (by omega)
  go_enter Tryz.func50,Tryz.ntmps50
  go_wp2_with fail
  refine(HX.out).mono ?_
  rintro e w1 ⟨rfl,b1⟩
  have O1:=hid (OwnF.below HH.out b1)
  have G1:=hid (grownBy.below (grownBy.refl w (some g)) b1)
  clear b1 HX
  go_wp2_with fail
  go_loopw [5,6] (fun q r wr=>∃(i j:Nat) (dk:List Mvr),i < j∧j≤l.length∧q=.int .i64 i∧r=.int .i64 j∧dk.length=l.length∧dk.take i=(l.take j).filter (fun x=>!p x)∧dk.drop j=l.drop j∧OwnF Mvr.cells 133 1 wr B (.slice (some ⟨g,0,none⟩) l.length cv) dk∧w.grownBy wr (some g)) (fun _ r _=>l.length - (intOf r).toNat)
  case atStart=>exact⟨k,k+1,l,by omega,by omega,rfl,by first|rfl|go_num,rfl,HE.out.symm,rfl,O1.out,G1.out⟩
  case round=>
   obtain⟨i,j,dk,hij,hj,rfl,rfl,hdl,htk,hdr,ho,hg⟩:=hrel
   have hsz:=hg.size
   have HTK:=hid htk
   have HDR:=hid hdr
   have HO:=hid ho
   have HG:=hid hg
   have HDL:=hid hdl
   clear htk hdr ho hg hdl O1 G1
   by_cases hlt:j < l.length
   ·have hdl2:OwnF Mvr.cells 133 1 wr B (.slice (some ⟨g,0,none⟩) dk.length cv) dk:=by rw[HDL.out];exact HO.out
    obtain⟨b,off,d,hqe,hb,hdk,hc⟩:=(OwnF.sl hdl2).atF Mvr.len rfl (show j < dk.length by rw[HDL.out];exact hlt)
    simp only[Option.some.injEq,Addr.mk.injEq,and_true] at hqe
    obtain⟨rfl,rfl⟩:=hqe
    have hlj:l[j]?=some d:=by rw[←drop_get HDR.out];exact hdk
    have HLJ:=hid hlj
    have HMm:=hid (List.mem_of_getElem? hlj)
    obtain⟨mp,mr,mw,mdv⟩:=d
    have c0:wr.cell? ⟨g,j,none⟩=some (.pointer (some ⟨mp,0,none⟩)):=by have:=hc 0 (by decide);simpa[Mvr.cells,ptrV] using this
    obtain⟨r,hr⟩:∃r,p ⟨mp,mr,mw,mdv⟩=r:=⟨_,rfl⟩
    have HR:=hid hr
    have b3:Below wr.heap.size wr wr:=Below.refl _ _
    have hcl:=HP.out wr ⟨mp,mr,mw,mdv⟩ HMm.out (grownBy.below HG.out b3)
    rw[hr] at hcl
    have HCL:=hid hcl
    have O3:=hid (OwnF.below HO.out b3)
    have G3:=hid (grownBy.below HG.out b3)
    have hsz3:=b3.size
    skip
    clear hcl hr hlj hdk hc hdl2 b3
    go_wp2_with fail
    refine(HCL.out).mono ?_
    rintro e W4 ⟨rfl,b4⟩
    have O4:=hid (OwnF.below O3.out b4)
    have G4:=hid (grownBy.below G3.out b4)
    have hsz4:=b4.size
    skip
    clear b4 HCL
    cases r with
    |true=>
     go_wp2_with fail
     go_roundw
     case rel=>
      refine⟨i,j+1,dk,by omega,by omega,rfl,by go_num,HDL.out,by rw[filt_yes HLJ.out HR.out];exact HTK.out,?_,O4.out,G4.out⟩
      have:=congrArg (List.drop 1) HDR.out
      simpa[List.drop_drop] using this
     case measure=>simp[intOf];omega
    |false=>
     have hdl4:OwnF Mvr.cells 133 1 W4 B (.slice (some ⟨g,0,none⟩) dk.length cv) dk:=by rw[HDL.out];exact O4.out
     obtain⟨b',off',d',hqe,hb',hdk',hx⟩:=(OwnF.sl hdl4).atF Mvr.len rfl (show i < dk.length by rw[HDL.out];omega)
     simp only[Option.some.injEq,Addr.mk.injEq,and_true] at hqe
     obtain⟨rfl,rfl⟩:=hqe
     have x0:=hx 0 (by decide)
     simp[Mvr.cells,ptrV] at x0
     obtain⟨csG,hcsG⟩:=OwnF.objD O4.out
     have hgl:=row_lt hcsG
     have zf:=fun o=>row_free hcsG o
     have OS:=hid (mv_set O4.out (show i < l.length by omega) mp mr mw mdv)
     clear hx hdk' hdl4 hcsG
     go_wp2_with fail
     go_roundw
     case rel=>
      refine⟨i+1,j+1,dk.set i ⟨mp,mr,mw,mdv⟩,by omega,by omega,by go_num,by go_num,by rw[List.length_set];exact HDL.out,?_,?_,OS.out,grownBy.set (G4.out)⟩
      ·rw [set_take (by rw[HDL.out];omega),filt_no HLJ.out HR.out,HTK.out]
      ·rw [set_drop (by omega)]
       have:=congrArg (List.drop 1) HDR.out
       simpa[List.drop_drop] using this
     case measure=>simp[intOf];omega
   ·obtain rfl:j=l.length:=by omega
    have hq:decide ((l.length:Int) < (l.length:Int))=false:=by simp
    have HT:=hid (show dk.take i=l.filter fun x=>!p x by rw[HTK.out,List.take_length])
    have OT:=hid (OwnF.takeF HO.out Mvr.len (show i≤l.length by omega))
    obtain⟨csG,hcsG⟩:=OwnF.objD HO.out
    have hgl:=row_lt hcsG
    obtain⟨z,hz1,hz2,hz3⟩:=mv_zero
    have HF:=hid (fun o=>row_free hcsG o)
    have HC:=hid (OwnF.cellsAt HO.out HDL.out Mvr.len)
    obtain⟨vs,hclr⟩:=run_clear_st wr 131 133 z 1 Tryz.underlying131 hz1 hz2 hz3 g (i*1) (l.length - i) (cv - i) (by omega) (fun t ht=>HC.out (i*1+t) (by have:(l.length - i)*1=l.length*1 - i*1:=Nat.sub_mul .. ;omega)) (fun t ht=>HF.out _)
    have hslA:∀X:World,(Instr.slice 131 (.slice (some ⟨g,0,none⟩) l.length cv) (some (.int .i64 (i:Int))) none none).run Tryz.prog X=.ok (.slice (some ⟨g,i*1,none⟩) (l.length - i) (cv - i)) X:=fun X=>by
     rw[run_slice_l X _ _ _ _ Tryz.underlying131 _ _ (by omega) (by omega),mv_size]
     simp only[Result.andThen,sliced,Int.toNat_natCast]
     congr 2
     rw[if_neg (by omega)]
     first|(simp[Addr.add];done)|(simp[Addr.add];intro h;omega)
    have hslB:∀X:World,(Instr.slice 131 (.slice (some ⟨g,0,none⟩) l.length cv) none (some (.int .i64 (i:Int))) none).run Tryz.prog X=.ok (.slice (some ⟨g,0,none⟩) i cv) X:=fun X=>by
     rw[run_slice_h X _ _ _ _ Tryz.underlying131 _ _ (by omega) (by omega),mv_size]
     simp only[Result.andThen,sliced,Int.toNat_natCast,Nat.sub_zero]
     congr 2
     split
     ·rfl
     ·simp [Addr.add]
    have OB:=hid (OwnF.behind Mvr.len vs (i*1) OT.out (Nat.le_refl _))
    have GB:=hid (grownBy.sets vs (i*1) HG.out)
    have hclr:=hclr
    simp only[Nat.mul_one] at hclr
    have OB:=hid (by have:=OB.out;simpa only[Nat.mul_one] using this)
    have GB:=hid (by have:=GB.out;simpa only[Nat.mul_one] using this)
    clear hcsG hz1 hz3
    go_wp2_with fail
    go_ret
    refine⟨_,rfl,by rw[←HT.out];have:=OB.out;exact this,⟨GB.out,fun k hk=>.inl hk⟩⟩
end
