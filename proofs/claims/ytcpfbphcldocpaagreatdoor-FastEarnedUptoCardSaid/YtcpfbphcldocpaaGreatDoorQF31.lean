/- Parts of the proof, merged by program out of 3 texts (FeB, FtN, FtO): the first: What the fast way says is earned: plain lists. Conditions: those of each theorem, as typed. -/
import Derived.Test.YtcpfbphcldocpaaGreatDoorQF06
import Derived.Test.YtcpfbphcldocpaaGreatDoorQF27
import Derived.Test.YtcpfbphcldocpaaGreatDoorQF30
import Derived.Test.YtcpfbphcldocpaaGreatDoorQF17
import Derived.Test.YtcpfbphcldocpaaGreatDoorQF29
import Derived.Test.YtcpfbphcldocpaaGreatDoorQF21
import Derived.Test.YtcpfbphcldocpaaGreatDoorQF22
set_option linter.unusedVariables false
set_option linter.unusedSimpArgs false
set_option linter.unusedSectionVars false
set_option maxRecDepth 100000
set_option maxHeartbeats 4000000
namespace Go.Proofs.YtcpfbphcldocpaaGreatDoor
open Go.Maps Go.RowKit
def explL (inits:List Int) (A:Au) (T:List Bool) (i:Nat) (s:St) (k:Nat):Bool:=match s.deeds[k]? with
 |none=>true
 |some d=>if d.op≠1∨d.ret≠3 then true else match lastW (s.deeds.take k) d.obj with
  |some v=>decide (v=d.got)
  |none=>if (readsF [] (s.deeds.take k)).any (fun r=>decide (r.obj=d.obj∧r.got≠d.got)) then false
   else if d.got=inits.getD d.obj.toNat 0 then true
   else(List.range A.length).any fun j=>T.getD j false&&decide (j≠i)&&(match A[j]? with
    |some t=>lastW t.deeds d.obj==some d.got
    |none=>false)
structure DeedsOk (s:St):Prop where
 op:∀d ∈ s.deeds,d.op=1∨d.op=2
 ret:∀d ∈ s.deeds,d.ret=0∨d.op=2∧d.ret=1∨d.op=1∧d.ret=3
 full:∀(j k:Nat) (d e:Dd),j < k→s.deeds[j]?=some d→s.deeds[k]?=some e→d.ret≠0
section
variable {inits:List Int} {A:Au} {T:List Bool} {i:Nat} {rd:Mi}
def ownF (own:Mi) (l:List Dd):Mi:=l.foldl (fun m d=>if d.op=2 then upd d.obj d.val m else m) own
theorem own_last {o:Int}:∀{l:List Dd} {own:Mi},KSrt own→fnd o (ownF own l)=l.foldl (fun r d=>if d.op=2∧d.obj=o then some d.val else r) (fnd o own)
 |[],own,_=>rfl
 |d::l,own,h=>by
  unfold ownF
  rw[List.foldl_cons,List.foldl_cons]
  by_cases e:d.op=2
  ·rw [if_pos e]
   have:=own_last (o:=o) (l:=l) (srt_upd (a:=d.obj) (v:=d.val) h)
   unfold ownF at this
   rw[this]
   by_cases e2:d.obj=o
   ·rw [if_pos ⟨e,e2⟩,e2,fnd_upd_same h]
   ·rw [if_neg (fun h=>e2 h.2),fnd_upd_other h fun h=>e2 h.symm]
  ·rw [if_neg e,if_neg (fun h=>e h.1)]
   have:=own_last (o:=o) (l:=l) h
   unfold ownF at this
   exact this
def fromB (A:Au) (T:List Bool) (i:Nat) (o v:Int):Bool:=match byF A o v with
 |some j=>decide (j≠i)&&T.getD j false
 |none=>false
theorem expl_at:∀{l:List Dd} {m k:Nat} {own:Mi},explF inits A T i rd m own l=some k→∃l1 d l2,l=l1++d::l2∧k=m+l1.length∧d.op≠2∧d.ret≠0∧
  ((∃v,fnd d.obj (ownF own l1)=some v∧d.got≠v)∨(fnd d.obj (ownF own l1)=none∧¬(d.got=(fnd d.obj rd).getD 0∧(d.got=inits.getD d.obj.toNat 0∨fromB A T i d.obj d.got=true))))
 |[],m,k,own,h=>by simp[explF] at h
 |d::l,m,k,own,h=>by
  have more:∀{own':Mi},ownF own [d]=own'→explF inits A T i rd (m+1) own' l=some k→∃l1 e l2,d::l=l1++e::l2∧k=m+l1.length∧e.op≠2∧e.ret≠0∧
    ((∃v,fnd e.obj (ownF own l1)=some v∧e.got≠v)∨(fnd e.obj (ownF own l1)=none∧¬(e.got=(fnd e.obj rd).getD 0∧(e.got=inits.getD e.obj.toNat 0∨fromB A T i e.obj e.got=true)))):=by
   intro own' ho h
   obtain⟨l1,e,l2,h1,h2,h3,h4,h5⟩:=expl_at h
   refine⟨d::l1,e,l2,by rw[h1];rfl,by rw[h2,List.length_cons];omega,h3,h4,?_⟩
   have:ownF own (d::l1)=ownF own' l1:=by rw[←ho];rfl
   rw[this]
   exact h5
  rw[explF] at h
  split at h
  ·rename_i e
   exact more (by simp[ownF,e]) h
  ·rename_i e
   split at h
   ·exact more (by simp[ownF,e]) h
   ·rename_i e2
    split at h
    ·rename_i v hv
     split at h
     ·exact more (by simp[ownF,e]) h
     ·rename_i hne
      exact⟨[],d,l,rfl,by simpa using(Option.some.inj h).symm,e,e2,.inl ⟨v,hv,hne⟩⟩
    ·rename_i hv
     have h:(if d.got=(fnd d.obj rd).getD 0∧(d.got=inits.getD d.obj.toNat 0∨fromB A T i d.obj d.got=true) then explF inits A T i rd (m+1) own l else some m)=some k:=h
     by_cases hc:d.got=(fnd d.obj rd).getD 0∧(d.got=inits.getD d.obj.toNat 0∨fromB A T i d.obj d.got=true)
     ·rw [if_pos hc] at h
      exact more (by simp[ownF,e]) h
     ·rw [if_neg hc] at h
      exact⟨[],d,l,rfl,by simpa using(Option.some.inj h).symm,e,e2,.inr ⟨hv,hc⟩⟩
theorem earned_read {os:List Ob} (hp:premA os [] A=true) (hm:MayF A T) {s:St} (hs:A[i]?=some s) (hd:DeedsOk s) {k:Nat} (h:explF inits A T i (rdM s) 0 [] s.deeds=some k):k < s.deeds.length∧explL inits A T i s k=false:=by
 obtain⟨l1,d,l2,hl,hk,hop,hret,hc⟩:=expl_at h
 rw[Nat.zero_add] at hk
 have hk':s.deeds[k]?=some d:=by rw[hl,hk];simp
 have hkl:=(List.getElem?_eq_some_iff.1 hk').1
 refine⟨hkl,?_⟩
 have hdm:=List.mem_of_getElem? hk'
 have ho1:d.op=1:=(hd.op d hdm).resolve_right hop
 have hr3:d.ret=3:=by
  rcases hd.ret d hdm with h|h|h
  ·exact absurd h hret
  ·omega
  ·exact h.2
 have htk:s.deeds.take k=l1:=by rw[hl,hk];simp
 have hfull:∀x ∈ l1,x.ret≠0:=by
  intro x hx
  obtain⟨j,hj⟩:=List.mem_iff_getElem?.1 hx
  have hjl:=(List.getElem?_eq_some_iff.1 hj).1
  exact hd.full j k x d (by omega) (by rw[hl,List.getElem?_append_left hjl];exact hj) hk'
 have hmem:∀x ∈ l1,x ∈ s.deeds:=fun x hx=>by rw[hl];exact List.mem_append_left _ hx
 have hw1:∀x ∈ l1,x.op=2→x.ret=1:=fun x hx e=>by
  rcases hd.ret x (hmem x hx) with h|h|h
  ·exact absurd h (hfull x hx)
  ·exact h.2
  ·omega
 have hown:fnd d.obj (ownF [] l1)=lwA l1 d.obj:=own_last List.Pairwise.nil
 have hlw:lastW l1 d.obj=lwA l1 d.obj:=by rw[lastW_eq,lw_full hw1]
 rw[hown] at hc
 unfold explL
 rw[hk']
 simp only
 rw[if_neg (by omega),htk,hlw]
 rcases hc with⟨v,hv,hne⟩|⟨hv,hne⟩
 ·rw [hv]
  simp only
  simpa using fun e=>hne e.symm
 ·rw [hv]
  simp only
  split
  ·rfl
  ·rename_i hrd
   have hrd:∀r ∈ readsF [] l1,r.obj=d.obj→r.got=d.got:=by
    intro r hr e
    apply Classical.byContradiction
    intro hne
    exact hrd (List.any_eq_true.2 ⟨r,hr,by simpa using⟨e,hne⟩⟩)
   have hfr:=rd_first hl (by simp[isRead,ho1,hr3]) (lwA_none hv) hrd
   rw[hfr] at hne
   simp only[Option.getD_some,true_and,not_or] at hne
   rw[if_neg hne.1]
   rw[List.any_eq_false]
   intro j hj
   simp only[Bool.and_eq_true,decide_eq_true_eq,not_and]
   intro hq hw
   obtain⟨hT,hji⟩:=hq
   obtain⟨t,ht,hmt⟩:=hm j hT
   rw[ht] at hw
   simp only[beq_iff_eq] at hw
   rw[lastW_eq,←fnd_wrM] at hw
   have hby:=by_taken hp (⟨t,ht,hmt,hw⟩:Wrs A d.obj d.got j)
   apply hne.2
   unfold fromB
   rw[hby]
   show(decide (j≠i)&&T.getD j false)=true
   rw[hT]
   simp[hji]
theorem earned_circle {lev:Int} (hids:(A.map (·.id)).Nodup) {c:List Int} (hn:topoF (prs (graphF lev A T).2) (graphF lev A T).1=none) (hc:IsCyc (prs (graphF lev A T).2) (graphF lev A T).1 c):
  2≤c.length∧∀(k:Nat) (x y:Int),c[k]?=some x→c[(k+1) % c.length]?=some y→kindsOf (graphF lev A T).2 x y≠[]:=by
 have hok:=graph_ok (lev:=lev) (A:=A) (T:=T)
 have hend:∀a b,(a,b) ∈ prs (graphF lev A T).2→a ∈ (graphF lev A T).1∧b ∈ (graphF lev A T).1:=fun a b h=>by
  obtain⟨k,hk⟩:=mem_prs.1 h
  exact hok.ends _ hk
 rcases hc.ring hend with rfl|hr
 ·exfalso
  obtain⟨k,hk,ht⟩:=(topo_none hok.srtN fun a b h=>(hend a b h).1).1 hn
  rcases hc with⟨-,h⟩|⟨k,n,l,h1,h2,h3,h4,h5⟩
  ·exact h k hk ht
  ·cases h5
 ·have hk:∀(k:Nat) (x y:Int),c[k]?=some x→c[(k+1) % c.length]?=some y→kindsOf (graphF lev A T).2 x y≠[]:=fun k x y hx hy=>by
   have:=hr.next k x y hx hy
   intro e
   exact kinds_zero.1 (by rw[e];rfl) this
  refine⟨?_,hk⟩
  obtain⟨x,r,hxr⟩:=hr.head
  cases r with
  |cons y r=>rw[hxr];simp
  |nil=>
   exfalso
   subst hxr
   have:=hr.next 0 x x rfl (by simp)
   obtain⟨q,hq⟩:=mem_prs.1 this
   obtain⟨i,j,k,a,b,ha,hb,-,-,hne,-,-,he⟩:=graph_mem.1 hq
   simp only[Prod.mk.injEq] at he
   apply hne
   have hi:=(List.getElem?_eq_some_iff.1 ha).1
   have hj:=(List.getElem?_eq_some_iff.1 hb).1
   refine(List.getElem?_inj (by simpa using hi) hids).1 ?_
   rw[List.getElem?_map,List.getElem?_map,ha,hb]
   simp only[Option.map_some,Option.some.injEq]
   rw[←he.1,←he.2.1]
end
theorem earned_cases {lev:Int} {inits:List Int} {A:Au} {a:FAn} (h:JudgeIs lev inits A a):(a.kind=1∧a.cyc=[]∧a.tx=0∧a.pre=0)∨
  (a.kind=3∧topoF (prs (graphF lev A (takenF lev A)).2) (graphF lev A (takenF lev A)).1=none∧IsCyc (prs (graphF lev A (takenF lev A)).2) (graphF lev A (takenF lev A)).1 a.cyc)∨
  (a.kind=2∧∃(i k:Nat) (s:St),A[i]?=some s∧a.tx=s.id∧a.deed=k∧explF inits A (takenF lev A) i (rdM s) 0 [] s.deeds=some k):=by
 unfold JudgeIs at h
 cases hb:badF lev inits A (takenF lev A) with
 |some p=>
  rw[hb] at h
  obtain⟨x,k⟩:=p
  simp only at h
  subst h
  refine .inr (.inr ⟨rfl,?_⟩)
  unfold badF at hb
  obtain⟨i,hi,hb⟩:=List.exists_of_findSome?_eq_some hb
  unfold bad1 at hb
  cases hs:A[i]? with
  |none=>rw[hs] at hb;cases hb
  |some s=>
   rw[hs] at hb
   simp only at hb
   split at hb
   ·obtain ⟨k',hk',e⟩:=Option.map_eq_some_iff.1 hb
    simp only[Prod.mk.injEq] at e
    obtain⟨rfl,rfl⟩:=e
    exact⟨i,k',s,hs,rfl,rfl,hk'⟩
   ·cases hb
 |none=>
  rw[hb] at h
  simp only at h
  cases ht:topoF (prs (graphF lev A (takenF lev A)).2) (graphF lev A (takenF lev A)).1 with
  |some ord=>
   rw[ht] at h
   simp only at h
   subst h
   exact .inl ⟨rfl,rfl,rfl,rfl⟩
  |none=>
   rw[ht] at h
   obtain⟨c,hc,rfl⟩:=h
   exact .inr (.inl ⟨rfl,rfl,hc⟩)
theorem fed_drop:∀{l:List Ev} {A:Au},Fed l A→∀s ∈ A,∀d ∈ s.deeds.dropLast,d.ret≠0:=by
 intro l A h
 induction h with
 |nil=>intro s hs;cases hs
 |@snoc l A A' e h hf ih=>
  cases hf with
  |begin hk hi hb=>
   intro s hs
   rcases List.mem_append.1 hs with hs|hs
   ·exact ih s hs
   ·obtain rfl:s=newSt e l.length:=by simpa using hs
    intro d hd
    simp[newSt] at hd
  |move k s s' hk hs hi hm=>
   have hF:=fed_full h s (List.mem_of_getElem? hs)
   have hI:=ih s (List.mem_of_getElem? hs)
   intro x hx
   obtain⟨j,hj⟩:=List.mem_iff_getElem?.1 hx
   rcases get_set hj with⟨-,rfl⟩|⟨-,hj⟩
   ·unfold moveSt at hm
    split at hm
    ·split at hm
     ·rename_i h1
      cases hm
      simp only[List.dropLast_concat]
      exact hF.1 (.inl h1)
     ·cases hm
    ·split at hm
     ·split at hm
      ·split at hm
       ·split at hm
        ·cases hm
         simp only[List.dropLast_concat]
         exact hI
        ·cases hm
       ·cases hm
      ·cases hm
     ·split at hm
      ·split at hm
       ·cases hm;exact hI
       ·cases hm
      ·split at hm
       ·split at hm
        ·cases hm;exact hI
        ·cases hm
       ·split at hm
        ·split at hm
         ·cases hm;exact hI
         ·cases hm
        ·split at hm
         ·split at hm
          ·cases hm;exact hI
          ·cases hm
         ·cases hm
   ·exact ih x (List.mem_of_getElem? hj)
section
attribute [local irreducible] wpL
theorem find_take {α:Type} {p:α→Bool}:∀{l:List α} {k:Nat} {a:α},l[k]?=some a→(l.take k).find? p=none→l.find? p=if p a then some a else(l.drop (k+1)).find? p
 |[],_,_,h,_=>by cases h
 |x::l,0,a,h,_=>by
  obtain rfl:=Option.some.inj h
  simp only[List.find?_cons,Nat.zero_add,List.drop_succ_cons,List.drop_zero]
  cases p x <;> simp
 |x::l,k+1,a,h,hn=>by
  rw[List.take_succ_cons,List.find?_cons] at hn
  cases hx:p x with
  |true=>rw[hx] at hn;cases hn
  |false=>
   rw[hx] at hn
   rw[List.find?_cons,hx,List.drop_succ_cons]
   exact find_take (by simpa using h) hn
theorem find_take_snoc {α:Type} {p:α→Bool} {l:List α} {k:Nat} {a:α} (h:l[k]?=some a) (hn:(l.take k).find? p=none) (ha:p a=false):(l.take (k+1)).find? p=none:=by
 rw[List.take_add_one,h,List.find?_append,hn]
 simp[ha]
theorem p_Last (i th st be fi tr o:Int) (dv:Value) (l:List Dd) (w:World) (hd:Sl w w.heap.size 8 dv l.length (l.flatMap Dd.cells)) (hl:l.length≤400):
  Calls Tryz.prog 41 #[.agg #[.int .i64 i,.int .i64 th,.int .i64 st,.int .i64 be,.int .i64 fi,.int .i64 tr,dv],.int .i64 o] w fun e w'=>e=.returned (.tuple #[.int .i64 ((lastW l o).getD 0),.bool (lastW l o).isSome])∧Below w.heap.size w w':=by
 obtain⟨ad,cd,rfl,md⟩:=hd.ex
 have b0:Below w.heap.size w (w.alloc (.cells #[.int .i64 i,.int .i64 th,.int .i64 st,.int .i64 be,.int .i64 fi,.int .i64 tr,.slice ad l.length cd] 49)):=(Below.refl _ w).alloc (Nat.le_refl _) _
 have PC:=hid (p_Writes i th st be fi tr _ l _ ((hd.below b0).more b0.size) hl)
 have B0:=hid b0
 have hz0:=b0.size
 clear hd md b0
 go_enter Tryz.func41,Tryz.ntmps41
 go_wp2_with fail
 generalize w.alloc (.cells #[.int .i64 i,.int .i64 th,.int .i64 st,.int .i64 be,.int .i64 fi,.int .i64 tr,.slice ad l.length cd] 49)=W0 at *
 refine PC.out.mono ?_
 rintro e W1 ⟨v,rfl,hv,b1⟩
 obtain⟨X,hX⟩:∃X,writesF l=X:=⟨_,rfl⟩
 rw[hX] at hv
 have HX:=hid hX
 have hxl:X.length≤400:=by rw[←hX];exact Nat.le_trans (writesF_len l) hl
 obtain⟨av,cv,rfl⟩:=OwnF.sli hv
 have HV:=hid hv
 have B1:=hid (B0.out.trans (b1.mono hz0))
 have hz1:=b1.size
 clear hv b1 hX
 go_wp2_with fail
 go_loopw [11] (fun q wr=>∃(k:Nat),k≤X.length∧q=.int .i64 k∧(X.take k).find? (fun d=>d.obj==o)=none∧Below W1.heap.size W1 wr) (fun q _=>X.length - (intOf q).toNat)
 case atStart=>exact⟨0,by omega,by go_num,rfl,Below.refl _ _⟩
 case round=>
  obtain⟨k,hk,rfl,hn,hB⟩:=hrel
  have HB:=hid hB
  have HN:=hid hn
  have hwz:=hB.size
  clear hB hn
  by_cases hlt:k < X.length
  ·obtain ⟨bl,ol,d,hqe,hbl,hdk,hcl⟩:=(OwnF.sl HV.out).atF Dd.len rfl hlt
   subst hqe
   obtain⟨ob,op,ke,va,re,go,at_,ba⟩:=d
   have HDK:=hid hdk
   have c0:wr.cell? ⟨bl,ol+k*8,none⟩=some (.int .i64 ob):=cell_below HB.out hbl (hcl 0 (by decide))
   have c1:wr.cell? ⟨bl,ol+k*8+1,none⟩=some (.int .i64 op):=cell_below HB.out hbl (hcl 1 (by decide))
   have c2:wr.cell? ⟨bl,ol+k*8+2,none⟩=some (.int .i64 ke):=cell_below HB.out hbl (hcl 2 (by decide))
   have c3:wr.cell? ⟨bl,ol+k*8+3,none⟩=some (.int .i64 va):=cell_below HB.out hbl (hcl 3 (by decide))
   have c4:wr.cell? ⟨bl,ol+k*8+4,none⟩=some (.int .i64 re):=cell_below HB.out hbl (hcl 4 (by decide))
   have c5:wr.cell? ⟨bl,ol+k*8+5,none⟩=some (.int .i64 go):=cell_below HB.out hbl (hcl 5 (by decide))
   have c6:wr.cell? ⟨bl,ol+k*8+6,none⟩=some (.int .i64 at_):=cell_below HB.out hbl (hcl 6 (by decide))
   have c7:wr.cell? ⟨bl,ol+k*8+7,none⟩=some (.int .i64 ba):=cell_below HB.out hbl (hcl 7 (by decide))
   have hbw:bl < wr.heap.size:=by omega
   have B3:=hid (HB.out.trans (((Below.refl wr.heap.size wr).alloc (Nat.le_refl _) (.cells #[.int .i64 ob,.int .i64 op,.int .i64 ke,.int .i64 va,.int .i64 re,.int .i64 go,.int .i64 at_,.int .i64 ba] 112)).mono hwz))
   clear hcl hdk
   by_cases he:ob=o
   ·subst he
    go_wp2_with fail
    generalize wr.alloc (.cells #[.int .i64 ob,.int .i64 op,.int .i64 ke,.int .i64 va,.int .i64 re,.int .i64 go,.int .i64 at_,.int .i64 ba] 112)=W3 at *
    have e:lastW l ob=some va:=by unfold lastW;rw[HX.out,find_take HDK.out HN.out];simp
    refine bodyPost_ret (v:=.tuple #[.int .i64 va,.bool true]) (by simp[results,Tryz.results41,go_sem]) rfl ⟨by rw[e];rfl,B1.out.trans (B3.out.mono B1.out.size)⟩
   ·have q:(ob==o)=false:=by simpa using he
    have HNE:=hid he
    go_wp2_with fail
    generalize wr.alloc (.cells #[.int .i64 ob,.int .i64 op,.int .i64 ke,.int .i64 va,.int .i64 re,.int .i64 go,.int .i64 at_,.int .i64 ba] 112)=W3 at *
    go_roundw
    case rel=>exact⟨k+1,by omega,by go_num,find_take_snoc HDK.out HN.out (by simpa using HNE.out),B3.out⟩
    case measure=>simp[intOf];omega
  ·obtain rfl:k=X.length:=by omega
   have hq:decide ((X.length:Int) < (X.length:Int))=false:=by simp
   go_wp2_with fail
   have e:lastW l o=none:=by unfold lastW;have:=HN.out;rw[List.take_length] at this;rw[HX.out,this];rfl
   exact bodyPost_ret (v:=.tuple #[.int .i64 0,.bool false]) (by simp[results,Tryz.results41,go_sem]) rfl ⟨by rw[e];rfl,B1.out.trans (HB.out.mono B1.out.size)⟩
end
section
attribute [local irreducible] wpL
theorem mem_takenIds {A:Au} {T:List Bool} {k:Nat} {x:Int}:x ∈ takenIds A T k↔∃j s,j < k∧A[j]?=some s∧T.getD j false=true∧s.id=x:=by
 unfold takenIds
 rw[List.mem_filterMap]
 constructor
 ·rintro ⟨j,hj,h⟩
  have hj:=List.mem_range.1 hj
  cases e:A[j]? with
  |none=>rw[e] at h;cases h
  |some s=>
   rw[e] at h
   simp only at h
   split at h
   ·rename_i ht
    exact⟨j,s,hj,e,ht,Option.some.inj h⟩
   ·cases h
 ·rintro ⟨j,s,hj,e,ht,rfl⟩
  exact⟨j,List.mem_range.2 hj,by rw[e];simp only;rw[if_pos ht]⟩
theorem id_inj {A:Au} (hnd:(A.map (·.id)).Nodup) {i j:Nat} {s t:St} (hi:A[i]?=some s) (hj:A[j]?=some t) (e:s.id=t.id):i=j:=by
 have h2:(A.map (·.id))[i]?=(A.map (·.id))[j]?:=by rw[List.getElem?_map,List.getElem?_map,hi,hj];simp[e]
 exact(List.getElem?_inj (by have:=(List.getElem?_eq_some_iff.1 hi).1;simpa using this) hnd (j:=j)).1 h2
theorem sizeDd (w:World):(sizeOf (Tryz.prog.elem 47)).run Tryz.prog w=.ok 8 w:=by kernel_rfl
section
variable {w:World} {ov vv tv:Value} {os:List Ob} {r:Option Au} {A:Au} {lev:Int} {B i k:Nat} {s:St}
theorem w_explained (h:HisT w ov vv os r) (e:premR os r=some A) (hl:lev=1∨lev=2∨lev=3) (ht:TxsAt w B tv A) (hi:A[i]?=some s) (hk:k < s.deeds.length) (hnd:(A.map (·.id)).Nodup):
  Calls Tryz.prog 15 #[.agg #[ov,vv],.int .i64 lev,tv,.int .i64 i,.int .i64 k] w fun e w'=>e=.returned (.bool (explL (os.map (·.init)) A (takenF lev A) i s k))∧Below w.heap.size w w':=by
 obtain⟨ao,co,hov,-⟩:=h.ho.ex
 obtain⟨av,nv,cv,hvv⟩:=h.hvv
 have HD:=hid (h.hD A (premR_some e).1)
 have HH:=hid h
 have HE:=hid e
 have HL:=hid hl
 have HT:=hid ht
 have HND:=hid hnd
 have HI:=hid hi
 subst hov hvv
 obtain⟨rs,hv,hvl,hvc⟩:=ht
 obtain⟨at_,ct,rfl⟩:=OwnF.slv hv
 have hil:=(List.getElem?_eq_some_iff.1 hi).1
 have HVL:=hid hvl
 have hir:i < rs.length:=by omega
 have hal:rs.length≤400:=by have:=HD.out.len;omega
 have hsm:=List.mem_of_getElem? hi
 have hdl:=HD.out.dl s hsm
 obtain⟨bt,ot,rr,hqe,hbt,hrr,hct⟩:=(OwnF.sl hv).atF TxR.len rfl (show i < rs.length by omega)
 subst hqe
 obtain⟨-,hdv⟩:=hvc i rr s hrr hi
 obtain⟨ad,cd,hdq⟩:=OwnF.slv hdv
 rw[hdq] at hdv
 have t6:w.cell? ⟨bt,ot+i*7+6,none⟩=some (.slice ad s.deeds.length cd):=by have:=hct 6 (by decide);rw[←hdq];exact this
 obtain⟨bd,od,d,hqd,hbd,hdk,hcd⟩:=(OwnF.sl hdv).atF Dd.len rfl hk
 subst hqd
 have hcap:=OwnF.cap hdv
 have HDV:=hid hdv
 have HDK:=hid hdk
 obtain⟨obi,op,ke,va,re,go,at9,ba⟩:=d
 have hob:=HD.out.obj s hsm _ (List.mem_of_getElem? hdk)
 simp only at hob
 obtain⟨ob,hobn⟩:∃ob:Nat,obi=(ob:Int):=⟨obi.toNat,by omega⟩
 subst hobn
 have hobl:ob < os.length:=by omega
 clear hob
 have c0:w.cell? ⟨bd,od+k*8,none⟩=some (.int .i64 ob):=hcd 0 (by decide)
 have c1:w.cell? ⟨bd,od+k*8+1,none⟩=some (.int .i64 op):=hcd 1 (by decide)
 have c2:w.cell? ⟨bd,od+k*8+2,none⟩=some (.int .i64 ke):=hcd 2 (by decide)
 have c3:w.cell? ⟨bd,od+k*8+3,none⟩=some (.int .i64 va):=hcd 3 (by decide)
 have c4:w.cell? ⟨bd,od+k*8+4,none⟩=some (.int .i64 re):=hcd 4 (by decide)
 have c5:w.cell? ⟨bd,od+k*8+5,none⟩=some (.int .i64 go):=hcd 5 (by decide)
 have c6:w.cell? ⟨bd,od+k*8+6,none⟩=some (.int .i64 at9):=hcd 6 (by decide)
 have c7:w.cell? ⟨bd,od+k*8+7,none⟩=some (.int .i64 ba):=hcd 7 (by decide)
 have HEX:=hid (show explL (os.map (·.init)) A (takenF lev A) i s k=(if op≠1∨re≠3 then true else match lastW (s.deeds.take k) ob with
  |some v=>decide (v=go)
  |none=>if (readsF [] (s.deeds.take k)).any (fun r=>decide (r.obj=ob∧r.got≠go)) then false
   else if go=(os.map (·.init)).getD ob 0 then true
   else(List.range A.length).any fun j=>(takenF lev A).getD j false&&decide (j≠i)&&(match A[j]? with
    |some t=>lastW t.deeds ob==some go
    |none=>false)) by unfold explL;rw[HDK.out];rfl)
 clear h e hl hnd hi hv hvl hvc hrr hct hdv hdq hcd hdk hsm
 have b0:Below w.heap.size w ((w.alloc (.cells #[.slice ao os.length co,.slice av nv cv] 25)).alloc (.cells #[.int .i64 ob,.int .i64 op,.int .i64 ke,.int .i64 va,.int .i64 re,.int .i64 go,.int .i64 at9,.int .i64 ba] 112)):=((Below.refl _ w).alloc (Nat.le_refl _) _).alloc (by simp) _
 have B0:=hid b0
 have rD:=row_new (w.alloc (.cells #[.slice ao os.length co,.slice av nv cv] 25)) (.cells #[.int .i64 ob,.int .i64 op,.int .i64 ke,.int .i64 va,.int .i64 re,.int .i64 go,.int .i64 at9,.int .i64 ba] 112)
 have rH:=row_old (o:=(.cells #[.int .i64 ob,.int .i64 op,.int .i64 ke,.int .i64 va,.int .i64 re,.int .i64 go,.int .i64 at9,.int .i64 ba] 112)) (row_new w (.cells #[.slice ao os.length co,.slice av nv cv] 25))
 by_cases h1:op≠1∨re≠3
 ·have HX:=hid h1
  have hb:(op !=1)=true∨(op !=1)=false∧(re !=3)=true:=by
   by_cases e1:op=1
   ·right;subst e1;exact⟨by simp,by simpa using h1.resolve_left (by simp)⟩
   ·left;simpa using e1
  clear h1 b0 rD rH
  rcases hb with hb|⟨hb,hb2⟩
  ·
   go_enter Tryz.func15,Tryz.ntmps15
   go_wp2_with fail
   exact bodyPost_ret (v:=.bool true) (by simp[results,Tryz.results15,go_sem]) rfl ⟨by rw[HEX.out,if_pos HX.out],B0.out⟩
  ·
   go_enter Tryz.func15,Tryz.ntmps15
   go_wp2_with fail
   exact bodyPost_ret (v:=.bool true) (by simp[results,Tryz.results15,go_sem]) rfl ⟨by rw[HEX.out,if_pos HX.out],B0.out⟩
 ·have HX:=hid h1
  obtain⟨rfl,rfl⟩:op=1∧re=3:=by
   by_cases e1:op=1
   ·by_cases e2:re=3
    ·exact ⟨e1,e2⟩
    ·exact absurd (.inr e2) h1
   ·exact absurd (.inl e1) h1
  have hsl:∀X:World,(Instr.slice 47 (.slice (some ⟨bd,od,none⟩) s.deeds.length cd) none (some (.int .i64 (k:Int))) none).run Tryz.prog X=.ok (.slice (some ⟨bd,od,none⟩) k cd) X:=fun X=>by
   rw[run_slice_h X _ _ _ _ Tryz.underlying47 _ _ (by omega) (by omega),sizeDd]
   simp[Result.andThen,sliced,Addr.add]
  clear h1
  go_enter Tryz.func15,Tryz.ntmps15
  go_wp2_with fail
  have b1:Below w.heap.size w (((w.alloc (.cells #[.slice ao os.length co,.slice av nv cv] 25)).alloc (.cells #[.int .i64 ob,.int .i64 1,.int .i64 ke,.int .i64 va,.int .i64 3,.int .i64 go,.int .i64 at9,.int .i64 ba] 112)).alloc (.cells #[.int .i64 0,.int .i64 0,.int .i64 0,.int .i64 0,.int .i64 0,.int .i64 0,.slice (some ⟨bd,od,none⟩) k cd] 49)):=b0.alloc (by simp;omega) _
  have rT:=row_new' (w:=(w.alloc (.cells #[.slice ao os.length co,.slice av nv cv] 25)).alloc (.cells #[.int .i64 ob,.int .i64 1,.int .i64 ke,.int .i64 va,.int .i64 3,.int .i64 go,.int .i64 at9,.int .i64 ba] 112)) (o:=(.cells #[.int .i64 0,.int .i64 0,.int .i64 0,.int .i64 0,.int .i64 0,.int .i64 0,.slice (some ⟨bd,od,none⟩) k cd] 49)) (g:=w.heap.size+1+1) (by simp)
  have rD:=row_old (o:=(.cells #[.int .i64 0,.int .i64 0,.int .i64 0,.int .i64 0,.int .i64 0,.int .i64 0,.slice (some ⟨bd,od,none⟩) k cd] 49)) rD
  have rH:=row_old (o:=(.cells #[.int .i64 0,.int .i64 0,.int .i64 0,.int .i64 0,.int .i64 0,.int .i64 0,.slice (some ⟨bd,od,none⟩) k cd] 49)) rH
  have HO0:=hid (HH.out.below b1)
  have HT0:=hid (HT.out.below b1)
  have B1:=hid b1
  have RT:=hid rT
  have RH:=hid rH
  obtain⟨pre,hpre⟩:∃pre,s.deeds.take k=pre:=⟨_,rfl⟩
  have hpl:pre.length=k:=by rw[←hpre,List.length_take];omega
  have hsp:Sl w w.heap.size 8 (.slice (some ⟨bd,od,none⟩) k cd) k ((s.deeds.take k).flatMap Dd.cells):=(OwnF.sl HDV.out).take Dd.len rfl (Nat.le_of_lt hk)
  rw[hpre] at hsp HEX
  have HSP:=hid (show Sl w w.heap.size 8 (.slice (some ⟨bd,od,none⟩) k cd) pre.length (pre.flatMap Dd.cells) by rw[hpl];exact hsp)
  have hpl4:pre.length≤400:=by omega
  have LC:=hid (p_Last 0 0 0 0 0 0 ob _ pre (((w.alloc (.cells #[.slice ao os.length co,.slice av nv cv] 25)).alloc (.cells #[.int .i64 ob,.int .i64 1,.int .i64 ke,.int .i64 va,.int .i64 3,.int .i64 go,.int .i64 at9,.int .i64 ba] 112)).alloc (.cells #[.int .i64 0,.int .i64 0,.int .i64 0,.int .i64 0,.int .i64 0,.int .i64 0,.slice (some ⟨bd,od,none⟩) k cd] 49)) ((HSP.out.below b1).more b1.size) hpl4)
  have RC:=hid (fun W (hb:Below w.heap.size w W)=>p_Reads 0 0 0 0 0 0 (.slice (some ⟨bd,od,none⟩) k cd) pre W ((HSP.out.below hb).more hb.size) hpl4)
  have rD:=row_new' (w:=w.alloc (.cells #[.slice ao os.length co,.slice av nv cv] 25)) (o:=(.cells #[.int .i64 ob,.int .i64 1,.int .i64 ke,.int .i64 va,.int .i64 3,.int .i64 go,.int .i64 at9,.int .i64 ba] 112)) (g:=w.heap.size+1) (by simp)
  have RD:=hid (row_old (o:=(.cells #[.int .i64 0,.int .i64 0,.int .i64 0,.int .i64 0,.int .i64 0,.int .i64 0,.slice (some ⟨bd,od,none⟩) k cd] 49)) rD)
  clear hsp hpl b0 b1 rT rD rH hpre
  generalize ((w.alloc (.cells #[.slice ao os.length co,.slice av nv cv] 25)).alloc (.cells #[.int .i64 ob,.int .i64 1,.int .i64 ke,.int .i64 va,.int .i64 3,.int .i64 go,.int .i64 at9,.int .i64 ba] 112)).alloc (.cells #[.int .i64 0,.int .i64 0,.int .i64 0,.int .i64 0,.int .i64 0,.int .i64 0,.slice (some ⟨bd,od,none⟩) k cd] 49)=W0 at *
  refine LC.out.mono ?_
  rintro e W1 ⟨rfl,b1⟩
  have B2:=hid (B1.out.trans (b1.mono B1.out.size))
  have D1:=hid (row_below RD.out b1 (row_lt RD.out))
  have T1:=hid (row_below RT.out b1 (row_lt RT.out))
  have H1:=hid (row_below RH.out b1 (row_lt RH.out))
  have y5:=row_cell D1.out 5
  simp at y5
  have y0:=row_cell D1.out 0
  simp at y0
  have yl:=row_lt D1.out
  obtain⟨lw,hlw⟩:∃lw,lastW pre ob=lw:=⟨_,rfl⟩
  have HLW:=hid hlw
  rw[hlw]
  clear b1 hlw
  cases lw with
  |some v=>
   go_wp2_with fail
   refine bodyPost_ret (v:=.bool (v==go)) (by simp[results,Tryz.results15,go_sem]) rfl ⟨by rw[HEX.out,if_neg HX.out,HLW.out,show(v==go)=decide (v=go) by by_cases e:v=go <;> simp[e]],B2.out⟩
  |none=>
   have u0:=row_cell T1.out 0
   have u1:=row_cell T1.out 1
   have u2:=row_cell T1.out 2
   have u3:=row_cell T1.out 3
   have u4:=row_cell T1.out 4
   have u5:=row_cell T1.out 5
   have u6:=row_cell T1.out 6
   simp at u0 u1 u2 u3 u4 u5 u6
   have ul:=row_lt T1.out
   go_wp2_with fail
   refine((RC.out) W1 B2.out).mono ?_
   rintro e W3 ⟨v,rfl,hv,b3⟩
   have hz2:=B2.out.size
   obtain⟨R,hR⟩:∃R,readsF [] pre=R:=⟨_,rfl⟩
   have hrl:R.length≤400:=by rw[←hR];exact Nat.le_trans (readsF_len pre []) hpl4
   rw[hR] at hv HEX
   obtain⟨a2,c2,rfl⟩:=OwnF.sli hv
   have HV:=hid hv
   have B3:=hid (B2.out.trans (b3.mono hz2))
   have D3:=hid (row_below D1.out b3 (row_lt D1.out))
   have H3:=hid (row_below H1.out b3 (row_lt H1.out))
   clear u0 u1 u2 u3 u4 u5 u6 ul y0 y5 yl hv b3 hR
   go_wp2_with fail
   go_loopw [16] (fun q wr=>∃(j:Nat),j≤R.length∧q=.int .i64 j∧(R.take j).any (fun r=>decide (r.obj=ob∧r.got≠go))=false∧Below W3.heap.size W3 wr) (fun q _=>R.length - (intOf q).toNat)
   case atStart=>exact⟨0,by omega,by go_num,rfl,Below.refl _ _⟩
   case round=>
    obtain⟨j,hj,rfl,hn,hB⟩:=hrel
    have HB:=hid hB
    have HN:=hid hn
    have hwz:=hB.size
    have B4:=hid (B3.out.trans (hB.mono B3.out.size))
    have D4:=hid (row_below D3.out hB (row_lt D3.out))
    have H4:=hid (row_below H3.out hB (row_lt H3.out))
    have y0:=row_cell D4.out 0
    have y5:=row_cell D4.out 5
    simp at y0 y5
    have yl:=row_lt D4.out
    clear hB hn
    by_cases hlt:j < R.length
    ·obtain ⟨bl,ol,e,hqe,hbl,hek,hcl⟩:=(OwnF.sl HV.out).atF Dd.len rfl hlt
     subst hqe
     obtain⟨ob2,op2,ke2,va2,re2,go2,at2,ba2⟩:=e
     have HEK:=hid hek
     have c0:wr.cell? ⟨bl,ol+j*8,none⟩=some (.int .i64 ob2):=cell_below HB.out hbl (hcl 0 (by decide))
     have c5:wr.cell? ⟨bl,ol+j*8+5,none⟩=some (.int .i64 go2):=cell_below HB.out hbl (hcl 5 (by decide))
     have hbw:bl < wr.heap.size:=by omega
     clear hcl hek
     by_cases e1:ob2=ob
     ·have q1:(ob2==ob)=true:=by simpa using e1
      have HE1:=hid e1
      clear e1
      by_cases e2:go2=go
      ·have q2:(go2 !=go)=false:=by simpa using e2
       have HE2:=hid e2
       clear e2
       go_wp2_with fail
       refine wp_rN (wr.heap.size) [0,0,0,0,1,0,1,0,0,0,0,0,0,1,0,1,0,0] (.fin [0,1,2,3,4,5,6,7,8,9,10,11,12,13,14,15,16,17]) (by kernel_rfl) ?_
       simp only[wpT,selX,guardAt,sD,sE,sF,sG,Option.bind_some]
       repeat first|(refine wpL_p fun K hK=>?_;go_simp;refine hK _ _ ?_;clear hK K)|(apply wpL_s;(intro w2 hw2;have hk1:=hw2.cell;have hk3:=hw2.1;clear hw2;go_simp;with_reducible rfl);simp only[Act.put,sA,sB,sC])|refine wpL_yes rfl rfl ?_|(refine wpL_no rfl rfl fun K hK=>?_;simp only[Act.put,sA,sB,sC];refine hK _ _ ?_;clear hK K)|(refine wpL_un rfl fun K hK=>?_;simp only[Act.put,sA,sB,sC];refine hK _ _ ?_;clear hK K)|refine wpL_nil ?_
       go_wp2_with fail
       go_roundw
       case rel=>exact⟨j+1,by omega,by go_num,by rw[List.take_add_one,HEK.out,List.any_append,HN.out];simp[HE2.out],HB.out.drew⟩
       case measure=>simp[intOf];omega
      ·have q2:(go2 !=go)=true:=by simpa using e2
       have HE2:=hid e2
       clear e2
       go_wp2_with fail
       refine wp_rN (wr.heap.size) [0,0,0,0,1,0,1,0,0,0,0,0,0,1,0,1,0,0] (.fin [0,1,2,3,4,5,6,7,8,9,10,11,12,13,14,15,16,17]) (by kernel_rfl) ?_
       simp only[wpT,selX,guardAt,sD,sE,sF,sG,Option.bind_some]
       repeat first|(refine wpL_p fun K hK=>?_;go_simp;refine hK _ _ ?_;clear hK K)|(apply wpL_s;(intro w2 hw2;have hk1:=hw2.cell;have hk3:=hw2.1;clear hw2;go_simp;with_reducible rfl);simp only[Act.put,sA,sB,sC])|refine wpL_yes rfl rfl ?_|(refine wpL_no rfl rfl fun K hK=>?_;simp only[Act.put,sA,sB,sC];refine hK _ _ ?_;clear hK K)|(refine wpL_un rfl fun K hK=>?_;simp only[Act.put,sA,sB,sC];refine hK _ _ ?_;clear hK K)|refine wpL_nil ?_
       go_wp2_with fail
       have hany:(R.any fun r=>decide (r.obj=ob∧r.got≠go))=true:=List.any_eq_true.2 ⟨_,List.mem_of_getElem? HEK.out,by simp only[decide_eq_true_eq];exact⟨HE1.out,HE2.out⟩⟩
       exact bodyPost_ret (v:=.bool false) (by simp[results,Tryz.results15,go_sem]) rfl ⟨by rw[HEX.out,if_neg HX.out,HLW.out];simp only[hany,if_true],B4.out.drew⟩
     ·have q1:(ob2==ob)=false:=by simpa using e1
      have HE1:=hid e1
      clear e1
      go_wp2_with fail
      refine wp_rN (wr.heap.size) [0,0,0,0,1,0,1,0,0,0,0,0,0,1,0,1,0,0] (.fin [0,1,2,3,4,5,6,7,8,9,10,11,12,13,14,15,16,17]) (by kernel_rfl) ?_
      simp only[wpT,selX,guardAt,sD,sE,sF,sG,Option.bind_some]
      repeat first|(refine wpL_p fun K hK=>?_;go_simp;refine hK _ _ ?_;clear hK K)|(apply wpL_s;(intro w2 hw2;have hk1:=hw2.cell;have hk3:=hw2.1;clear hw2;go_simp;with_reducible rfl);simp only[Act.put,sA,sB,sC])|refine wpL_yes rfl rfl ?_|(refine wpL_no rfl rfl fun K hK=>?_;simp only[Act.put,sA,sB,sC];refine hK _ _ ?_;clear hK K)|(refine wpL_un rfl fun K hK=>?_;simp only[Act.put,sA,sB,sC];refine hK _ _ ?_;clear hK K)|refine wpL_nil ?_
      go_wp2_with fail
      go_roundw
      case rel=>exact⟨j+1,by omega,by go_num,by rw[List.take_add_one,HEK.out,List.any_append,HN.out];simp[HE1.out],HB.out.drew⟩
      case measure=>simp[intOf];omega
    ·obtain rfl:j=R.length:=by omega
     have hq:decide ((R.length:Int) < (R.length:Int))=false:=by simp
     obtain⟨bo,oo,x,hqo,hbo,hxo,hco⟩:=HH.out.ho.atF Ob.len rfl hobl
     subst hqo
     have x1:wr.cell? ⟨bo,oo+ob*2+1,none⟩=some (.int .i64 x.init):=cell_below B4.out hbo (hco 1 (by decide))
     have xl:bo < wr.heap.size:=by have:=B4.out.size;omega
     have h0:=row_cell H4.out 0
     simp at h0
     have hl0:=row_lt H4.out
     have hgx:(os.map (·.init)).getD ob 0=x.init:=by rw[List.getD_eq_getElem?_getD,List.getElem?_map,hxo];rfl
     have hnn:(R.any fun r=>decide (r.obj=ob∧r.got≠go))=false:=by have:=HN.out;rwa [List.take_length] at this
     have HEX2:=hid (show explL (os.map (·.init)) A (takenF lev A) i s k=(if go=x.init then true else(List.range A.length).any fun j=>(takenF lev A).getD j false&&decide (j≠i)&&(match A[j]? with
      |some t=>lastW t.deeds ob==some go
      |none=>false)) by rw[HEX.out,if_neg HX.out,HLW.out];simp only[hnn,hgx,Bool.false_eq_true,if_false])
     clear hgx hnn hco hxo
     go_wp2_with fail
     by_cases e1:go=x.init
     ·have q1:(go==x.init)=true:=by simpa using e1
      have HE1:=hid e1
      clear e1
      refine wp_rN (wr.heap.size) [0,1,0,1,0,1,0,0,1,0] (.fin [0,1,2,3,4,5,6,7,8,9]) (by kernel_rfl) ?_
      simp only[wpT,selX,guardAt,sD,sE,sF,sG]
      repeat first|(refine wpL_p fun K hK=>?_;go_simp;refine hK _ _ ?_;clear hK K)|(apply wpL_s;(intro w2 hw2;have hk1:=hw2.cell;have hk3:=hw2.1;clear hw2;go_simp;with_reducible rfl);simp only[Act.put,sA,sB,sC])|refine wpL_yes rfl rfl ?_|(refine wpL_no rfl rfl fun K hK=>?_;simp only[Act.put,sA,sB,sC];refine hK _ _ ?_;clear hK K)|(refine wpL_un rfl fun K hK=>?_;simp only[Act.put,sA,sB,sC];refine hK _ _ ?_;clear hK K)|refine wpL_nil ?_
      go_wp2_with fail
      exact bodyPost_ret (v:=.bool true) (by simp[results,Tryz.results15,go_sem]) rfl ⟨by rw[HEX2.out,if_pos HE1.out],B4.out.drew⟩
     ·have q1:(go==x.init)=false:=by simpa using e1
      have HE1:=hid e1
      clear e1
      refine wp_rN (wr.heap.size) [0,1,0,1,0,1,0,0,1,0] (.fin [0,1,2,3,4,5,6,7,8,9]) (by kernel_rfl) ?_
      simp only[wpT,selX,guardAt,sD,sE,sF,sG]
      repeat first|(refine wpL_p fun K hK=>?_;go_simp;refine hK _ _ ?_;clear hK K)|(apply wpL_s;(intro w2 hw2;have hk1:=hw2.cell;have hk3:=hw2.1;clear hw2;go_simp;with_reducible rfl);simp only[Act.put,sA,sB,sC])|refine wpL_yes rfl rfl ?_|(refine wpL_no rfl rfl fun K hK=>?_;simp only[Act.put,sA,sB,sC];refine hK _ _ ?_;clear hK K)|(refine wpL_un rfl fun K hK=>?_;simp only[Act.put,sA,sB,sC];refine hK _ _ ?_;clear hK K)|refine wpL_nil ?_
      have B5:=hid B4.out.drew
      have H5:=row_drew H4.out
      have D5:=hid (row_drew D4.out)
      have H5h:=hid H5
      have TC:=hid (f_TakenS (lev:=lev) (HH.out.below B5.out) HE.out HL.out)
      have HHQ:=hid hq
      clear H5 h0 hl0 x1 xl y0 y5 yl hq
      generalize wr.drew=W5 at *
      have g0:=row_cell H5h.out 0
      have g1:=row_cell H5h.out 1
      simp at g0 g1
      have gl:=row_lt H5h.out
      go_wp2_with fail
      refine TC.out.mono ?_
      rintro e W6 ⟨v,rfl,hv,b6⟩
      obtain⟨L,hL⟩:∃L,takenIds A (takenF lev A) A.length=L:=⟨_,rfl⟩
      rw[hL] at hv
      have HLL:=hid hL
      have hlen:L.length≤400:=by rw[←hL];exact Nat.le_trans takenIds_len HD.out.len
      obtain⟨a5,c5,rfl⟩:=OwnF.sli hv
      have HV6:=hid hv
      have B6:=hid (B5.out.trans (b6.mono B5.out.size))
      have D6:=hid (row_below D5.out b6 (row_lt D5.out))
      clear hv b6 hL g0 g1 gl
      go_wp2_with fail
      go_loopw [19] (fun q wr=>∃(j:Nat),j≤L.length∧q=.int .i64 j∧(∀x ∈ L.take j,∀(m:Nat) (t:St),A[m]?=some t→t.id=x→¬(m≠i∧lastW t.deeds ob=some go))∧Below W6.heap.size W6 wr) (fun q _=>L.length - (intOf q).toNat)
      case atStart=>exact⟨0,by omega,by go_num,(fun x hx=>by simp at hx),Below.refl _ _⟩
      case round=>
       obtain⟨j,hj,rfl,hn,hB⟩:=hrel
       have HB:=hid hB
       have HNN:=hid hn
       have hwz:=hB.size
       have B7:=hid (B6.out.trans (hB.mono B6.out.size))
       have D7:=hid (row_below D6.out hB (row_lt D6.out))
       clear hB hn
       by_cases hlt:j < L.length
       ·obtain ⟨bl,ol,x0,hqe,hbl,hxk,hcl⟩:=(OwnF.sl HV6.out).atF intC_len rfl hlt
        subst hqe
        have c0:wr.cell? ⟨bl,ol+j,none⟩=some (.int .i64 x0):=by have:=cell_below HB.out hbl (hcl 0 (by decide));simpa[intC] using this
        have hbw:bl < wr.heap.size:=by omega
        have HXK:=hid hxk
        obtain⟨m,t,hm,hAm,hTm,hid0⟩:=mem_takenIds.1 (by rw[HLL.out];exact List.mem_of_getElem? hxk:x0 ∈ takenIds A (takenF lev A) A.length)
        subst hid0
        have HAM:=hid hAm
        have HTM:=hid hTm
        have TX:=hid (HT.out.below B7.out)
        have FC:=hid (sh_Find _ A t.id B wr TX.out hAm rfl fun j' t' hj' ht' e=>by have:=id_inj HND.out ht' hAm e;omega)
        clear hcl hxk hAm hTm
        go_wp2_with fail
        refine FC.out.mono ?_
        rintro e W8 ⟨rfl,b8⟩
        have B8:=hid (B7.out.trans (b8.mono B7.out.size))
        have TX8:=hid (TX.out.below b8)
        have D8:=hid (row_below D7.out b8 (row_lt D7.out))
        have BB8:=hid (HB.out.trans (b8.mono hwz))
        obtain⟨rs',hv',hvl',hvc'⟩:=TX8.out
        have hrl':rs'.length=rs.length:=by have:=HVL.out;omega
        have hsv:Sl W8 W8.heap.size 7 (.slice (some ⟨bt,ot,none⟩) rs.length ct) rs.length (rs'.flatMap TxR.cells):=by have:=OwnF.sl hv';rwa [hrl'] at this
        obtain⟨bt2,ot2,r2,hqe2,hbt2,hr2,hct2⟩:=hsv.atF TxR.len hrl' (k:=m) (by omega)
        simp only[Option.some.injEq,Addr.mk.injEq,and_true] at hqe2
        obtain⟨rfl,rfl⟩:=hqe2
        obtain⟨-,hdv2⟩:=hvc' m r2 t hr2 HAM.out
        obtain⟨ad2,cd2,hdq2⟩:=OwnF.slv hdv2
        rw[hdq2] at hdv2
        obtain⟨i2,th2,st2,be2,fi2,tr2,dv2⟩:=r2
        simp only at hdq2
        subst hdq2
        have v0:W8.cell? ⟨bt,ot+m*7,none⟩=some (.int .i64 i2):=hct2 0 (by decide)
        have v1:W8.cell? ⟨bt,ot+m*7+1,none⟩=some (.int .i64 th2):=hct2 1 (by decide)
        have v2:W8.cell? ⟨bt,ot+m*7+2,none⟩=some (.int .i64 st2):=hct2 2 (by decide)
        have v3:W8.cell? ⟨bt,ot+m*7+3,none⟩=some (.int .i64 be2):=hct2 3 (by decide)
        have v4:W8.cell? ⟨bt,ot+m*7+4,none⟩=some (.int .i64 fi2):=hct2 4 (by decide)
        have v5:W8.cell? ⟨bt,ot+m*7+5,none⟩=some (.int .i64 tr2):=hct2 5 (by decide)
        have v6:W8.cell? ⟨bt,ot+m*7+6,none⟩=some (.slice ad2 t.deeds.length cd2):=hct2 6 (by decide)
        have hmr:m < rs.length:=by omega
        have z0:=row_cell D8.out 0
        simp at z0
        have zl:=row_lt D8.out
        have LC2:=hid (p_Last i2 th2 st2 be2 fi2 tr2 ob _ t.deeds W8.drew (OwnF.sl hdv2).drew (HD.out.dl t (List.mem_of_getElem? HAM.out)))
        clear hct2 hdv2 hsv hv' hvl' hvc' hr2 hrl' b8
        go_wp2_with fail
        refine wp_rN (W8.heap.size) [0,0,0,1,0,1,2,0,0,0,0,0] (.fin [0,1,2,3,4,5,6,7,8,9,10,11]) (by kernel_rfl) ?_
        simp only[wpT,selX,guardAt,sD,sE,sF,sG]
        repeat first|(refine wpL_p fun K hK=>?_;go_simp;refine hK _ _ ?_;clear hK K)|(apply wpL_s;(intro w2 hw2;have hk1:=hw2.cell;have hk3:=hw2.1;clear hw2;go_simp;with_reducible rfl);simp only[Act.put,sA,sB,sC])
        refine wpL_e (fun K hK=>?_)
        go_simp
        refine(LC2.out).mono ?_
        rintro e W9 ⟨rfl,b9⟩
        refine hK _ _ ?_
        clear hK K
        have hb9:Below W8.heap.size W8 W9:=(Below.refl W8.heap.size W8).drew.trans b9
        have B9:=hid (B8.out.trans (hb9.mono B8.out.size))
        have BB9:=hid (BB8.out.trans (hb9.mono BB8.out.size))
        have D9:=hid (row_below D8.out hb9 (row_lt D8.out))
        have z5:=row_cell D9.out 5
        simp at z5
        have zl9:=row_lt D9.out
        obtain⟨lw,hlw⟩:∃lw,lastW t.deeds ob=lw:=⟨_,rfl⟩
        have HLT:=hid hlw
        rw[hlw]
        clear b9 hb9 hlw z0 zl LC2 v0 v1 v2 v3 v4 v5 v6
        repeat first|(refine wpL_p fun K hK=>?_;go_simp;refine hK _ _ ?_;clear hK K)|(apply wpL_s;(intro w2 hw2;have hk1:=hw2.cell;have hk3:=hw2.1;clear hw2;go_simp;with_reducible rfl);simp only[Act.put,sA,sB,sC])|refine wpL_nil ?_
        by_cases hmi:m=i
        ·have q1:((m:Int) !=(i:Int))=false:=by subst hmi;simp
         have HMI:=hid hmi
         clear hmi
         go_wp2_with fail
         go_roundw
         case rel=>
          refine⟨j+1,by omega,by go_num,fun x hx m' t' hm' ht'=>?_,BB9.out⟩
          rw[List.take_add_one,HXK.out] at hx
          rcases List.mem_append.1 hx with hx|hx
          ·exact HNN.out x hx m' t' hm' ht'
          ·simp at hx
           have:=id_inj HND.out hm' HAM.out (by rw[ht',hx])
           exact fun h=>h.1 (this.trans HMI.out)
         case measure=>simp[intOf];omega
        ·have q1:((m:Int) !=(i:Int))=true:=by simp;omega
         have HMI:=hid hmi
         clear hmi
         cases lw with
         |none=>
          go_wp2_with fail
          go_roundw
          case rel=>
           refine⟨j+1,by omega,by go_num,fun x hx m' t' hm' ht'=>?_,BB9.out⟩
           rw[List.take_add_one,HXK.out] at hx
           rcases List.mem_append.1 hx with hx|hx
           ·exact HNN.out x hx m' t' hm' ht'
           ·simp at hx
            obtain rfl:=id_inj HND.out hm' HAM.out (by rw[ht',hx])
            rw[HAM.out] at hm'
            obtain rfl:=Option.some.inj hm'
            rw[HLT.out]
            exact fun h=>by cases h.2
          case measure=>simp[intOf];omega
         |some u=>
          by_cases hu:u=go
          ·have q2:(u==go)=true:=by simpa using hu
           have HU:=hid hu
           clear hu
           go_wp2_with fail
           refine bodyPost_ret (v:=.bool true) (by simp[results,Tryz.results15,go_sem]) rfl ⟨?_,B9.out⟩
           rw[HEX2.out,if_neg HE1.out]
           congr 2
           symm
           rw[List.any_eq_true]
           refine⟨m,List.mem_range.2 (List.getElem?_eq_some_iff.1 HAM.out).1,?_⟩
           rw[HAM.out,HTM.out]
           simp[HLT.out,HU.out,HMI.out]
          ·have q2:(u==go)=false:=by simpa using hu
           have HU:=hid hu
           clear hu
           go_wp2_with fail
           go_roundw
           case rel=>
            refine⟨j+1,by omega,by go_num,fun x hx m' t' hm' ht'=>?_,BB9.out⟩
            rw[List.take_add_one,HXK.out] at hx
            rcases List.mem_append.1 hx with hx|hx
            ·exact HNN.out x hx m' t' hm' ht'
            ·simp at hx
             obtain rfl:=id_inj HND.out hm' HAM.out (by rw[ht',hx])
             rw[HAM.out] at hm'
             obtain rfl:=Option.some.inj hm'
             rw[HLT.out]
             exact fun h=>HU.out (Option.some.inj h.2)
           case measure=>simp[intOf];omega
       ·obtain rfl:j=L.length:=by omega
        have hq:decide ((L.length:Int) < (L.length:Int))=false:=by simp
        go_wp2_with fail
        refine bodyPost_ret (v:=.bool false) (by simp[results,Tryz.results15,go_sem]) rfl ⟨?_,B7.out⟩
        rw[HEX2.out,if_neg HE1.out]
        congr 2
        symm
        rw[List.any_eq_false]
        intro m hm hc
        simp only[Bool.and_eq_true,decide_eq_true_eq] at hc
        obtain⟨⟨h1,h2⟩,h3⟩:=hc
        cases e:A[m]? with
        |none=>rw[e] at h3;cases h3
        |some t=>
         rw[e] at h3
         have:=HNN.out
         rw[List.take_length,←HLL.out] at this
         exact this t.id (mem_takenIds.2 ⟨m,t,List.mem_range.1 hm,e,h1,rfl⟩) m t e rfl ⟨h2,by simpa using h3⟩
end
end
