/- Parts of the proof, merged by program out of 3 texts (GrW, GrC, FsE): the first: What the program's graphs do: Topo. Conditions: those of each theorem, as typed. -/
import Derived.Test.YtcpfbphcldocpaaGreatDoorQF26
import Derived.Deep.LoopGhost
import Derived.Test.YtcpfbphcldocpaaGreatDoorQF23
set_option linter.unusedVariables false
set_option linter.unusedSimpArgs false
set_option linter.unusedSectionVars false
set_option maxRecDepth 100000
set_option maxHeartbeats 4000000
namespace Go.Proofs.YtcpfbphcldocpaaGreatDoor
open Go.Maps Go.RowKit
section
variable {w w':World} {c r:Nat} {cs:Array Value} {t:TypeId} {fz:Nat×Nat}
theorem row_nextK (h:w.heap[c]?=some (.cells cs t fz)) (hi:IterAt w r) (hg:w.grownBy w' (some r)):w'.heap[c]?=some (.cells cs t fz):=by
 refine(hg.block c (row_lt h) fun e=>?_).trans h
 cases e
 obtain⟨m,s,s2,c0,hr⟩:=hi
 rw[h] at hr
 cases hr
theorem row_none (h:w.heap[c]?=some (.cells cs t fz)) (hg:w.grownBy w' none):w'.heap[c]?=some (.cells cs t fz):=(hg.block c (row_lt h) (by simp)).trans h
theorem row_turn {q:Nat} (h:w.heap[c]?=some (.cells cs t fz)) (ht:w.mapTurned w' q):w'.heap[c]?=some (.cells cs t fz):=(Keep.turned ht).cells h
end
abbrev RowC (w:World) (c f:Nat):Prop:=w.heap[c]?=some (.cells #[.map (some f)] 138 (0,0))
theorem deg_start {P:List Pr} {N:List Int}:DegIs N [] (indeg P fun _=>false):=DegIs.nil N _ fun x=>indeg_none P _ x fun _=>rfl
theorem indeg_add {P:List Pr} (hP:Srt P) {S:Int→Bool} {a:Int} (ha:S a=true) (x:Int):indeg P (fun z=>!(S z&&!(z==a))) x=indeg P (fun z=>!S z) x+if (a,x) ∈ P then 1 else 0:=
 indeg_one hP.nodup a x (by rw[ha];rfl) fun z=>by cases S z <;> cases hz:(z==a) <;> rfl
theorem indeg_out {P:List Pr} (hP:Srt P) {out:List Int} {a:Int} (ha:a ∉ out) (x:Int):indeg P (fun z=>!out.contains z) x=indeg P (fun z=>!(out++[a]).contains z) x+if (a,x) ∈ P then 1 else 0:=
 indeg_less hP.nodup a x (by simpa using ha) fun z=>by
  by_cases e:z=a
  ·subst e;simp
  ·have:(z==a)=false:=by simpa using e
   simp[List.contains_eq_mem,this,e]
theorem free_deg {P:List Pr} {N out:List Int} {D:List (Int×Int)} (h:DegIs N D (indeg P fun z=>!out.contains z)) (x:Int):(fnd x D).getD 0=0↔freeB P out x=true:=by
 rw[h.at',freeB_iff]
 constructor
 ·intro h0 a ha
  have:=indeg_zero.1 (Int.ofNat.inj h0) a ha
  simpa using this
 ·intro hf
  have:indeg P (fun z=>!out.contains z) x=0:=indeg_zero.2 fun a ha=>by simpa using hf a ha
  rw[this]
  rfl
theorem DegIs.dom {N:List Int} {D:List (Int×Int)} {c:Int→Nat} (h:DegIs N D c) (hN:∀a ∈ N,dI a):KDom dI D:=fun q hq=>hN _ (h.keys q hq)
section
variable {w:World} {lo hi p:Nat} {N:List Int} {E:List Trp}
theorem gr_topo (h:GrAt w lo hi p N E) (hhi:hi≤w.heap.size) (hN:N.length≤900000) (hE:E.length≤900000):Calls Tryz.prog 67 #[.pointer (some ⟨p,0,none⟩)] w fun e w'=>
  ∃v o,e=.returned (.tuple #[v,.bool (o:Option (List Int)).isSome])∧OwnI w' w.heap.size v (o.getD [])∧o=topoF (prs E) N∧Below w.heap.size w w':=by
 have HG:=hid h
 obtain⟨b,ow,M,A,h⟩:=h
 have hpl:=h.hp
 have H:=hid h
 have hmm:=@run_makeMap Tryz.prog
 have HPN:=hid (fun(x:Pr) (hx:x ∈ prs E)=>(h.ok.pair hx).1)
 have HPN2:=hid (fun(x:Pr) (hx:x ∈ prs E)=>(h.ok.pair hx).2)
 have HSP:=hid (srt_prs E)
 have hPl:(prs E).length≤900000:=Nat.le_trans (length_prs E) hE
 have HIL:=hid (fun p x=>indeg_le (prs E) p x)
 have HLM:=h.lenM
 have hM:M.length≤900000:=by omega
 have hbl:=h.hb
 have HML:=hid HLM
 clear h HLM
 obtain⟨i,hi,hz0,hz1,hz2⟩:∃i,Tryz.prog.info? 3=some i∧i.zero=some (.int .i64 0)∧i.size=1∧i.bytes=8:=by
  have:=infoI
  cases hh:Tryz.prog.info? 3 with
  |none=>rw[hh] at this;simp at this
  |some i=>rw[hh] at this;simp at this;exact⟨i,rfl,this.1,this.2.1,this.2.2⟩
 have HI:=hid (And.intro hi (And.intro hz0 (And.intro hz1 hz2)))
 clear hi hz0 hz1 hz2
 go_enter Tryz.func67,Tryz.ntmps67
 have hp0:=row_cell (row_old (o:=.cells #[.map (some w.heap.size)] 138) (row_old (o:=.map #[] 0) H.out.ptr)) 0
 have M1:=hid (((IsMapK.made w).alloc (.cells #[.map (some w.heap.size)] 138)):MapI _ _ [])
 have C1:RowC ((w.alloc (.map #[] 0)).alloc (.cells #[.map (some w.heap.size)] 138)) (w.heap.size+1) w.heap.size:=row_new' (by simp)
 have B1:=hid (((Below.refl w.heap.size w).alloc (Nat.le_refl _) (.map #[] 0)).alloc (by simp) (.cells #[.map (some w.heap.size)] 138))
 have G1:=hid (H.out.below B1.out hhi)
 have z1:w.heap.size+2≤((w.alloc (.map #[] 0)).alloc (.cells #[.map (some w.heap.size)] 138)).heap.size:=by simp
 have HC1:=hid C1
 clear C1
 go_wp2_with (at_range;refine Stop.halt ?_)
 refine Stop.go ?_
 refine(G1.out.out).wpList_range keyI H.out.domM H.out.srtM Tryz.underlying104 rfl rfl (by rfl) ?_
 intro w2 hr2 hg2 hz2
 have M2:=hid (M1.out.none hg2)
 have C2:=hid (row_none HC1.out hg2)
 have B2:=hid (below_ranged B1.out hg2 B1.out.size)
 have O2:=hid hr2
 obtain⟨r1,hr1⟩:∃r1,r1=((w.alloc (.map #[] 0)).alloc (.cells #[.map (some w.heap.size)] 138)).heap.size:=⟨_,rfl⟩
 have hrw:w.heap.size+2≤r1:=by omega
 have hz2':r1+1≤w2.heap.size:=by omega
 rw[←hr1] at O2 ⊢
 have D2:=hid ((deg_start (P:=prs E) (N:=N)).congr (c':=fun x=>indeg (prs E) (fun z=>!(fun _=>true) z) x) fun x=>rfl)
 clear hr2 hg2 hz2 hr1 M1 HC1 B1 G1 z1 hp0
 go_wp2_with fail
 try go_frame
 go_loopg [] M.length (fun k wq=>∃S D,RngO wq b r1 M S k∧MapI wq w.heap.size D∧DegIs N D (indeg (prs E) fun z=>!S z)∧RowC wq (w.heap.size+1) w.heap.size∧Below w.heap.size w wq∧r1+1≤wq.heap.size)
 case atStart=>exact⟨_,[],O2.out,M2.out,D2.out,C2.out,B2.out,hz2'⟩
 case round=>
  obtain⟨S,D,hrg,hMD,hD,hC,hB,hz⟩:=hrel
  have O3:=hid hrg
  have M3:=hid hMD
  have D3:=hid hD
  have C3:=hid hC
  have B3:=hid hB
  clear hrg hMD hD hC hB O2 M2 D2 C2 B2 hz2'
  go_wp2_with (at_next;refine Stop.halt ?_)
  refine Stop.go ?_
  refine O3.out.wpList_next keyI elem_map H.out.domM H.out.srtM rfl rfl (by rfl) ?_ ?_
  ·intro hd
   have D4:=hid (D3.out.congr (c':=indeg (prs E) fun z=>!([]:List Int).contains z) fun x=>indeg_congr fun a ha=>by
    have haN:=HPN.out _ ha
    rw[←H.out.keys] at haN
    obtain⟨q,hq,hq2⟩:=List.mem_map.1 haN
    have:=hd q hq
    rw[hq2] at this
    rw[this]
    rfl)
   clear hd D3 O3
   obtain⟨hi,hz0,hz1,hz2⟩:=HI.out
   have hln:=fun ty=>(H.out.below B3.out hhi).out.len Tryz.underlying104 ty
   have hp3:=row_cell (H.out.below B3.out hhi).ptr 0
   have hzz:w.heap.size+2≤wr.heap.size:=by omega
   go_wp2_with (at_make;refine wpList_make_own _ rfl _ _ _ rfl (w.heap.size+2) 3 i _ 1 Tryz.underlying30 hi hz0 hz1 .i64 .i64 (M.length:Int) M.length (by rfl) (by rfl) rfl (by rw[hz2];omega) (by unfold maxLen;omega) hzz ?_;refine Stop.halt ?_)
   refine Stop.go ?_
   intro w4 o4 g4
   have O8:=hid (show OwnI w4 (w.heap.size+2) (.slice (some ⟨wr.heap.size,0,none⟩) 0 M.length) [] from o4)
   have M4:=hid (M3.out.none g4)
   have C4:=hid (row_none C3.out g4)
   have B4:=hid (below_ranged B3.out g4 B3.out.size)
   have z4:w.heap.size+2≤w4.heap.size:=by have:=g4.size;omega
   clear o4 g4 hi hz0 hz1 hz2 hln hp3 M3 C3 B3
   go_wp2_with fail
   refine(gr_nodes (HG.out.below B4.out hhi) (by omega)).mono ?_
   rintro e w5 ⟨v9,rfl,h5,b5⟩
   have M5:=hid (M4.out.below b5 M4.out.lt)
   have C5:=hid (row_below C4.out b5 (row_lt C4.out))
   have O8':=hid (O8.out.below b5)
   have B5:=hid (B4.out.trans (b5.mono B4.out.size))
   have O9:=hid (OwnF.base (B':=w.heap.size+2) h5 z4)
   have HNE:=hid (fun q (h3:v9.ownBlock=some q)=>(fun h4=>by
    have:=h5.lt q h3
    have:=O8.out.lt q h4
    omega:(Value.slice (some ⟨wr.heap.size,0,none⟩) 0 M.length).ownBlock≠some q))
   have z5:w.heap.size+2≤w5.heap.size:=by have:=b5.size;omega
   have HL0:Hid (leftF N []=N):=hid (left_nil N)
   clear h5 b5 O8 M4 C4 B4
   go_wp2_with fail
   go_loopg [8,9] N.length (fun k v8 v9 wq=>∃out D,k=(leftF N out).length∧OwnI wq (w.heap.size+2) v8 out∧OwnI wq (w.heap.size+2) v9 (leftF N out)∧(∀q,v9.ownBlock=some q→v8.ownBlock≠some q)∧MapI wq w.heap.size D∧DegIs N D (indeg (prs E) fun z=>!out.contains z)∧
    RowC wq (w.heap.size+1) w.heap.size∧topoF (prs E) N=topoGo (prs E) N (leftF N out).length out∧out.length+(leftF N out).length≤N.length∧Below w.heap.size w wq∧w.heap.size+2≤wq.heap.size)
   case atStart=>exact⟨[],D,by rw[HL0.out],O8'.out,by rw[HL0.out];exact O9.out,HNE.out,M5.out,D4.out,C5.out,by rw[HL0.out];rfl,by rw[HL0.out];simp,B5.out,z5⟩
   case round=>
    obtain⟨out,D',hk,hO8,hO9,hne,hMD,hD,hC,hT,hol,hB,hz⟩:=hrel
    obtain⟨a8,c8,rfl,hm8⟩:=hO8.sl.ex
    obtain⟨a9,c9,rfl,hm9⟩:=hO9.sl.ex
    have hnl:=hid (show(leftF N out).length≤N.length from List.length_filter_le _ _)
    have HLd:=hid (fun x (hx:x ∈ leftF N out)=>H.out.domN x (mem_left.1 hx).1)
    have HLN:=hid (fun x (hx:x ∈ leftF N out)=>(mem_left.1 hx).1)
    have HLO:=hid (fun x (hx:x ∈ leftF N out)=>(mem_left.1 hx).2)
    have HER:=hid (fun i x (hx:(leftF N out)[i]?=some x)=>left_erase H.out.ok.srtN hx)
    have HLL:=hid (fun i x (hx:(leftF N out)[i]?=some x)=>left_length H.out.ok.srtN hx)
    have HNX:=hid (next_left (P:=prs E) (N:=N) (out:=out))
    generalize leftF N out=Lf at *
    obtain⟨nl,hnl2⟩:∃nl,nl=Lf.length:=⟨_,rfl⟩
    rw[←hnl2] at hm9 hO9 hne hol ⊢
    have hnl3:nl≤900000:=by have:=hnl.out;omega
    have HN9:=hid hnl2.symm
    have HK:=hid hk
    have O8:=hid hO8
    have O9:=hid hO9
    have HNE:=hid hne
    have M6:=hid hMD
    have D6:=hid hD
    have C6:=hid hC
    have HT:=hid hT
    have B6:=hid hB
    have hol2:out.length≤900000:=by omega
    clear hk hO8 hO9 hne hMD hD hC hT hB hnl2 hnl O8' M5 C5 B5 HL0 D4
    by_cases h0:nl=0
    ·subst h0
     have HE:=hid (show topoF (prs E) N=some out by rw[HT.out,HN9.out];rfl)
     go_wp2
     go_ret2
     exact⟨_,some out,rfl,O8.out.base (by omega),HE.out.symm,B6.out⟩
    ·obtain ⟨g9,x0,rfl,hg9,hg9',hx0,hc0⟩:=OwnI.at O9.out HN9.out (k:=0) (by omega)
     clear hx0 hc0
     go_wp2_with fail
     refine(topo_index M6.out (D6.out.dom H.out.domN) (row_cell C6.out 0) O9.out HN9.out HLd.out).mono ?_
     rintro e w7 ⟨r,rfl,hr,rfl⟩
     rcases hr with⟨rfl,hall⟩|⟨j,x,rfl,hx,hzx,hbf⟩
     ·have HE:=hid (show topoF (prs E) N=none by
       rw[HT.out,HN9.out]
       obtain⟨q,rfl⟩:∃q,nl=q+1:=⟨nl - 1,by omega⟩
       refine topoGo_none ?_
       rw[HNX.out]
       exact find_none fun y hy=>by
        have:=hall y hy
        rw[Ne,free_deg D6.out] at this
        simpa using this)
      clear hall
      go_wp2
      go_ret2
      exact⟨.slice none 0 0,none,rfl,OwnF.nil _ _,HE.out.symm,B6.out⟩
     ·have HX:=hid hx
      have hjl:j < nl:=by have:=(List.getElem?_eq_some_iff.1 hx).1;have:=HN9.out;omega
      have hxL:=List.mem_of_getElem? hx
      have hxN:=HLN.out x hxL
      have hxo:=hid (HLO.out x hxL)
      have hxd:dI x:=H.out.domN x hxN
      have HT2:=hid (show topoF (prs E) N=topoGo (prs E) N (nl - 1) (out++[x]) by
       rw[HT.out,HN9.out]
       obtain⟨q,rfl⟩:∃q,nl=q+1:=⟨nl - 1,by omega⟩
       refine topoGo_some ?_
       rw[HNX.out]
       exact find_at hx ((free_deg D6.out x).1 hzx) fun y hy=>by
        have:=hbf y hy
        rw[Ne,free_deg D6.out] at this
        simpa using this)
      obtain⟨g9',y9,e9,-,-,hy9,hcx⟩:=OwnI.at O9.out HN9.out hjl
      simp only[Option.some.injEq,Addr.mk.injEq,and_true] at e9
      subst e9
      rw[hx] at hy9
      obtain rfl:=Option.some.inj hy9
      obtain⟨u,hfu⟩:=H.out.there hxN
      have hu:=H.out.here hfu
      have HU:=hid hu
      have HFU:=hid hfu
      clear hx hzx hbf hxL hy9 hfu hu
      go_wp2_with fail
      refine(deleteI O9.out HN9.out hjl).mono ?_
      rintro e w7 ⟨rfl,o9,gw7⟩
      rw[HER.out j x HX.out] at o9
      have Q9:=hid o9
      have Q8:=hid (O8.out.kept gw7 (by
       rcases hq:(Value.slice a8 out.length c8).ownBlock with _|q
       ·exact .inl rfl
       ·refine .inr fun e=>HNE.out g9 rfl (by rw[hq];exact e)))
      have M7:=hid (M6.out.obj (gw7.block _ M6.out.lt fun e=>by have:=Option.some.inj e;omega))
      have C7:=hid (show RowC w7 (w.heap.size+1) w.heap.size from(gw7.block _ (row_lt C6.out) fun e=>by have:=Option.some.inj e;omega).trans C6.out)
      have B7:=hid (B6.out.grown gw7 B6.out.size fun k e=>by cases e;omega)
      have z7:w.heap.size+2≤w7.heap.size:=by have:=gw7.size;omega
      have D7:=hid (D6.out.congr (c':=fun y=>indeg (prs E) (fun z=>!(out++[x]).contains z) y+if y ∈ row (prs E) x∧(fun _:Int=>true) y=true then 1 else 0) fun y=>by
       rw[indeg_out HSP.out hxo.out]
       congr 1
       by_cases hy:y ∈ row (prs E) x
       ·rw [if_pos ⟨hy,rfl⟩,if_pos (mem_row.1 hy)]
       ·rw [if_neg fun h=>hy h.1,if_neg fun h=>hy (mem_row.2 h)])
      clear o9 gw7 O9 O8 M6 C6 B6 D6 hcx
      go_wp2_with (at_builtin;refine wpList_appF rfl _ _ _ rfl _ 8 Tryz.underlying30 infoI rfl Q8.out x z7 (by rfl) (by rfl) (by first|rfl|simp) rfl (in_one _) (by first|omega|(simp only[List.length_append,List.length_cons,List.length_nil,List.length_replicate];omega)) (by first|omega|(simp only[List.length_append,List.length_cons,List.length_nil,List.length_replicate];omega)) ?_;refine Stop.halt ?_)
      refine Stop.go ?_
      intro gn cn w8 hn Gn
      have P8:=hid hn
      have P9:=hid (Q9.out.grw Gn HNE.out)
      have HNE2:=hid (fun q (h3:(Value.slice (some ⟨g9,0,none⟩) (nl - 1) c9).ownBlock=some q)=>(fun h4=>by
       rcases Gn.own q h4 with h5|h5
       ·exact HNE.out q h3 h5
       ·have:=(Q9.out.lt q h3).2;omega:(Value.slice (some ⟨gn,0,none⟩) (out.length+1) cn).ownBlock≠some q))
      have M8:=hid (M7.out.grw Q8.out Gn)
      have C8:=hid (row_grw C7.out Gn fun e=>by have:=(Q8.out.lt _ e).1;omega)
      have B8:=hid (B7.out.trans (Gn.below B7.out.size fun q h=>by have:=(Q8.out.lt q h).1;omega))
      have z8:w.heap.size+2≤w8.heap.size:=by have:=Gn.size;omega
      have hp8:=row_cell (H.out.below B8.out hhi).ptr 0
      have lk8:=(H.out.below B8.out hhi).look hxd HFU.out
      clear hn Gn Q8 Q9 M7 C7 B7
      go_wp2_with (at_range;refine Stop.halt ?_)
      refine Stop.go ?_
      refine((H.out.below B8.out hhi).inn x u HU.out).2.1.wpList_range keyI (H.out.domA HU.out) (H.out.inn x u HU.out).2.2.1 Tryz.underlying103 rfl rfl (by rfl) ?_
      intro w9 hr9 hg9'' hz9
      have B9:=hid (below_ranged B8.out hg9'' B8.out.size)
      have M9:=hid (M8.out.none hg9'')
      have C9:=hid (row_none C8.out hg9'')
      have Q8:=hid (P8.out.none hg9'')
      have Q9:=hid (P9.out.none hg9'')
      have G9:=hid hr9
      have hz9':w8.heap.size+1≤w9.heap.size:=by omega
      obtain⟨r2,hr2⟩:∃r2,r2=w8.heap.size:=⟨_,rfl⟩
      rw[←hr2] at G9 hz9' ⊢
      have hwr2:w.heap.size+2≤r2:=by omega
      have hul:=(H.out.inn x u HU.out).1
      clear hr9 hg9'' hz9 hr2 hp8 lk8 P8 P9 M8 C8 B8
      go_wp2_with fail
      try go_frame
      go_loopg [] (A x).length (fun k3 wq=>∃S2 D,RngO wq u r2 (A x) S2 k3∧OwnI wq (w.heap.size+2) (.slice (some ⟨gn,0,none⟩) (out.length+1) cn) (out++[x])∧OwnI wq (w.heap.size+2) (.slice (some ⟨g9,0,none⟩) (nl - 1) c9) (leftF N (out++[x]))∧MapI wq w.heap.size D∧
       DegIs N D (fun y=>indeg (prs E) (fun z=>!(out++[x]).contains z) y+if y ∈ row (prs E) x∧S2 y=true then 1 else 0)∧RowC wq (w.heap.size+1) w.heap.size∧Below w.heap.size w wq∧r2+1≤wq.heap.size)
      case atStart=>exact⟨_,D',G9.out,Q8.out,Q9.out,M9.out,D7.out.congr fun y=>by simp,C9.out,B9.out,hz9'⟩
      case round=>
       obtain⟨S2,D2,hrg,hO8,hO9,hMD,hD,hC,hB,hz⟩:=hrel
       have G6:=hid hrg
       have O8:=hid hO8
       have O9:=hid hO9
       have M6:=hid hMD
       have D6:=hid hD
       have C6:=hid hC
       have B6:=hid hB
       clear hrg hO8 hO9 hMD hD hC hB G9 Q8 Q9 M9 D7 C9 B9 hz9'
       go_wp2_with (at_next;refine Stop.halt ?_)
       refine Stop.go ?_
       refine G6.out.wpList_next keyI elem_map (H.out.domA HU.out) (H.out.inn x u HU.out).2.2.1 rfl rfl (by rfl) ?_ ?_
       ·intro hd
        have D7:=hid (D6.out.congr (c':=indeg (prs E) fun z=>!(out++[x]).contains z) fun y=>by
         rw[if_neg,Nat.add_zero]
         rintro⟨hy,hs⟩
         rw[←(H.out.inn x u HU.out).2.2.2] at hy
         obtain⟨q,hq,hq2⟩:=List.mem_map.1 hy
         rw[←hq2,hd q hq] at hs
         cases hs)
        have hll:=HLL.out j x HX.out
        have HLL2:=hid (show(leftF N (out++[x])).length=nl - 1 by have:=HN9.out;omega)
        clear hd hll
        go_wp2_with fail
        go_roundg (nl - 1)
        case measure=>have:=HK.out;have:=HN9.out;omega
        case rel=>exact⟨out++[x],D2,HLL2.out.symm,by simpa using O8.out,O9.out,HNE2.out,M6.out,D7.out,C6.out,by rw[HLL2.out];exact HT2.out,by rw[HLL2.out];simp;omega,B6.out,by omega⟩
       ·intro b0 v0 w5 k4 hbm hS2 hrg4 hlt4 hg4 hz5 hen
        have hbr:=hid (show b0 ∈ row (prs E) x by rw[←(H.out.inn x u HU.out).2.2.2];exact List.mem_map.2 ⟨_,hbm,rfl⟩)
        have hb0:dI b0:=H.out.domR x b0 hbr.out
        have hbN:=hid (HPN2.out _ (mem_row.1 hbr.out))
        have G7:=hid hrg4
        have P8:=hid (O8.out.nextK G6.out.iterAt hg4)
        have P9:=hid (O9.out.nextK G6.out.iterAt hg4)
        have M7:=hid (M6.out.nextK G6.out.iterAt hg4)
        have C7:=hid (row_nextK C6.out G6.out.iterAt hg4)
        have B7:=hid (below_next B6.out hg4 B6.out.size (by omega))
        have lk:=lookI M7.out (D6.out.dom H.out.domN) hb0
        have hv:(fnd b0 D2).getD 0=((indeg (prs E) (fun z=>!(out++[x]).contains z) b0:Nat):Int)+1:=by rw[D6.out.at',if_pos ⟨hbr.out,hS2⟩];rfl
        rw[hv] at lk
        have hvl:=HIL.out (fun z=>!(out++[x]).contains z) b0
        have hDl:=D6.out.length
        have D8:=hid (D6.out.put (b:=b0) (v:=((indeg (prs E) (fun z=>!(out++[x]).contains z) b0:Nat):Int)) (c':=fun y=>indeg (prs E) (fun z=>!(out++[x]).contains z) y+if y ∈ row (prs E) x∧(S2 y&&!(y==b0))=true then 1 else 0) hbN.out (by simp) (fun y hy=>by
         have:(y==b0)=false:=by simpa using hy
         simp[this]))
        generalize indeg (prs E) (fun z=>!(out++[x]).contains z) b0=vb at *
        have hcc:=row_cell C7.out 0
        have hz6:r2+1≤w5.heap.size:=by omega
        clear hrg4 hg4 hS2 hbm hz5 G6 O8 O9 M6 C6 B6 hv
        go_wp2_with (at_mapUpdate;refine Stop.halt ?_)
        refine Stop.go ?_
        refine M7.out.wpList_store keyI elem_int (D6.out.dom H.out.domN) D6.out.srt Tryz.underlying138 (v:=(vb:Int)) (by unfold maxLen;omega) hb0 rfl rfl (by rfl) (by rfl) (by go_num) ?_
        intro w6 h6 t6
        have z6:=turned_size t6
        have M9:=hid h6.tight
        have C9:=hid (row_turn C7.out t6)
        have Q8:=hid (P8.out.turn t6)
        have Q9:=hid (P9.out.turn t6)
        have G9:=hid (Rng.turn G7.out t6 (by omega))
        have B9:=hid (B7.out.trans (Below.turned t6 (Nat.le_refl _)))
        have z9:r2+1≤w6.heap.size:=by omega
        clear h6 t6 z6 M7 C7 P8 P9 G7 B7 D6 lk hcc
        go_wp2_with fail
        go_roundg k4
        case measure=>exact hlt4
        case rel=>exact⟨_,_,G9.out,Q8.out,Q9.out,M9.out,D8.out,C9.out,B9.out,z9⟩
  ·intro a0 u w3 k2 hxm hS hrg2 hlt2 hg2 hz2 hen
   have HSa:=hid hS
   have O4:=hid hrg2
   have M4:=hid (M3.out.nextK O3.out.iterAt hg2)
   have C4:=hid (row_nextK C3.out O3.out.iterAt hg2)
   have B4:=hid (below_next B3.out hg2 B3.out.size (by omega))
   have hxm':=hid hxm
   have HaN:=H.out.inN hxm
   have hz3:r1+1≤w3.heap.size:=by omega
   clear hrg2 hg2 hS M3 C3 B3 O3 hz2 hxm
   go_wp2_with (at_range;refine Stop.halt ?_)
   refine Stop.go ?_
   refine((H.out.below B4.out hhi).inn a0 u hxm'.out).2.1.wpList_range keyI (H.out.domA hxm'.out) (H.out.inn a0 u hxm'.out).2.2.1 Tryz.underlying103 rfl rfl (by rfl) ?_
   intro w4 hr4 hg4 hz4
   have B5:=hid (below_ranged B4.out hg4 B4.out.size)
   have M5:=hid (M4.out.none hg4)
   have C5:=hid (row_none C4.out hg4)
   have O5:=hid (Rng.none O4.out hg4)
   have G5:=hid hr4
   have hz4':w3.heap.size+1≤w4.heap.size:=by omega
   have D5:=hid (D3.out.congr (c':=fun x=>indeg (prs E) (fun z=>!S z) x+if x ∈ row (prs E) a0∧(fun _:Int=>true) x=false then 1 else 0) fun x=>by simp)
   obtain⟨r2,hr2⟩:∃r2,r2=w3.heap.size:=⟨_,rfl⟩
   rw[←hr2] at G5 hz4' hz3 ⊢
   have hne:r1≠r2:=by omega
   have hwr2:w.heap.size+2≤r2:=by omega
   have hul:=(H.out.inn a0 u hxm'.out).1
   clear hr4 hg4 hz4 hr2 hen M4 C4 B4 O4
   go_wp2_with fail
   try go_frame
   go_loopg [] (A a0).length (fun k3 wq=>∃S2 D,RngO wq u r2 (A a0) S2 k3∧RngO wq b r1 M (fun z=>S z&&!(z==a0)) k2∧MapI wq w.heap.size D∧DegIs N D (fun x=>indeg (prs E) (fun z=>!S z) x+if x ∈ row (prs E) a0∧S2 x=false then 1 else 0)∧RowC wq (w.heap.size+1) w.heap.size∧Below w.heap.size w wq∧r2+1≤wq.heap.size)
   case atStart=>exact⟨_,D,G5.out,O5.out,M5.out,D5.out,C5.out,B5.out,hz4'⟩
   case round=>
    obtain⟨S2,D',hrg,hO,hMD,hD,hC,hB,hz⟩:=hrel
    have G6:=hid hrg
    have O6:=hid hO
    have M6:=hid hMD
    have D6:=hid hD
    have C6:=hid hC
    have B6:=hid hB
    clear hrg hO hMD hD hC hB G5 O5 M5 D5 C5 B5 hz4' D3
    go_wp2_with (at_next;refine Stop.halt ?_)
    refine Stop.go ?_
    refine G6.out.wpList_next keyI elem_map (H.out.domA hxm'.out) (H.out.inn a0 u hxm'.out).2.2.1 rfl rfl (by rfl) ?_ ?_
    ·intro hd
     have D7:=hid (D6.out.congr (c':=indeg (prs E) fun z=>!(S z&&!(z==a0))) fun x=>by
      rw[indeg_add HSP.out HSa.out]
      congr 1
      by_cases hx:x ∈ row (prs E) a0
      ·have hx2:=mem_row.1 hx
       have hx3:x ∈ (A a0).map (·.1):=by rw[(H.out.inn a0 u hxm'.out).2.2.2];exact hx
       obtain⟨q,hq,hq2⟩:=List.mem_map.1 hx3
       rw[if_pos hx2,if_pos ⟨hx,by rw[←hq2];exact hd q hq⟩]
      ·rw [if_neg fun h=>hx (mem_row.2 h),if_neg fun h=>hx h.1])
     clear hd
     go_wp2_with fail
     go_roundg k2
     case measure=>exact hlt2
     case rel=>exact⟨_,D',O6.out,M6.out,D7.out,C6.out,B6.out,by omega⟩
    ·intro b0 v0 w5 k4 hbm hS2 hrg4 hlt4 hg4 hz5 hen
     have hbr:=hid (show b0 ∈ row (prs E) a0 by rw[←(H.out.inn a0 u hxm'.out).2.2.2];exact List.mem_map.2 ⟨_,hbm,rfl⟩)
     have hb0:dI b0:=H.out.domR a0 b0 hbr.out
     have hbN:=hid (HPN2.out _ (mem_row.1 hbr.out))
     have G7:=hid hrg4
     have O7:=hid (Rng.nextK O6.out G6.out.iterAt hne hg4)
     have M7:=hid (M6.out.nextK G6.out.iterAt hg4)
     have C7:=hid (row_nextK C6.out G6.out.iterAt hg4)
     have B7:=hid (below_next B6.out hg4 B6.out.size (by omega))
     have lk:=lookI M7.out (D6.out.dom H.out.domN) hb0
     have hv:(fnd b0 D').getD 0=((indeg (prs E) (fun z=>!S z) b0:Nat):Int):=by rw[D6.out.at',if_neg (by rw[hS2];simp)];rfl
     rw[hv] at lk
     have hvl:=HIL.out (fun z=>!S z) b0
     have hDl:=D6.out.length
     have D8:=hid (D6.out.put (b:=b0) (v:=((indeg (prs E) (fun z=>!S z) b0:Nat):Int)+1) (c':=fun x=>indeg (prs E) (fun z=>!S z) x+if x ∈ row (prs E) a0∧(S2 x&&!(x==b0))=false then 1 else 0) hbN.out (by simp[hbr.out]) (fun x hx=>by
      have:(x==b0)=false:=by simpa using hx
      simp[this]))
     generalize indeg (prs E) (fun z=>!S z) b0=vb at *
     have hcc:=row_cell C7.out 0
     have hz6:r2+1≤w5.heap.size:=by omega
     clear hrg4 hg4 hS2 hbm hz5 G6 O6 M6 C6 B6 hv
     go_wp2_with (at_mapUpdate;refine Stop.halt ?_)
     refine Stop.go ?_
     refine M7.out.wpList_store keyI elem_int (D6.out.dom H.out.domN) D6.out.srt Tryz.underlying138 (v:=(vb:Int)+1) (by unfold maxLen;omega) hb0 rfl rfl (by rfl) (by rfl) (by rfl) ?_
     intro w6 h6 t6
     have z6:=turned_size t6
     have M9:=hid h6.tight
     have C9:=hid (row_turn C7.out t6)
     have O9:=hid (Rng.turn O7.out t6 (by omega))
     have G9:=hid (Rng.turn G7.out t6 (by omega))
     have B9:=hid (B7.out.trans (Below.turned t6 (Nat.le_refl _)))
     have z7:r2+1≤w6.heap.size:=by omega
     clear h6 t6 z6 M7 C7 O7 G7 B7 D6 lk hcc
     go_wp2_with fail
     go_roundg k4
     case measure=>exact hlt4
     case rel=>exact⟨_,_,G9.out,O9.out,M9.out,D8.out,C9.out,B9.out,z7⟩
end
theorem IsFar.fnd {P:List Pr} {k:Int} {F:List (Int×Int)} (h:IsFar P k F) {a d:Int}:fnd a F=some d↔∃m:Nat,d=m∧Dist P k m a:=by rw[fnd_some h.srt,h.mem]
theorem IsFar.fnd_none {P:List Pr} {k:Int} {F:List (Int×Int)} (h:IsFar P k F) {a:Int}:_root_.Go.Proofs.YtcpfbphcldocpaaGreatDoor.fnd a F=none↔¬Tc P a k:=by
 rw[_root_.Go.Proofs.YtcpfbphcldocpaaGreatDoor.fnd_none,tc_iff_dist]
 constructor
 ·rintro hf ⟨m,hm⟩
  exact hf m ((h.mem a m).2 ⟨m,rfl,hm⟩)
 ·rintro hf u hu
  obtain⟨m,-,hm⟩:=(h.mem a u).1 hu
  exact hf ⟨m,hm⟩
theorem row_lt_take {P:List Pr} {x b c:Int} {j:Nat} (hb:(row P x)[j]?=some b) (hP:Srt P) (hc:c < b) (hm:(x,c) ∈ P):c ∈ (row P x).take j:=by
 have hs:=srt_row hP x
 obtain⟨i,hi,e⟩:=List.getElem_of_mem (mem_row.2 hm)
 have hj:=(List.getElem?_eq_some_iff.1 hb).1
 have hbj:(row P x)[j]=b:=(List.getElem?_eq_some_iff.1 hb).2
 have:i < j:=by
  rcases Nat.lt_trichotomy i j with h|h|h
  ·exact h
  ·subst h;rw[hbj] at e;omega
  ·have:=List.pairwise_iff_getElem.1 hs j i hj hi h
   rw[hbj,e] at this
   omega
 exact List.mem_iff_getElem?.2 ⟨i,by rw[List.getElem?_take_of_lt this,List.getElem?_eq_getElem hi,e]⟩
section
variable {w:World} {lo hi p:Nat} {N:List Int} {E:List Trp}
theorem gr_cycle (h:GrAt w lo hi p N E) (hhi:hi≤w.heap.size) (hN:N.length≤900000) (hE:E.length≤900000):Calls Tryz.prog 68 #[.pointer (some ⟨p,0,none⟩)] w fun e w'=>
  ∃v c,e=.returned v∧OwnI w' w.heap.size v c∧IsCyc (prs E) N c∧Below w.heap.size w w':=by
 have HG:=hid h
 have HOK:=hid h.ok
 have HDN:=hid h.domN
 have HPN:=hid (fun(x:Pr) (hx:x ∈ prs E)=>(h.ok.pair hx).1)
 have HPN2:=hid (fun(x:Pr) (hx:x ∈ prs E)=>(h.ok.pair hx).2)
 clear h
 go_enter Tryz.func68,Tryz.ntmps68
 go_wp2_with fail
 refine(gr_nodes HG.out (by omega)).mono ?_
 rintro e w1 ⟨v,rfl,h1,b1⟩
 obtain⟨ak,ck,rfl,hkm⟩:=h1.sl.ex
 have K1:=hid h1
 have B1:=hid b1
 have z1:=b1.size
 clear h1 b1
 obtain⟨nN,hnN⟩:∃n,n=N.length:=⟨_,rfl⟩
 rw[←hnN] at hN hkm K1 ⊢
 have HNN:=hid hnN.symm
 clear hnN
 go_wp2_with fail
 go_loopw [16] (fun i wr=>∃j:Nat,j≤nN∧i=.int .i64 j∧(∀x ∈ N.take j,¬Tc (prs E) x x)∧Below w1.heap.size w1 wr) (fun i _=>nN - (intOf i).toNat)
 case atStart=>exact⟨0,by omega,by go_num,fun x hx=>by simp at hx,Below.refl _ _⟩
 case round=>
  obtain⟨j,hj,rfl,hno,hB⟩:=hrel
  have HNo:=hid hno
  have HB:=hid hB
  have hz:=hB.size
  clear hno hB
  by_cases hlt:j < nN
  ·obtain ⟨g,k,rfl,-,hg,hx,hc⟩:=OwnI.at (K1.out.below HB.out) HNN.out hlt
   have hkN:=List.mem_of_getElem? hx
   have hkd:dI k:=HDN.out k hkN
   have HX:=hid hx
   have HKN:=hid hkN
   clear hx hkN
   go_wp2_with fail
   refine(gr_far (HG.out.below (B1.out.trans (HB.out.mono z1)) hhi) (Nat.le_trans hhi (Nat.le_trans z1 hz)) (by have:=HNN.out;omega) k hkd).mono ?_
   rintro e w2 ⟨f,F,rfl,hf0,hf,hF,b2⟩
   have F2:=hid hf
   have HF:=hid hF
   have B2:=hid (HB.out.trans (b2.mono hz))
   have z2:=b2.size
   have HFD:=hid (fun q (hq:q ∈ F)=>by
    obtain⟨m,-,hd⟩:=(hF.mem q.1 q.2).1 hq
    obtain⟨c,hc⟩:=hd.head
    exact HDN.out _ (HPN.out (q.1,c) hc):KDom dI F)
   clear hf hF b2 HB hc
   have lk:=lookOkG F2.out HFD.out hkd rfl
   cases hfk:fnd k F with
   |none=>
    rw[hfk] at lk
    simp only[Option.getD_none,Option.isSome_none] at lk
    have hnk:=HF.out.fnd_none.1 hfk
    have HNK:=hid (fun x (hx:x ∈ N.take (j+1))=>by
     rcases(mem_take_step HX.out).1 hx with h|rfl
     ·exact HNo.out x h
     ·exact hnk:∀x ∈ N.take (j+1),¬Tc (prs E) x x)
    clear hfk hnk
    go_wp2_with fail
    go_roundw
    case rel=>exact⟨j+1,by omega,by go_num,HNK.out,B2.out⟩
    case measure=>simp[intOf];omega
   |some d=>
    rw[hfk] at lk
    simp only[Option.getD_some,Option.isSome_some] at lk
    obtain⟨m,rfl,hdm⟩:=HF.out.fnd.1 hfk
    have hmN:m≤900000:=by have:=hdm.le HPN.out;have:=HNN.out;omega
    have hm1:=hdm.1
    have HDM:=hid hdm
    have HLeast:=hid (fun x (hx:x ∈ N) (hlt:x < k)=>by
     have hs:=HOK.out.srtN
     obtain⟨i,hi,e⟩:=List.getElem_of_mem hx
     have hj':=(List.getElem?_eq_some_iff.1 HX.out).1
     have hkj:N[j]=k:=(List.getElem?_eq_some_iff.1 HX.out).2
     refine HNo.out x (List.mem_iff_getElem?.2 ⟨i,?_⟩)
     have hij:i < j:=by
      rcases Nat.lt_trichotomy i j with h|h|h
      ·exact h
      ·subst h;rw[hkj] at e;omega
      ·have:=List.pairwise_iff_getElem.1 hs j i hj' hi h
       rw[hkj,e] at this
       omega
     rw[List.getElem?_take_of_lt hij,List.getElem?_eq_getElem hi,e]:∀x ∈ N,x < k→¬Tc (prs E) x x)
    clear hfk hdm
    go_wp2_with fail
    have O2:=hid (OwnF.lit (f:=intC) (e:=3) (sz:=1) w2 w2.heap.size (Nat.le_refl _) [k] intC_len (by simp))
    have F3:=hid (F2.out.alloc (.cells ([k].flatMap intC).toArray 3))
    have B3:=hid (B2.out.alloc B2.out.size (.cells ([k].flatMap intC).toArray 3))
    have C2:Hid (∀r,Chain (prs E) k m k r→Chain (prs E) k m k ([]++r)):=hid (fun r h=>h)
    go_loopw [6,8] (fun nv v wq=>∃(q:Nat) (l:List Int) (x:Int),1≤q∧q≤m∧nv=.int .i64 q∧(k::l)[l.length]?=some x∧Dist (prs E) k q x∧(∀r,Chain (prs E) k q x r→Chain (prs E) k m k (l++r))∧l.length+q=m∧OwnI wq w2.heap.size v (k::l)∧MapI wq f F∧Below w1.heap.size w1 wq) (fun nv _ _=>(intOf nv).toNat)
    case atStart=>exact⟨m,[],k,hm1,Nat.le_refl _,rfl,rfl,HDM.out,C2.out,by simp,O2.out,F3.out,B3.out⟩
    case round=>
     obtain⟨q,l,x,hq1,hqm,rfl,hlx,hdx,hch,hlq,hO,hMF,hB⟩:=hrel
     have HLX:=hid hlx
     have HDX:=hid hdx
     have HCH:=hid hch
     have HO:=hid hO
     have F4:=hid hMF
     have HB:=hid hB
     have hz:=hB.size
     obtain⟨ao,co,rfl,hom⟩:=hO.sl.ex
     clear hlx hdx hch hO hMF hB O2 F3 B3 C2
     by_cases hq2:2≤q
     ·obtain ⟨nc,hnc⟩:∃nc,nc=(k::l).length:=⟨_,rfl⟩
      rw[←hnc] at hom HO ⊢
      have hnc2:nc=l.length+1:=by rw[hnc];simp
      have hnc3:1≤nc:=by omega
      have hncm:nc≤900000:=by omega
      have hl9:l.length≤900000:=by omega
      obtain⟨g4,y,rfl,hgB,hg4,hy,hcl⟩:=OwnI.at HO.out hnc.symm (k:=nc - 1) (by omega)
      obtain rfl:x=y:=by
       rw[show nc - 1=l.length by omega,HLX.out] at hy
       exact Option.some.inj hy
      have HNC:=hid hnc.symm
      have HLQ:=hid hlq
      have HNC2:=hid hnc2
      obtain⟨xb,hxb⟩:=HDX.out.head
      have hxd:dI x:=HDN.out x (HPN.out (x,xb) hxb)
      clear hnc hy hxb hlq hnc2
      go_wp2_with fail
      refine(gr_out (HG.out.below (B1.out.trans (HB.out.mono z1)) hhi) (by omega) x hxd).mono ?_
      rintro e w5 ⟨v5,rfl,h5,b5⟩
      obtain⟨ar,cr,rfl,hrm⟩:=h5.sl.ex
      have H6:=hid (HO.out.below b5)
      have R6:=hid h5
      have F6:=hid (F4.out.below b5 F4.out.lt)
      have HB6:=hid (HB.out.trans (b5.mono hz))
      have HRX:Hid (∀c,c ∈ row (prs E) x↔(x,c) ∈ prs E):=hid (fun c=>mem_row)
      have HRL:=hid (fun(b c:Int) (j:Nat) (hb:(row (prs E) x)[j]?=some b) (hc:c < b) (hm:(x,c) ∈ prs E)=>row_lt_take hb (srt_prs E) hc hm)
      clear h5 b5 HO F4 HB hcl
      generalize row (prs E) x=R at *
      obtain⟨mR,hmR⟩:∃m,m=R.length:=⟨_,rfl⟩
      rw[←hmR] at hrm R6 ⊢
      have HMR:=hid hmR.symm
      clear hmR
      generalize wr.heap.size=H9 at *
      go_wp2_with fail
      go_loopw [8,46] (fun v i wq=>∃j2:Nat,j2≤mR∧i=.int .i64 j2∧v=.slice (some ⟨g4,0,none⟩) nc co∧OwnI wq w2.heap.size (.slice (some ⟨g4,0,none⟩) nc co) (k::l)∧OwnI wq H9 (.slice ar mR cr) R∧MapI wq f F∧(∀c ∈ R.take j2,¬(c≠k∧Dist (prs E) k (q - 1) c))∧Below w1.heap.size w1 wq) (fun _ i _=>mR - (intOf i).toNat)
      case atStart=>exact⟨0,by omega,by go_num,rfl,H6.out,R6.out,F6.out,fun c hc=>by simp at hc,HB6.out⟩
      case round=>
       obtain⟨j2,hj2,rfl,rfl,hO,hR,hMF,hM,hB⟩:=hrel
       have H7:=hid hO
       have R7:=hid hR
       have F7:=hid hMF
       have HM:=hid hM
       have HB7:=hid hB
       have hz7:=hB.size
       have zb7:w2.heap.size≤wr.heap.size:=by have:=H7.out.lt g4 rfl;omega
       clear hO hR hMF hM hB H6 R6 F6 HB6
       by_cases hlj:j2 < mR
       ·obtain ⟨g5,b0,rfl,-,hg5,hyb,hcb⟩:=OwnI.at R7.out HMR.out hlj
        have HY:=hid hyb
        have hxb:=hid ((HRX.out b0).1 (List.mem_of_getElem? hyb))
        have hbd:dI b0:=HDN.out b0 (HPN2.out (x,b0) hxb.out)
        clear hyb
        have lk:=lookOkG F7.out HFD.out hbd rfl
        cases hfb:fnd b0 F with
        |none=>
         rw[hfb] at lk
         simp only[Option.getD_none,Option.isSome_none] at lk
         have HNB:=hid (fun(h:b0≠k∧Dist (prs E) k (q - 1) b0)=>by
          exact(HF.out.fnd_none.1 hfb) (tc_iff_dist.2 ⟨_,h.2⟩):¬(b0≠k∧Dist (prs E) k (q - 1) b0))
         clear hfb
         go_wp2_with fail
         go_roundw
         case rel=>exact⟨j2+1,by omega,by go_num,rfl,H7.out,R7.out,F7.out,fun c hc=>by
          rcases(mem_take_step HY.out).1 hc with hc|rfl
          ·exact HM.out c hc
          ·exact HNB.out,HB7.out⟩
         case measure=>simp[intOf];omega
        |some d=>
         rw[hfb] at lk
         simp only[Option.getD_some,Option.isSome_some] at lk
         by_cases e3:d=(q:Int) - 1
         ·have q3:(d==(q:Int) - 1)=true:=by simpa using e3
          have HDB:=hid (show Dist (prs E) k (q - 1) b0 by
           obtain⟨m',e4,hd⟩:=HF.out.fnd.1 hfb
           obtain rfl:m'=q - 1:=by omega
           exact hd)
          clear e3
          by_cases e1:b0=k
          ·have q1:(b0 !=k)=false:=by simpa using e1
           have HNB:=hid (fun(h:b0≠k∧Dist (prs E) k (q - 1) b0)=>by
            exact h.1 e1:¬(b0≠k∧Dist (prs E) k (q - 1) b0))
           clear hfb e1
           go_wp2_with fail
           go_roundw
           case rel=>exact⟨j2+1,by omega,by go_num,rfl,H7.out,R7.out,F7.out,fun c hc=>by
            rcases(mem_take_step HY.out).1 hc with hc|rfl
            ·exact HM.out c hc
            ·exact HNB.out,HB7.out⟩
           case measure=>simp[intOf];omega
          ·have q1:(b0 !=k)=true:=by simpa using e1
           have HBK:=hid e1
           clear hfb e1
           go_wp2_with (at_builtin;refine wpList_appF rfl _ _ _ rfl _ 8 Tryz.underlying30 infoI rfl H7.out b0 zb7 (by rfl) (by rfl) (by first|rfl|simp) rfl (in_one _) (by first|omega|(simp only[List.length_append,List.length_cons,List.length_nil,List.length_replicate];omega)) (by first|omega|(simp only[List.length_append,List.length_cons,List.length_nil,List.length_replicate];omega)) ?_;refine Stop.halt ?_)
           refine Stop.go ?_
           intro gn cn wn hn Gn
           have O8:=hid hn
           have F8:=hid (F7.out.grw H7.out Gn)
           have B8:=hid (HB7.out.trans (Gn.below hz7 fun q h=>by have:=(H7.out.lt q h).1;omega))
           have HCH2:=hid (fun r (hr:Chain (prs E) k (q - 1) b0 r)=>by
            have:=HCH.out (b0::r) (by
             obtain⟨q',rfl⟩:∃q',q=q'+2:=⟨q - 2,by omega⟩
             exact⟨b0,r,rfl,hxb.out,HBK.out,HDB.out,fun c hc hm hd=>HM.out c (HRL.out b0 c j2 HY.out hc hm) hd,hr⟩)
            simpa using this:∀r,Chain (prs E) k (q - 1) b0 r→Chain (prs E) k m k ((l++[b0])++r))
           clear hn Gn H7 F7 HB7 R7 HM
           go_wp2_with fail
           go_roundw
           case rel=>exact⟨q - 1,l++[b0],b0,by omega,by omega,by go_num,by simp,HDB.out,HCH2.out,by have:=HLQ.out;simp;omega,by simpa using O8.out,F8.out,B8.out⟩
           case measure=>simp[intOf];omega
         ·have q3:(d==(q:Int) - 1)=false:=by simpa using e3
          have HNB:=hid (fun(h:b0≠k∧Dist (prs E) k (q - 1) b0)=>by
           obtain⟨m',e4,hd⟩:=HF.out.fnd.1 hfb
           have:=hd.uniq h.2
           omega:¬(b0≠k∧Dist (prs E) k (q - 1) b0))
          clear hfb e3
          go_wp2_with fail
          go_roundw
          case rel=>exact⟨j2+1,by omega,by go_num,rfl,H7.out,R7.out,F7.out,fun c hc=>by
           rcases(mem_take_step HY.out).1 hc with hc|rfl
           ·exact HM.out c hc
           ·exact HNB.out,HB7.out⟩
          case measure=>simp[intOf];omega
       ·obtain rfl:j2=mR:=by omega
        exfalso
        obtain⟨q',rfl⟩:∃q',q=q'+2:=⟨q - 2,by omega⟩
        obtain⟨b,hb,hbk,hd⟩:=HDX.out.next (by omega)
        refine HM.out b ?_ ⟨hbk,hd⟩
        rw[←HMR.out,List.take_length]
        exact(HRX.out b).2 hb
     ·obtain rfl:q=1:=by omega
      have HC:=hid (HCH.out [] (by unfold Chain;rfl))
      go_wp2
      go_ret
      refine⟨_,k::l,rfl,HO.out.base (by omega),.inr ⟨k,m,l,HKN.out,HLeast.out,HDM.out,by simpa using HC.out,rfl⟩,B1.out.trans (HB.out.mono z1)⟩
  ·obtain rfl:j=nN:=by omega
   have HE:Hid (N.take j=N):=hid (by rw[←HNN.out,List.take_length])
   go_wp2
   go_ret
   exact⟨_,[],rfl,OwnF.nil _ _,.inl ⟨rfl,fun x hx=>HNo.out x (by rw[HE.out];exact hx)⟩,B1.out.trans (HB.out.mono z1)⟩
end
def bad1 (lev:Int) (inits:List Int) (A:Au) (T:List Bool) (i:Nat):Option (Int×Nat):=match A[i]? with
 |some s=>if lookF lev T i then(explF inits A T i (rdM s) 0 [] s.deeds).map fun k=>(s.id,k) else none
 |none=>none
def badF (lev:Int) (inits:List Int) (A:Au) (T:List Bool):Option (Int×Nat):=(List.range A.length).findSome? (bad1 lev inits A T)
def comF (A:Au) (T:List Bool) (x:Int):Bool:=(List.range A.length).any fun i=>match A[i]? with
 |some s=>decide (s.id=x)&&T.getD i false
 |none=>false
def restS (lev:Int) (A:Au) (T:List Bool):List (Int×Bool):=(List.range A.length).filterMap fun i=>match A[i]? with
 |some s=>if cntd lev s&&!lookF lev T i then some (s.id,false) else none
 |none=>none
def stepsF (lev:Int) (A:Au) (T:List Bool) (ord:List Int):List (Int×Bool):=(ord.map fun x=>(x,comF A T x))++restS lev A T
structure FAn where
 kind:Int
 steps:List (Int×Bool)
 pre:Int
 tx:Int
 deed:Int
 cyc:List Int
def JudgeIs (lev:Int) (inits:List Int) (A:Au) (a:FAn):Prop:=match badF lev inits A (takenF lev A) with
 |some (x,k)=>a=⟨2,[],0,x,k,[]⟩
 |none=>match topoF (prs (graphF lev A (takenF lev A)).2) (graphF lev A (takenF lev A)).1 with
  |some ord=>a=⟨1,stepsF lev A (takenF lev A) ord,0,0,0,[]⟩
  |none=>∃c,IsCyc (prs (graphF lev A (takenF lev A)).2) (graphF lev A (takenF lev A)).1 c∧a=⟨3,[],0,0,0,c⟩
def leftV (A:Au) (T:List Bool) (o:Int):List Nat:=(List.range A.length).filter fun i=>T.getD i false&&(match A[i]? with
 |some s=>(fnd o (wrM s)).isSome
 |none=>false)
def nextV (A:Au) (o v:Int) (left:List Nat):List Nat:=left.filter fun i=>match A[i]? with
 |some s=>fnd o (rdM s)==some v
 |none=>false
def wrV (A:Au) (o:Int) (i:Nat):Int:=match A[i]? with
 |some s=>(fnd o (wrM s)).getD 0
 |none=>0
def versGo (A:Au) (o:Int):Nat→List Nat→List Int→List Int×Bool
 |0,_,out=>(out,true)
 |_+1,[],out=>(out,true)
 |n+1,l,out=>match nextV A o (out.getLastD 0) l with
  |[i]=>versGo A o n (l.filter (· !=i)) (out++[wrV A o i])
  |_=>(out,false)
def versF (lev:Int) (inits:List Int) (A:Au) (o:Int):List Int×Bool:=versGo A o ((leftV A (takenF lev A) o).length+1) (leftV A (takenF lev A) o) [inits.getD o.toNat 0]
