/- Parts of the proof, merged by program out of 2 texts (PlO, RawS): the first: A transaction done in its place; transactions one behind the other. Conditions: those of each theorem, as typed. -/
import Derived.Test.YtkfhgifhfkcehaaGreatDoorQL28
import Derived.Test.YtkfhgifhfkcehaaGreatDoorQL27
import Derived.Test.YtkfhgifhfkcehaaGreatDoorQL29
import Derived.Test.YtkfhgifhfkcehaaGreatDoorQL18
import Derived.DeepKeys4
set_option linter.unusedVariables false
set_option linter.unusedSimpArgs false
set_option linter.unusedSectionVars false
set_option maxRecDepth 100000
set_option maxHeartbeats 4000000
namespace Go.Proofs.YtkfhgifhfkcehaaGreatDoor
open Go.MapKept Go.Maps Go.RowKit
section
attribute [local irreducible] wpL
def OneMid (w W1:World) (a:Option Addr) (cp:Nat) (σ ρ:List Int) (b off n tc k:Nat) (x:Int) (c al:Bool) (v31 v32 dv:Value):Exit→Act→World→Prop:=fun e a' X=>∃(pb:Nat) (v':Value),e=.normal∧a'={tmps:=#[(.agg #[.slice a σ.length cp]),.slice (some ⟨b,off,none⟩) n tc,.agg #[.int .i64 x,.bool c],.bool al,.pointer (some ⟨w.heap.size,0,none⟩),undef,.pointer (some ⟨w.heap.size+1,0,none⟩),undef,.pointer (some ⟨w.heap.size+1+1,0,none⟩),.nilIface,.int .i64 k,.bool true,.pointer (some ⟨pb,0,none⟩),.nilIface,undef,undef,.tuple #[.int .i64 k,.bool true],.slice (some ⟨b,off,none⟩) n tc,.pointer (some ⟨w.heap.size+1,0,none⟩),.int .i64 x,.tuple #[.int .i64 k,.bool true],.int .i64 k,.bool true,.bool true,.bool false,undef,undef,.pointer (some ⟨w.heap.size+1,1,none⟩),.bool c,.bool !c,.bool !c,v31,v32,.bool false,undef,.tuple #[.agg #[v'],.nilIface],(.agg #[.slice a σ.length cp]),.slice (some ⟨b,off,none⟩) n tc,.int .i64 k,.pointer (some ⟨b,off+k*7,none⟩),.pointer (some ⟨b,off+k*7+6,none⟩),dv,.tuple #[.agg #[v'],.nilIface],.agg #[v'],.nilIface,undef,undef,undef,undef,undef,undef,undef,undef,undef,undef,undef,undef,undef,undef,undef,undef],defers:=[]}∧
 X.heap[pb]?=some (.cells #[v'] 46 (0,0))∧OwnS X 0 v' ρ∧(v'=.slice a σ.length cp∨∀k,v'.ownBlock=some k→W1.heap.size≤k)∧Below W1.heap.size W1 X∧W1.heap.size≤pb
theorem pl_ta (X:World):Sem.run Tryz.prog (Instr.typeAssert .nilIface 30 108 true) X=.ok (.tuple #[.pointer none,.bool false]) X:=by
 simp[Instr.typeAssert,go_sem]
attribute [local go_sem] pl_ta
theorem pl_one {B k:Nat} (v tv:Value) (σ τ:List Int) (A:Au) (x:Int) (c al:Bool) {s:St} (w:World) (h:OwnS w 0 v σ) (hl:σ.length≤1000) (hT:TxsAt w B tv A) (hs:A[k]?=some s) (hx:s.id=x)
  (hn:∀(j:Nat) (t:St),j < k→A[j]?=some t→t.id≠x) (hok:∀d ∈ s.deeds,DdR σ.length d) (hE:ErrAt 15 w) (hst:stepO (fun _=>s.deeds) al σ (x,c)=some τ):
  Calls Tryz.prog 77 #[stV v,tv,.agg #[.int .i64 x,.bool c],.bool al] w fun e w'=>(∃v',e=.returned (.tuple #[stV v',.nilIface])∧OwnS w' 0 v' τ∧(v'=v∨∀k,v'.ownBlock=some k→w.heap.size≤k))∧Below w.heap.size w w':=by
 obtain⟨a,cp,rfl,hm⟩:=(OwnF.sl h).ex
 obtain⟨rs,hv,hvl,hvc⟩:=id hT
 obtain⟨ta,tc,htv⟩:∃a c,tv=.slice a A.length c:=by
  obtain⟨a,c,e⟩:=OwnF.slv hv
  exact⟨a,c,by rw[e,hvl]⟩
 subst htv
 have hkl:k < rs.length:=by have:=(List.getElem?_eq_some_iff.1 hs).1;omega
 have hbig:A.length≤9223372036854775807:=by obtain⟨_,_,_,hb⟩:=OwnF.form2 hv;omega
 have hkA:k < A.length:=by omega
 have hsl:=OwnF.sl hv
 rw[hvl] at hsl
 obtain⟨b,off,r,hat,hb,hr,hc⟩:=hsl.atF TxR.len hvl hkA
 obtain⟨hro,hdo⟩:=hvc k r s hr hs
 subst hat
 have c6:=hc 6 (by decide)
 obtain⟨rid,rth,rst,rbe,rfi,rtr,rdv⟩:=r
 simp only at hdo
 obtain⟨dA,dC,rfl⟩:=OwnF.slv hdo
 simp[TxR.cells] at c6
 clear hv hvc hr hc hro hvl hkl hsl
 have b0:Below w.heap.size w (((w.alloc (.cells #[.slice a σ.length cp] 46)).alloc (.cells #[.int .i64 x,.bool c] 58)).alloc (.cells #[.slice none 0 0] 46)):=(((Below.refl _ w).alloc (Nat.le_refl _) _).alloc (by simp) _).alloc (by simp;omega) _
 have r0:=row_old (o:=.cells #[.slice none 0 0] 46) (row_old (o:=.cells #[.int .i64 x,.bool c] 58) (row_new w (.cells #[.slice a σ.length cp] 46)))
 have r1:=row_old (o:=.cells #[.slice none 0 0] 46) (row_new (w.alloc (.cells #[.slice a σ.length cp] 46)) (.cells #[.int .i64 x,.bool c] 58))
 have r2:=row_new ((w.alloc (.cells #[.slice a σ.length cp] 46)).alloc (.cells #[.int .i64 x,.bool c] 58)) (.cells #[.slice none 0 0] 46)
 simp only[World.size_alloc] at r1 r2
 have hz:(((w.alloc (.cells #[.slice a σ.length cp] 46)).alloc (.cells #[.int .i64 x,.bool c] 58)).alloc (.cells #[.slice none 0 0] 46)).heap.size=w.heap.size+3:=by simp
 go_enter Tryz.func77,Tryz.ntmps77
 go_wp2_with fail
 generalize ((w.alloc (.cells #[.slice a σ.length cp] 46)).alloc (.cells #[.int .i64 x,.bool c] 58)).alloc (.cells #[.slice none 0 0] 46)=W at *
 refine(sh_Find _ A x B W (hT.below b0) hs hx hn).mono ?_
 rintro e W1 ⟨rfl,b1⟩
 have B1:=hid (b0.trans (b1.mono b0.size))
 have hlW:W.heap.size≤W1.heap.size:=b1.size
 have R0:=hid (row_below r0 b1 (row_lt r0))
 have R1:=hid (row_below r1 b1 (row_lt r1))
 have R2:=hid (row_below r2 b1 (row_lt r2))
 have H:=hid (OwnF.below h B1.out)
 have HT:=hid (hT.below B1.out)
 have HE:=hid (hE.below B1.out)
 have c6:=cell_below B1.out hb c6
 have HD:=hid (OwnF.below hdo B1.out)
 have hbw:b < W1.heap.size:=by have:=B1.out.size;omega
 have HS:=hid hs
 have HN:=hid hn
 have HOK:=hid hok
 have HST:=hid hst
 have hz1:w.heap.size+3≤W1.heap.size:=by omega
 have lz0:w.heap.size < W1.heap.size:=by omega
 have lz1:w.heap.size+1 < W1.heap.size:=by omega
 have lz2:w.heap.size+1+1 < W1.heap.size:=by omega
 clear b0 r0 r1 r2 b1 hz h hT hE hs hn hok hst hlW hdo
 have e0:=row_cell R0.out 0
 have e1:=row_cell R1.out 0
 have e2:=row_cell R1.out 1
 have e3:=row_cell R2.out 0
 have e3f:=row_free R2.out 0
 simp at e0 e1 e2 e3
 by_cases hca:c=false∧al=false
 ·obtain ⟨rfl,rfl⟩:=hca
  have hτ:σ=τ:=by simpa[stepO] using HST.out
  subst hτ
  go_wp2
  have c0:=row_cell (row_set R2.out 0 (.slice a σ.length cp)) 0
  simp at c0
  have b9:=B1.out.setCell (p:=⟨w.heap.size+2,0,none⟩) (show w.heap.size≤w.heap.size+2 by omega) (.slice a σ.length cp)
  refine bodyPost_ret (v:=.tuple #[stV (.slice a σ.length cp),.nilIface]) (by simp[results,Tryz.results77,go_sem,c0]) rfl ?_
  exact⟨⟨_,rfl,OwnF.other (j:=0) H.out (OwnF.neT H.out R2.out (by decide)) _,.inl rfl⟩,b9⟩
 ·have hca2:c=true∨c=false∧al=true:=by cases c <;> cases al <;> simp_all
  rcases hca2 with rfl|⟨rfl,rfl⟩
  ·have hst:=HST.out
   obtain⟨ρ,hrep⟩:∃ρ,rep σ s.deeds=some ρ:=by
    cases hr:rep σ s.deeds with
    |none=>simp[stepO,hr] at hst
    |some ρ=>exact⟨ρ,rfl⟩
   have hτ:ρ=τ:=by simp[stepO,hrep] at hst;exact hst
   subst hτ
   have RC:=fun X=>pl_RunF (.slice a σ.length cp) (.slice dA s.deeds.length dC) σ s.deeds X
   rw[hrep] at RC
   have RC:=hid RC
   clear hst hrep
   go_wp2_with fail
   refine wp_mono (Q:=OneMid w W1 a cp σ ρ b off A.length tc k x true al undef undef (.slice dA s.deeds.length dC)) ?_ ?_
   ·have bd:Below W1.heap.size W1 W1.drew:=(Below.refl _ W1).drew
    refine wp_rN (W1.heap.size) [1,0,0,0,0,1,3,0,0,0,3,2,0] (.frk [0,1,2,3,4,5] (.fin [6,7,8,9,10,11,12]) (.fin [10,6,7,8,9,11,12])) (by kernel_rfl) ?_
    simp only[wpT,selX,guardAt,sD,sE,sF,sG]
    repeat first|(refine wpL_p fun K hK=>?_;go_simp;refine hK _ _ ?_;clear hK K)|(apply wpL_s;(intro w2 hw2;have hk1:=hw2.cell;have hk3:=hw2.1;clear hw2;go_simp;with_reducible rfl);simp only[Act.put,sA,sB,sC])|refine wpL_yes rfl rfl ?_|(refine wpL_no rfl rfl fun K hK=>?_;simp only[Act.put,sA,sB,sC];refine hK _ _ ?_;clear hK K)|refine wpL_nil ?_
    refine⟨?_,?_⟩
    ·
     repeat first|(refine wpL_p fun K hK=>?_;go_simp;refine hK _ _ ?_;clear hK K)|(apply wpL_s;(intro w2 hw2;have hk1:=hw2.cell;have hk3:=hw2.1;clear hw2;go_simp;with_reducible rfl);simp only[Act.put,sA,sB,sC])|refine wpL_yes rfl rfl ?_|(refine wpL_no rfl rfl fun K hK=>?_;simp only[Act.put,sA,sB,sC];refine hK _ _ ?_;clear hK K)|refine wpL_nil ?_
     refine wpL_k (fun K hK=>?_)
     go_simp
     refine(RC.out W1.drew (OwnF.below H.out bd) hl ((OwnF.sl (OwnF.below HD.out bd)).more (Nat.le_refl _)) HOK.out (HE.out.below bd)).mono ?_
     rintro e W2 ⟨⟨v',rfl,o2,u2⟩,b2⟩
     refine hK _ _ (RN.KeepsN.of_below b2) ?_
     clear hK K
     repeat first|(refine wpL_p fun K hK=>?_;go_simp;refine hK _ _ ?_;clear hK K)|(apply wpL_s;(intro w2 hw2;have hk1:=hw2.cell;have hk3:=hw2.1;clear hw2;go_simp;with_reducible rfl);simp only[Act.put,sA,sB,sC])|refine wpL_yes rfl rfl ?_|(refine wpL_no rfl rfl fun K hK=>?_;simp only[Act.put,sA,sB,sC];refine hK _ _ ?_;clear hK K)|refine wpL_nil ?_
     refine wpL_k (fun K hK=>?_)
     go_simp
     refine hK _ _ (RN.KeepsN.alloc _ _ (by have:=b2.size;exact this)) ?_
     clear hK K
     repeat first|(refine wpL_p fun K hK=>?_;go_simp;refine hK _ _ ?_;clear hK K)|(apply wpL_s;(intro w2 hw2;have hk1:=hw2.cell;have hk3:=hw2.1;clear hw2;go_simp;with_reducible rfl);simp only[Act.put,sA,sB,sC])|refine wpL_yes rfl rfl ?_|(refine wpL_no rfl rfl fun K hK=>?_;simp only[Act.put,sA,sB,sC];refine hK _ _ ?_;clear hK K)|refine wpL_nil ?_
     obtain⟨W3,hW3⟩:∃X,X=W2.alloc (.cells #[.slice none 0 0] 46):=⟨_,rfl⟩
     rw[←hW3]
     have r3:W3.heap[W2.heap.size]?=some (.cells #[.slice none 0 0] 46 (0,0)):=by rw[hW3];exact row_new W2 _
     have b3:Below W2.heap.size W2 W3:=by rw[hW3];exact(Below.refl _ _).alloc (Nat.le_refl _) _
     clear hW3
     have f9:=row_free r3 0
     have e9:=row_cell r3 0
     simp at e9
     have l9:=row_lt r3
     have b4:Below W1.heap.size W1 W3:=(bd.trans b2).trans (b3.mono b2.size)
     have R9:=hid (row_set r3 0 v')
     have O9:=hid (OwnF.other (j:=0) (OwnF.below o2 b3) (OwnF.neT (OwnF.below o2 b3) r3 (by decide)) v')
     have B9:=hid (b4.setCell (p:=⟨W2.heap.size,0,none⟩) b2.size v')
     have U9:=hid u2
     have L9:=hid b2.size
     obtain⟨a',c',rfl,-⟩:=(OwnF.sl o2).ex
     clear r3 b3 b4 o2 u2 b2 bd
     refine wpL_e (fun K hK=>?_)
     go_simp
     refine hK _ _ ?_
     clear hK K
     repeat first|(refine wpL_p fun K hK=>?_;go_simp;refine hK _ _ ?_;clear hK K)|(apply wpL_s;(intro w2 hw2;have hk1:=hw2.cell;have hk3:=hw2.1;clear hw2;go_simp;with_reducible rfl);simp only[Act.put,sA,sB,sC])|refine wpL_yes rfl rfl ?_|(refine wpL_no rfl rfl fun K hK=>?_;simp only[Act.put,sA,sB,sC];refine hK _ _ ?_;clear hK K)|refine wpL_nil ?_
     exact⟨W2.heap.size,_,rfl,rfl,by simpa using R9.out,O9.out,U9.out,B9.out,L9.out⟩
    ·
     repeat first|(refine wpL_p fun K hK=>?_;go_simp;refine hK _ _ ?_;clear hK K)|(apply wpL_s;(intro w2 hw2;have hk1:=hw2.cell;have hk3:=hw2.1;clear hw2;go_simp;with_reducible rfl);simp only[Act.put,sA,sB,sC])|refine wpL_yes rfl rfl ?_|(refine wpL_no rfl rfl fun K hK=>?_;simp only[Act.put,sA,sB,sC];refine hK _ _ ?_;clear hK K)|refine wpL_nil ?_
     refine wpL_k (fun K hK=>?_)
     go_simp
     refine hK _ _ (RN.KeepsN.alloc _ _ (Nat.le_refl _)) ?_
     clear hK K
     repeat first|(refine wpL_p fun K hK=>?_;go_simp;refine hK _ _ ?_;clear hK K)|(apply wpL_s;(intro w2 hw2;have hk1:=hw2.cell;have hk3:=hw2.1;clear hw2;go_simp;with_reducible rfl);simp only[Act.put,sA,sB,sC])|refine wpL_yes rfl rfl ?_|(refine wpL_no rfl rfl fun K hK=>?_;simp only[Act.put,sA,sB,sC];refine hK _ _ ?_;clear hK K)|refine wpL_nil ?_
     obtain⟨W2,hW2⟩:∃X,X=(W1.alloc (.cells #[.slice none 0 0] 46)).drew:=⟨_,rfl⟩
     rw[←hW2]
     have r2:W2.heap[W1.heap.size]?=some (.cells #[.slice none 0 0] 46 (0,0)):=by rw[hW2];exact row_below (B:=W1.heap.size+1) (row_new W1 _) (Below.refl _ _).drew (by omega)
     have ba:Below W1.heap.size W1 W2:=by rw[hW2];exact((Below.refl _ _).alloc (Nat.le_refl _) _).drew
     clear hW2
     refine wpL_k (fun K hK=>?_)
     go_simp
     refine(RC.out W2 (OwnF.below H.out ba) hl ((OwnF.sl (OwnF.below HD.out ba)).more (Nat.le_refl _)) HOK.out (HE.out.below ba)).mono ?_
     rintro e W3 ⟨⟨v',rfl,o2,u2⟩,b2⟩
     refine hK _ _ (RN.KeepsN.of_below (b2.mono ba.size)) ?_
     clear hK K
     repeat first|(refine wpL_p fun K hK=>?_;go_simp;refine hK _ _ ?_;clear hK K)|(apply wpL_s;(intro w2 hw2;have hk1:=hw2.cell;have hk3:=hw2.1;clear hw2;go_simp;with_reducible rfl);simp only[Act.put,sA,sB,sC])|refine wpL_yes rfl rfl ?_|(refine wpL_no rfl rfl fun K hK=>?_;simp only[Act.put,sA,sB,sC];refine hK _ _ ?_;clear hK K)|refine wpL_nil ?_
     have r3:=row_below r2 b2 (row_lt r2)
     have f9:=row_free r3 0
     have e9:=row_cell r3 0
     simp at e9
     have l9:=row_lt r3
     have R9:=hid (row_set r3 0 v')
     have O9:=hid (OwnF.other (j:=0) o2 (OwnF.neT o2 r3 (by decide)) v')
     have B9:=hid ((ba.trans (b2.mono ba.size)).setCell (p:=⟨W1.heap.size,0,none⟩) (Nat.le_refl _) v')
     have U9:=hid (u2.imp id fun h k hk=>Nat.le_trans ba.size (h k hk))
     obtain⟨a',c',rfl,-⟩:=(OwnF.sl o2).ex
     clear r3 r2 o2 u2 b2 ba bd
     refine wpL_e (fun K hK=>?_)
     go_simp
     refine hK _ _ ?_
     clear hK K
     repeat first|(refine wpL_p fun K hK=>?_;go_simp;refine hK _ _ ?_;clear hK K)|(apply wpL_s;(intro w2 hw2;have hk1:=hw2.cell;have hk3:=hw2.1;clear hw2;go_simp;with_reducible rfl);simp only[Act.put,sA,sB,sC])|refine wpL_yes rfl rfl ?_|(refine wpL_no rfl rfl fun K hK=>?_;simp only[Act.put,sA,sB,sC];refine hK _ _ ?_;clear hK K)|refine wpL_nil ?_
     exact⟨W1.heap.size,_,rfl,rfl,by simpa using R9.out,O9.out,U9.out,B9.out,Nat.le_refl _⟩
   ·rintro e a' X ⟨pb,v',rfl,rfl,rx,ox,ux,bx,px⟩
    obtain⟨a',c',rfl,-⟩:=(OwnF.sl ox).ex
    have x0:=row_cell rx 0
    simp at x0
    have xl:=row_lt rx
    have RX2:=hid (row_below R2.out bx (row_lt R2.out))
    have h3:=row_cell RX2.out 0
    have h3f:=row_free RX2.out 0
    simp at h3
    have e4:=cell_below bx (by omega) e2
    have e0:=cell_below bx (by omega) e0
    have hxl:w.heap.size+1+1 < X.heap.size:=by have:=bx.size;omega
    have hxl1:w.heap.size+1 < X.heap.size:=by omega
    have hxl0:w.heap.size < X.heap.size:=by omega
    have BX:=hid (B1.out.trans (bx.mono (by omega)))
    have OX:=hid ox
    have UX:=hid ux
    have HX:=hid (OwnF.below H.out bx)
    clear rx ox ux bx e1 e2 e3 e3f
    go_wp2
    have c0:=row_cell (row_set RX2.out 0 (.slice a' ρ.length c')) 0
    simp at c0
    refine bodyPost_ret (v:=.tuple #[stV (.slice a' ρ.length c'),.nilIface]) (by simp[results,Tryz.results77,go_sem,c0]) rfl ?_
    exact⟨⟨_,rfl,OwnF.other (j:=0) OX.out (OwnF.neT OX.out RX2.out (by decide)) _,UX.out.imp id fun h k hk=>Nat.le_trans (Nat.le_of_lt lz0) (h k hk)⟩,BX.out.setCell (p:=⟨w.heap.size+2,0,none⟩) (show w.heap.size≤w.heap.size+2 by omega) _⟩
  ·have hst:=HST.out
   obtain⟨ρ,hrep⟩:∃ρ,rep σ s.deeds=some ρ:=by
    cases hr:rep σ s.deeds with
    |none=>simp[stepO,hr] at hst
    |some ρ=>exact⟨ρ,rfl⟩
   have hτ:σ=τ:=by simp[stepO,hrep] at hst;exact hst
   subst hτ
   have RC:=fun X=>pl_RunF (.slice a σ.length cp) (.slice dA s.deeds.length dC) σ s.deeds X
   rw[hrep] at RC
   have RC:=hid RC
   clear hst hrep
   go_wp2_with fail
   refine wp_mono (Q:=OneMid w W1 a cp σ ρ b off A.length tc k x false true (.bool true) (.bool false) (.slice dA s.deeds.length dC)) ?_ ?_
   ·have bd:Below W1.heap.size W1 W1.drew:=(Below.refl _ W1).drew
    refine wp_rN (W1.heap.size) [1,0,0,0,0,1,3,0,0,0,3,2,0] (.frk [0,1,2,3,4,5] (.fin [6,7,8,9,10,11,12]) (.fin [10,6,7,8,9,11,12])) (by kernel_rfl) ?_
    simp only[wpT,selX,guardAt,sD,sE,sF,sG]
    repeat first|(refine wpL_p fun K hK=>?_;go_simp;refine hK _ _ ?_;clear hK K)|(apply wpL_s;(intro w2 hw2;have hk1:=hw2.cell;have hk3:=hw2.1;clear hw2;go_simp;with_reducible rfl);simp only[Act.put,sA,sB,sC])|refine wpL_yes rfl rfl ?_|(refine wpL_no rfl rfl fun K hK=>?_;simp only[Act.put,sA,sB,sC];refine hK _ _ ?_;clear hK K)|refine wpL_nil ?_
    refine⟨?_,?_⟩
    ·
     repeat first|(refine wpL_p fun K hK=>?_;go_simp;refine hK _ _ ?_;clear hK K)|(apply wpL_s;(intro w2 hw2;have hk1:=hw2.cell;have hk3:=hw2.1;clear hw2;go_simp;with_reducible rfl);simp only[Act.put,sA,sB,sC])|refine wpL_yes rfl rfl ?_|(refine wpL_no rfl rfl fun K hK=>?_;simp only[Act.put,sA,sB,sC];refine hK _ _ ?_;clear hK K)|refine wpL_nil ?_
     refine wpL_k (fun K hK=>?_)
     go_simp
     refine(RC.out W1.drew (OwnF.below H.out bd) hl ((OwnF.sl (OwnF.below HD.out bd)).more (Nat.le_refl _)) HOK.out (HE.out.below bd)).mono ?_
     rintro e W2 ⟨⟨v',rfl,o2,u2⟩,b2⟩
     refine hK _ _ (RN.KeepsN.of_below b2) ?_
     clear hK K
     repeat first|(refine wpL_p fun K hK=>?_;go_simp;refine hK _ _ ?_;clear hK K)|(apply wpL_s;(intro w2 hw2;have hk1:=hw2.cell;have hk3:=hw2.1;clear hw2;go_simp;with_reducible rfl);simp only[Act.put,sA,sB,sC])|refine wpL_yes rfl rfl ?_|(refine wpL_no rfl rfl fun K hK=>?_;simp only[Act.put,sA,sB,sC];refine hK _ _ ?_;clear hK K)|refine wpL_nil ?_
     refine wpL_k (fun K hK=>?_)
     go_simp
     refine hK _ _ (RN.KeepsN.alloc _ _ (by have:=b2.size;exact this)) ?_
     clear hK K
     repeat first|(refine wpL_p fun K hK=>?_;go_simp;refine hK _ _ ?_;clear hK K)|(apply wpL_s;(intro w2 hw2;have hk1:=hw2.cell;have hk3:=hw2.1;clear hw2;go_simp;with_reducible rfl);simp only[Act.put,sA,sB,sC])|refine wpL_yes rfl rfl ?_|(refine wpL_no rfl rfl fun K hK=>?_;simp only[Act.put,sA,sB,sC];refine hK _ _ ?_;clear hK K)|refine wpL_nil ?_
     obtain⟨W3,hW3⟩:∃X,X=W2.alloc (.cells #[.slice none 0 0] 46):=⟨_,rfl⟩
     rw[←hW3]
     have r3:W3.heap[W2.heap.size]?=some (.cells #[.slice none 0 0] 46 (0,0)):=by rw[hW3];exact row_new W2 _
     have b3:Below W2.heap.size W2 W3:=by rw[hW3];exact(Below.refl _ _).alloc (Nat.le_refl _) _
     clear hW3
     have f9:=row_free r3 0
     have e9:=row_cell r3 0
     simp at e9
     have l9:=row_lt r3
     have b4:Below W1.heap.size W1 W3:=(bd.trans b2).trans (b3.mono b2.size)
     have R9:=hid (row_set r3 0 v')
     have O9:=hid (OwnF.other (j:=0) (OwnF.below o2 b3) (OwnF.neT (OwnF.below o2 b3) r3 (by decide)) v')
     have B9:=hid (b4.setCell (p:=⟨W2.heap.size,0,none⟩) b2.size v')
     have U9:=hid u2
     have L9:=hid b2.size
     obtain⟨a',c',rfl,-⟩:=(OwnF.sl o2).ex
     clear r3 b3 b4 o2 u2 b2 bd
     refine wpL_e (fun K hK=>?_)
     go_simp
     refine hK _ _ ?_
     clear hK K
     repeat first|(refine wpL_p fun K hK=>?_;go_simp;refine hK _ _ ?_;clear hK K)|(apply wpL_s;(intro w2 hw2;have hk1:=hw2.cell;have hk3:=hw2.1;clear hw2;go_simp;with_reducible rfl);simp only[Act.put,sA,sB,sC])|refine wpL_yes rfl rfl ?_|(refine wpL_no rfl rfl fun K hK=>?_;simp only[Act.put,sA,sB,sC];refine hK _ _ ?_;clear hK K)|refine wpL_nil ?_
     exact⟨W2.heap.size,_,rfl,rfl,by simpa using R9.out,O9.out,U9.out,B9.out,L9.out⟩
    ·
     repeat first|(refine wpL_p fun K hK=>?_;go_simp;refine hK _ _ ?_;clear hK K)|(apply wpL_s;(intro w2 hw2;have hk1:=hw2.cell;have hk3:=hw2.1;clear hw2;go_simp;with_reducible rfl);simp only[Act.put,sA,sB,sC])|refine wpL_yes rfl rfl ?_|(refine wpL_no rfl rfl fun K hK=>?_;simp only[Act.put,sA,sB,sC];refine hK _ _ ?_;clear hK K)|refine wpL_nil ?_
     refine wpL_k (fun K hK=>?_)
     go_simp
     refine hK _ _ (RN.KeepsN.alloc _ _ (Nat.le_refl _)) ?_
     clear hK K
     repeat first|(refine wpL_p fun K hK=>?_;go_simp;refine hK _ _ ?_;clear hK K)|(apply wpL_s;(intro w2 hw2;have hk1:=hw2.cell;have hk3:=hw2.1;clear hw2;go_simp;with_reducible rfl);simp only[Act.put,sA,sB,sC])|refine wpL_yes rfl rfl ?_|(refine wpL_no rfl rfl fun K hK=>?_;simp only[Act.put,sA,sB,sC];refine hK _ _ ?_;clear hK K)|refine wpL_nil ?_
     obtain⟨W2,hW2⟩:∃X,X=(W1.alloc (.cells #[.slice none 0 0] 46)).drew:=⟨_,rfl⟩
     rw[←hW2]
     have r2:W2.heap[W1.heap.size]?=some (.cells #[.slice none 0 0] 46 (0,0)):=by rw[hW2];exact row_below (B:=W1.heap.size+1) (row_new W1 _) (Below.refl _ _).drew (by omega)
     have ba:Below W1.heap.size W1 W2:=by rw[hW2];exact((Below.refl _ _).alloc (Nat.le_refl _) _).drew
     clear hW2
     refine wpL_k (fun K hK=>?_)
     go_simp
     refine(RC.out W2 (OwnF.below H.out ba) hl ((OwnF.sl (OwnF.below HD.out ba)).more (Nat.le_refl _)) HOK.out (HE.out.below ba)).mono ?_
     rintro e W3 ⟨⟨v',rfl,o2,u2⟩,b2⟩
     refine hK _ _ (RN.KeepsN.of_below (b2.mono ba.size)) ?_
     clear hK K
     repeat first|(refine wpL_p fun K hK=>?_;go_simp;refine hK _ _ ?_;clear hK K)|(apply wpL_s;(intro w2 hw2;have hk1:=hw2.cell;have hk3:=hw2.1;clear hw2;go_simp;with_reducible rfl);simp only[Act.put,sA,sB,sC])|refine wpL_yes rfl rfl ?_|(refine wpL_no rfl rfl fun K hK=>?_;simp only[Act.put,sA,sB,sC];refine hK _ _ ?_;clear hK K)|refine wpL_nil ?_
     have r3:=row_below r2 b2 (row_lt r2)
     have f9:=row_free r3 0
     have e9:=row_cell r3 0
     simp at e9
     have l9:=row_lt r3
     have R9:=hid (row_set r3 0 v')
     have O9:=hid (OwnF.other (j:=0) o2 (OwnF.neT o2 r3 (by decide)) v')
     have B9:=hid ((ba.trans (b2.mono ba.size)).setCell (p:=⟨W1.heap.size,0,none⟩) (Nat.le_refl _) v')
     have U9:=hid (u2.imp id fun h k hk=>Nat.le_trans ba.size (h k hk))
     obtain⟨a',c',rfl,-⟩:=(OwnF.sl o2).ex
     clear r3 r2 o2 u2 b2 ba bd
     refine wpL_e (fun K hK=>?_)
     go_simp
     refine hK _ _ ?_
     clear hK K
     repeat first|(refine wpL_p fun K hK=>?_;go_simp;refine hK _ _ ?_;clear hK K)|(apply wpL_s;(intro w2 hw2;have hk1:=hw2.cell;have hk3:=hw2.1;clear hw2;go_simp;with_reducible rfl);simp only[Act.put,sA,sB,sC])|refine wpL_yes rfl rfl ?_|(refine wpL_no rfl rfl fun K hK=>?_;simp only[Act.put,sA,sB,sC];refine hK _ _ ?_;clear hK K)|refine wpL_nil ?_
     exact⟨W1.heap.size,_,rfl,rfl,by simpa using R9.out,O9.out,U9.out,B9.out,Nat.le_refl _⟩
   ·rintro e a' X ⟨pb,v',rfl,rfl,rx,ox,ux,bx,px⟩
    obtain⟨a',c',rfl,-⟩:=(OwnF.sl ox).ex
    have x0:=row_cell rx 0
    simp at x0
    have xl:=row_lt rx
    have RX2:=hid (row_below R2.out bx (row_lt R2.out))
    have h3:=row_cell RX2.out 0
    have h3f:=row_free RX2.out 0
    simp at h3
    have e4:=cell_below bx (by omega) e2
    have e0:=cell_below bx (by omega) e0
    have hxl:w.heap.size+1+1 < X.heap.size:=by have:=bx.size;omega
    have hxl1:w.heap.size+1 < X.heap.size:=by omega
    have hxl0:w.heap.size < X.heap.size:=by omega
    have BX:=hid (B1.out.trans (bx.mono (by omega)))
    have OX:=hid ox
    have UX:=hid ux
    have HX:=hid (OwnF.below H.out bx)
    clear rx ox ux bx e1 e2 e3 e3f
    go_wp2
    have c0:=row_cell (row_set RX2.out 0 (.slice a σ.length cp)) 0
    simp at c0
    refine bodyPost_ret (v:=.tuple #[stV (.slice a σ.length cp),.nilIface]) (by simp[results,Tryz.results77,go_sem,c0]) rfl ?_
    exact⟨⟨_,rfl,OwnF.other (j:=0) HX.out (OwnF.neT HX.out RX2.out (by decide)) _,.inl rfl⟩,BX.out.setCell (p:=⟨w.heap.size+2,0,none⟩) (show w.heap.size≤w.heap.size+2 by omega) _⟩
end
structure KeyV {β:Type} (P:Program) (K:TypeId) (κ:β→Value):Prop where
 inj:∀{x y:β},κ x=κ y→x=y
 keyed:Keyed P K
 ok:∀x,∃l,keyOf P K (κ x)=some l
section
variable {β:Type} {κ:β→Value} {P:Program} {K t e:TypeId} {w w':World} {b:Nat} {M:β→Option Value}
def TellsV (κ:β→Value) (es:Array MapEntry) (M:β→Option Value):Prop:=∀k v,M k=some v↔∃x ∈ es.toList,x.key=κ k∧x.val=v
def RawV (κ:β→Value) (w:World) (b:Nat) (M:β→Option Value):Prop:=
 ∃(es:Array MapEntry) (c:Nat),w.heap[b]?=some (.map es c)∧(∀x ∈ es.toList,∃k:β,x.key=κ k)∧Stamped es c∧TellsV κ es M
open Classical in
noncomputable def rupV (M:β→Option Value) (a:β) (v:Option Value):β→Option Value:=fun k=>if k=a then v else M k
theorem rupV_same {a:β} {v:Option Value}:rupV M a v a=v:=by simp[rupV]
theorem rupV_ne {a k:β} {v:Option Value} (h:k≠a):rupV M a v k=M k:=by simp[rupV,h]
theorem RawV.lt (h:RawV κ w b M):b < w.heap.size:=by
 obtain⟨es,c,hb,-⟩:=h
 exact(Array.getElem?_eq_some_iff.1 hb).1
theorem RawV.isMap (h:RawV κ w b M):∃es c,w.heap[b]?=some (.map es c):=let ⟨es,c,hb,_⟩:=h;⟨es,c,hb⟩
theorem RawV.obj (h:RawV κ w b M) (hw:w'.heap[b]?=w.heap[b]?):RawV κ w' b M:=by
 obtain⟨es,c,hb,h⟩:=h
 exact⟨es,c,hw.trans hb,h⟩
theorem RawV.below {B:Nat} (h:RawV κ w b M) (hb:Below B w w') (hlt:b < B):RawV κ w' b M:=h.obj (hb.block b hlt)
theorem RawV.drew (h:RawV κ w b M):RawV κ w.drew b M:=h
theorem RawV.set (h:RawV κ w b M) {g j:Nat} {v:Value} (hg:b≠g):RawV κ (w.setCell ⟨g,j,none⟩ v) b M:=h.obj (RowKit.Below.heap_setCell _ _ _ _ hg)
theorem RawV.made (h:w.heap[b]?=some (.map #[] 0)):RawV κ w b (fun _=>none):=⟨#[],0,h,by simp,stamped_empty 0,by intro k v;simp⟩
theorem RawV.fun {N:β→Option Value} (h:RawV κ w b M) (hN:∀k,N k=M k):RawV κ w b N:=by
 obtain⟨es,c,h1,h2,h3,h4⟩:=h
 exact⟨es,c,h1,h2,h3,fun k v=>by rw[hN];exact h4 k v⟩
theorem RawV.find (T:KeyV P K κ) {es:Array MapEntry} (h2:∀x ∈ es.toList,∃k:β,x.key=κ k) (h4:TellsV κ es M) (w:World) (a:β):
  ((Instr.findKey K (κ a) es.toList).run P w=.ok none w∧(∀x ∈ es.toList,x.key≠κ a)∧M a=none)∨∃j x,(Instr.findKey K (κ a) es.toList).run P w=.ok (some (j,x.val)) w∧es.toList[j]?=some x∧x.key=κ a∧M a=some x.val:=by
 obtain⟨la,ha⟩:=T.ok a
 rcases T.keyed.find w ha es.toList (fun x hx=>by
  obtain⟨k,hk⟩:=h2 x hx
  rw[hk]
  exact T.ok k) with⟨h1,hn⟩|⟨j,x,h1,hj,hx⟩
 ·refine .inl ⟨h1,hn,?_⟩
  cases hM:M a with
  |none=>rfl
  |some v=>
   obtain⟨x,hx,hk,-⟩:=(h4 a v).1 hM
   exact absurd hk (hn x hx)
 ·exact .inr ⟨j,x,h1,hj,hx,(h4 a x.val).2 ⟨x,List.mem_of_getElem? hj,hx,rfl⟩⟩
theorem RawV.look (T:KeyV P K κ) (h:RawV κ w b M) (ht:P.underlying t=some (.map K e)) {zv:Value} (hz:(zeroValue e).run P w=.ok zv w) (a:β) {r:Option Value} (hr:M a=r):
  (Instr.lookup t (.map (some b)) (κ a) false).run P w=.ok (r.getD zv) w∧(Instr.lookup t (.map (some b)) (κ a) true).run P w=.ok (.tuple #[r.getD zv,.bool r.isSome]) w:=by
 obtain⟨es,c,hb,h2,h3,h4⟩:=h
 obtain⟨la,ha⟩:=T.ok a
 rcases RawV.find T h2 h4 w a with⟨h1,-,hM⟩|⟨j,x,h1,-,-,hM⟩ <;>
 ·rw [hM] at hr
  subst hr
  constructor <;> simp[Instr.lookup,run_underlying ht,MapKept.run_getObj_map hb,T.keyed.check w _ ha,h1,hz,Result.andThen]
theorem keysV_push {es:Array MapEntry} {a:β} {v:Value} {c:Nat} (h2:∀x ∈ es.toList,∃k:β,x.key=κ k):∀x ∈ (es.push ⟨κ a,v,c⟩).toList,∃k:β,x.key=κ k:=by
 intro y hy
 simp only[Array.toList_push,List.mem_append,List.mem_singleton] at hy
 rcases hy with hy|rfl
 ·exact h2 y hy
 ·exact ⟨a,rfl⟩
theorem TellsV.push (T:KeyV P K κ) {es:Array MapEntry} (h4:TellsV κ es M) {a:β} {v:Value} {c:Nat} (hn:∀x ∈ es.toList,x.key≠κ a):TellsV κ (es.push ⟨κ a,v,c⟩) (rupV M a (some v)):=by
 intro k u
 simp only[Array.toList_push,List.mem_append,List.mem_singleton]
 by_cases hk:k=a
 ·subst hk
  rw[rupV_same]
  constructor
  ·intro hu
   cases hu
   exact⟨_,.inr rfl,rfl,rfl⟩
  ·rintro ⟨y,hy|rfl,h5,h6⟩
   ·exact absurd h5 (hn y hy)
   ·simpa using h6
 ·rw [rupV_ne hk,h4]
  constructor
  ·rintro ⟨y,hy,h5⟩
   exact⟨y,.inl hy,h5⟩
  ·rintro ⟨y,hy|rfl,h5,h6⟩
   ·exact ⟨y,hy,h5,h6⟩
   ·exact absurd (T.inj h5).symm hk
theorem keysV_modify {es:Array MapEntry} {c:Nat} (hs:Stamped es c) (h2:∀x ∈ es.toList,∃k:β,x.key=κ k) {j:Nat} {x:MapEntry} (hj:es[j]?=some x) {f:MapEntry→MapEntry} {a:β} (hf:(f x).key=κ a):∀y ∈ (es.modify j f).toList,∃k:β,y.key=κ k:=by
 intro y hy
 rcases(mem_modify hs hj f y).1 hy with rfl|⟨hy,-⟩
 ·exact ⟨a,hf⟩
 ·exact h2 y hy
theorem TellsV.modify (T:KeyV P K κ) {es:Array MapEntry} {c:Nat} (hs:Stamped es c) (h4:TellsV κ es M) {j:Nat} {x:MapEntry} (hj:es[j]?=some x) {f:MapEntry→MapEntry} {a:β} (hx:x.key=κ a) (hf:(f x).key=κ a):TellsV κ (es.modify j f) (rupV M a (some (f x).val)):=by
 intro k u
 by_cases hk:k=a
 ·subst hk
  rw[rupV_same]
  constructor
  ·intro hu
   cases hu
   exact⟨_,(mem_modify hs hj f _).2 (.inl rfl),hf,rfl⟩
  ·rintro ⟨y,hy,h5,h6⟩
   rcases(mem_modify hs hj f y).1 hy with rfl|⟨-,hne⟩
   ·rw [h6]
   ·exact absurd (h5.trans hx.symm) hne
 ·rw [rupV_ne hk,h4]
  constructor
  ·rintro ⟨y,hy,h5,h6⟩
   exact⟨y,(mem_modify hs hj f y).2 (.inr ⟨hy,by rw[h5,hx];exact fun e=>hk (T.inj e)⟩),h5,h6⟩
  ·rintro ⟨y,hy,h5,h6⟩
   rcases(mem_modify hs hj f y).1 hy with rfl|⟨hy,-⟩
   ·rw [hf] at h5
    exact absurd (T.inj h5).symm hk
   ·exact ⟨y,hy,h5,h6⟩
theorem RawV.store (T:KeyV P K κ) (h:RawV κ w b M) (ht:P.underlying t=some (.map K e)) (a:β) (v:Value):
  ∃w',(Instr.mapUpdate t (.map (some b)) (κ a) v).run P w=.ok () w'∧RawV κ w' b (rupV M a (some v))∧w.mapTurned w' b:=by
 obtain⟨es,c,hb,h2,h3,h4⟩:=h
 obtain⟨la,ha⟩:=T.ok a
 rcases RawV.find T h2 h4 w a with⟨h1,hn,hM⟩|⟨j,x,h1,hj,hx,hM⟩
 ·refine ⟨ChangeMaps.setBlock w b (.map (es.push ⟨κ a,v,c⟩) (c+1)),?_,⟨_,_,ChangeMaps.heap_setBlock_same hb _,keysV_push h2,stamped_push h3 hn,h4.push T hn⟩,⟨_,_,_,_,hb,rfl⟩⟩
  simp[Instr.mapUpdate,run_underlying ht,MapKept.run_getObj_map hb,T.keyed.check w _ ha,h1,MapKept.run_setObj_map _ hb,Result.andThen,ChangeMaps.setBlock]
 ·have hj':es[j]?=some x:=by simpa using hj
  refine⟨ChangeMaps.setBlock w b (.map (es.modify j fun y=>{y with key:=κ a,val:=v}) c),?_,⟨_,_,ChangeMaps.heap_setBlock_same hb _,keysV_modify h3 h2 hj' (a:=a) rfl,stamped_mod h3 hj' (fun _=>rfl) hx.symm,TellsV.modify (f:=fun y=>{y with key:=κ a,val:=v}) T h3 h4 hj' hx rfl⟩,⟨_,_,_,_,hb,rfl⟩⟩
  simp[Instr.mapUpdate,run_underlying ht,MapKept.run_getObj_map hb,T.keyed.check w _ ha,h1,hj',hx,T.keyed.stays w ha,MapKept.run_setObj_map _ hb,Result.andThen,ChangeMaps.setBlock]
theorem RawV.wp_store (T:KeyV P K κ) (h:RawV κ w b M) (ht:P.underlying t=some (.map K e)) {a:β} {v:Value}
  {o:Oper} {act:Act} {Q:Exit→Act→World→Prop} {K':Act→World→Prop} {m x y:Operand} (hop:o.op=Op.mapUpdate t m x y) (hm:act.eval m=.map (some b)) (hx:act.eval x=κ a) (hy:act.eval y=v)
  (hQ:∀w',RawV κ w' b (rupV M a (some v))→w.mapTurned w' b→K' (act.put o.dst undef) w'):o.wp P act w K' Q:=by
 obtain⟨w',hrun,h1,h2⟩:=h.store T ht a v
 unfold Oper.wp
 simp only[execOp,hop,hm,hx,hy,Sem.run_bind,hrun,Result.andThen_ok,Sem.run_pure]
 exact hQ w' h1 h2
theorem RawV.wpList_store (T:KeyV P K κ) (h:RawV κ w b M) (ht:P.underlying t=some (.map K e)) {a:β} {v:Value}
  {ops:Array Oper} {rest:List Oper} {o:Oper} {act:Act} {Q:Exit→Act→World→Prop} {m x y:Operand} (hg:o.guard=none) (hop:o.op=Op.mapUpdate t m x y) (hm:act.eval m=.map (some b)) (hx:act.eval x=κ a) (hy:act.eval y=v)
  (hQ:∀w',RawV κ w' b (rupV M a (some v))→w.mapTurned w' b→wpList P ops Q rest (act.put o.dst undef) w'):wpList P ops Q (o::rest) act w:=
 wpList_plain hg fun _ hK'=>h.wp_store T ht hop hm hx hy fun w' h1 h2=>hK' _ _ (hQ w' h1 h2)
end
