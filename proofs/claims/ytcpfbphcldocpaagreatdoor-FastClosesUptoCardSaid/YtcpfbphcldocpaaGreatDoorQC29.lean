/- Parts of the proof; the first: What the rows' lists of package-level variables give a walk; a world that meets them. Conditions: those of each theorem, as typed. -/
import Derived.Test.YtcpfbphcldocpaaGreatDoorRows
import Derived.Test.YtcpfbphcldocpaaGreatDoorQC28
import Derived.Test.YtcpfbphcldocpaaGreatDoorQC25
import Derived.Lib.LaidTab
import Derived.Stop.LaidErr
import Derived.Deep.DeepHandedRow
import Derived.Deep.DeepWitnessRowRef
set_option linter.unusedVariables false
set_option linter.unusedSimpArgs false
set_option linter.unusedSectionVars false
set_option maxRecDepth 100000
set_option maxHeartbeats 4000000
namespace Go.Proofs.YtcpfbphcldocpaaGreatDoor
open Go.ChangeAt Go.ChangeShapes Go.RowKit Go.WideShapes
def Xb (zs:List (List UInt8)):DataW Unit:=.agg (zs.map fun z=>.lit (.string z))
theorem Jy {enc:TypeId×Value->Unit} {P:Program} {w:World} {base:Nat} {sp:Nat->Bool} {held:Bool} {fuel:Nat} {t e:TypeId} {n:Nat} {cs:List Value} {zs:List (List UInt8)} {p:List MemPlace}
  (ht:P.underlying t=some (.array n e)) (he:P.underlying e=some .string) (hce:P.cellsOf e=1) (h:DataW.trod enc P w base sp held fuel t cs=some (Xb zs,p)) (i:Nat) (z:List UInt8) (hz:zs[i]?=some z):
  ∃s:ByteArray,cs[i]?=some (.string s)/\s.data.toList=z:=by
 cases fuel with
 |zero=>simp[DataW.trod] at h
 |succ fuel=>
  simp only[DataW.trod,ht,hce,Nat.mul_one] at h
  split at h
  ·rename_i hl
   obtain⟨xs,hm,hx⟩:=Option.map_eq_some_iff.1 h;have hxs:xs.map (·.1)=zs.map fun z=>(DataW.lit (.string z):DataW Unit):=by
    have:=congrArg Prod.fst hx;simpa[Xb] using this
   have hxl:xs.length=n:=by simpa using Lib.mapM_length hm
   have hzl:zs.length=n:=by
    have:=congrArg List.length hxs;simp at this;omega
   have hi:i < n:=by have:=(List.getElem?_eq_some_iff.1 hz).1;omega
   obtain⟨b,hb,hf⟩:=Lib.mapM_at hm i i (by simp[hi]);obtain⟨s,hc,rfl,_⟩:=DataW.trod_string he hf;refine⟨s,?_,?_⟩
   ·have:=congrArg (·[0]?) hc
    simpa[List.getElem?_take,List.getElem?_drop] using this
   ·have h2:(xs.map (·.1))[i]?=some (DataW.lit (.string s.data.toList):DataW Unit):=by simp[hb]
    rw[hxs] at h2;simp only[List.getElem?_map,hz,Option.map_some,Option.some.injEq,DataW.lit.injEq,Lit.string.injEq] at h2;exact h2.symm
  ·cases h
theorem uW {P:Program} {W:World} {name:String} {zs:List (List UInt8)} {rest:List (String×DataW Unit)} {g:Nat} {t e:TypeId} {n:Nat}
  (hg:P.globalNamed name=some g) (hty:(P.globals[g]?).map (·.type)=some t) (ht:P.underlying t=some (.array n e)) (he:P.underlying e=some .string) (hce:P.cellsOf e=1)
  (h:laidMet P ((name,Xb zs)::rest) W) (i:Nat) (z:List UInt8) (hz:zs[i]?=some z):∃s:ByteArray,W.cell? ⟨g,i,none⟩=some (.string s)/\s.data.toList=z:=by
 obtain⟨ps,⟨g',t',cs,fuel,p,q,hg',ht',hvar,hd,_,_⟩,_⟩:=h;obtain rfl:=Option.some.inj (hg.symm.trans hg');obtain rfl:=Option.some.inj (hty.symm.trans ht');obtain⟨s,h1,h2⟩:=Jy ht he hce hd i z hz;have:=World.var?_cell hg hvar i;exact⟨s,by rw[this];simpa using h1,h2⟩
theorem Jb {s:ByteArray} {l:List UInt8} (h:s.data.toList=l):s=⟨l.toArray⟩:=by
 obtain⟨⟨d⟩⟩:=s;simp only at h;subst h;rfl
theorem live_of {W:World} {b off:Nat} {u:Value} (h:W.cell? ⟨b,off,none⟩=some u):b < W.heap.size:=(UB h).1
theorem errRow (u:TypeId) (h:Tryz.prog.typeName? 3 u=some "*errors.errorString"):u=356:=
 typeName_ptr_named (nm:= "errors.errorString") (by rw[show "*" ++ "errors.errorString" = "*errors.errorString" by decide];kernel_rfl) (by kernel_rfl) (by decide) u (by rw[show "*" ++ "errors.errorString" = "*errors.errorString" by decide];exact h)
theorem uh {n:String} {text:List UInt8} {r:List (String×DataW Unit)} {W:World} {g gA:Nat} (h:laidMet Tryz.prog ((n,.iface "*errors.errorString" (.ptr (.agg [.lit (.string text)])))::r) W) (hg:Tryz.prog.globalNamed n=some g) (ht:(Tryz.prog.globals[g]?).map (·.type)=some 34) (hl:g<=gA) (hb:gA < W.heap.size):jh W g:=by
 obtain⟨a,s,hv,-⟩:=laid_sentinel (P:=Tryz.prog) (tp:=356) (te:=370) (ts:=9) h hg ht Tryz.underlying34 errRow Tryz.underlying356 Tryz.underlying370 rfl rfl Tryz.underlying9 (by kernel_rfl) (by kernel_rfl);have c:=World.var?_cell (P:=Tryz.prog) hg hv 0;exact⟨by omega,356,.pointer (some a),by simpa using c⟩
theorem Vg {W:World} (h:laidMet Tryz.prog Rows.fastClosesUptoRow.laid W):GlF W:=by
 have hTO:laidMet Tryz.prog (("umpire/event.objects",Xb [[114,101,103,105,115,116,101,114],[99,111,117,110,116,101,114],[113,117,101,117,101],[109,97,112]])::_) W:=h.tail.tail.tail.tail.tail.tail.tail.tail.tail.tail.tail.tail;obtain⟨sO0,cO0,eO0⟩:=uW (P:=Tryz.prog) (show Tryz.prog.globalNamed "umpire/event.objects" =some 18 by kernel_rfl) (show(Tryz.prog.globals[18]?).map (·.type)=some 325 by kernel_rfl) Tryz.underlying325 Tryz.underlying9 (by kernel_rfl) hTO 0 _ rfl;rw[Jb eO0] at cO0;obtain⟨sO1,cO1,eO1⟩:=uW (P:=Tryz.prog) (show Tryz.prog.globalNamed "umpire/event.objects" =some 18 by kernel_rfl) (show(Tryz.prog.globals[18]?).map (·.type)=some 325 by kernel_rfl) Tryz.underlying325 Tryz.underlying9 (by kernel_rfl) hTO 1 _ rfl;rw[Jb eO1] at cO1;obtain⟨sO2,cO2,eO2⟩:=uW (P:=Tryz.prog) (show Tryz.prog.globalNamed "umpire/event.objects" =some 18 by kernel_rfl) (show(Tryz.prog.globals[18]?).map (·.type)=some 325 by kernel_rfl) Tryz.underlying325 Tryz.underlying9 (by kernel_rfl) hTO 2 _ rfl;rw[Jb eO2] at cO2;obtain⟨sO3,cO3,eO3⟩:=uW (P:=Tryz.prog) (show Tryz.prog.globalNamed "umpire/event.objects" =some 18 by kernel_rfl) (show(Tryz.prog.globals[18]?).map (·.type)=some 325 by kernel_rfl) Tryz.underlying325 Tryz.underlying9 (by kernel_rfl) hTO 3 _ rfl;rw[Jb eO3] at cO3;have hTK:laidMet Tryz.prog (("umpire/event.answers",Xb [[111,107],[110,111,110,101],[118,97,108]])::_) W:=h.tail.tail.tail.tail.tail.tail.tail.tail.tail.tail.tail.tail.tail.tail.tail;obtain⟨sK0,cK0,eK0⟩:=uW (P:=Tryz.prog) (show Tryz.prog.globalNamed "umpire/event.answers" =some 21 by kernel_rfl) (show(Tryz.prog.globals[21]?).map (·.type)=some 328 by kernel_rfl) Tryz.underlying328 Tryz.underlying9 (by kernel_rfl) hTK 0 _ rfl;rw[Jb eK0] at cK0;obtain⟨sK1,cK1,eK1⟩:=uW (P:=Tryz.prog) (show Tryz.prog.globalNamed "umpire/event.answers" =some 21 by kernel_rfl) (show(Tryz.prog.globals[21]?).map (·.type)=some 328 by kernel_rfl) Tryz.underlying328 Tryz.underlying9 (by kernel_rfl) hTK 1 _ rfl;rw[Jb eK1] at cK1;obtain⟨sK2,cK2,eK2⟩:=uW (P:=Tryz.prog) (show Tryz.prog.globalNamed "umpire/event.answers" =some 21 by kernel_rfl) (show(Tryz.prog.globals[21]?).map (·.type)=some 328 by kernel_rfl) Tryz.underlying328 Tryz.underlying9 (by kernel_rfl) hTK 2 _ rfl;rw[Jb eK2] at cK2;have hbig:21 < W.heap.size:=live_of cK0;exact⟨⟨hbig,cK0,cK1,cK2,cO0,cO1,cO2,cO3⟩,⟨⟨uh (n:= "umpire/api.ErrCode") (h.tail) (by kernel_rfl) (by kernel_rfl) (by decide) hbig,uh (n:= "umpire/api.ErrEvent") (h.tail.tail.tail) (by kernel_rfl) (by kernel_rfl) (by decide) hbig,uh (n:= "umpire/api.ErrObject") (h.tail.tail) (by kernel_rfl) (by kernel_rfl) (by decide) hbig,uh (n:= "umpire/api.ErrOp") (h.tail.tail.tail.tail) (by kernel_rfl) (by kernel_rfl) (by decide) hbig,uh (n:= "umpire/api.ErrMany") (h) (by kernel_rfl) (by kernel_rfl) (by decide) hbig⟩,uh (n:= "umpire/api.ErrTwice") (h.tail.tail.tail.tail.tail.tail.tail) (by kernel_rfl) (by kernel_rfl) (by decide) hbig,uh (n:= "umpire/api.ErrThread") (h.tail.tail.tail.tail.tail.tail.tail.tail) (by kernel_rfl) (by kernel_rfl) (by decide) hbig,uh (n:= "umpire/api.ErrTx") (h.tail.tail.tail.tail.tail.tail) (by kernel_rfl) (by kernel_rfl) (by decide) hbig,uh (n:= "umpire/api.ErrOrder") (h.tail.tail.tail.tail.tail.tail.tail.tail.tail) (by kernel_rfl) (by kernel_rfl) (by decide) hbig,uh (n:= "umpire/api.ErrAnswer") (h.tail.tail.tail.tail.tail) (by kernel_rfl) (by kernel_rfl) (by decide) hbig⟩,uh (n:= "umpire/api.ErrPremise") (h.tail.tail.tail.tail.tail.tail.tail.tail.tail.tail.tail) (by kernel_rfl) (by kernel_rfl) (by decide) hbig⟩
theorem own:ownKnob Tryz.prog.godebug=none:=by kernel_rfl
noncomputable def low:Nat:=(World.holding Tryz.prog default ⟨#[],#[],[]⟩).heap.size
def jm (h:Array Obj) (g:Nat) (cs:Array Value):Array Obj:=h.modify g fun
 |.cells _ t frozen=>.cells cs t frozen
 |o=>o
noncomputable def XY (os:Os):World:=
 let w0:=World.holding Tryz.prog os ⟨#[.cells #[.string ⟨#[116,111,111,32,109,97,110,121]⟩] 370,
  .cells #[.string ⟨#[110,111,32,115,117,99,104,32,99,111,100,101]⟩] 370,
  .cells #[.string ⟨#[110,111,32,111,98,106,101,99,116]⟩] 370,
  .cells #[.string ⟨#[110,111,32,101,118,101,110,116]⟩] 370,
  .cells #[.string ⟨#[110,111,32,111,112,101,114,97,116,105,111,110,32,111,102,32,116,104,97,116,32,111,98,106,101,99,116]⟩] 370,
  .cells #[.string ⟨#[110,111,32,97,110,115,119,101,114,32,111,102,32,116,104,97,116,32,111,112,101,114,97,116,105,111,110]⟩] 370,
  .cells #[.string ⟨#[110,111,32,115,117,99,104,32,116,114,97,110,115,97,99,116,105,111,110]⟩] 370,
  .cells #[.string ⟨#[105,116,32,104,97,115,32,98,101,103,117,110,32,97,108,114,101,97,100,121]⟩] 370,
  .cells #[.string ⟨#[116,104,101,32,116,104,114,101,97,100,32,105,115,32,98,117,115,121]⟩] 370,
  .cells #[.string ⟨#[105,116,32,100,111,101,115,32,110,111,116,32,99,111,109,101,32,104,101,114,101]⟩] 370,
  .cells #[.string ⟨#[110,111,32,108,101,118,101,108]⟩] 370,
  .cells #[.string ⟨#[116,104,101,32,102,97,115,116,32,119,97,121,32,100,111,101,115,32,110,111,116,32,103,111,32,104,101,114,101]⟩] 370],#[],[]⟩
 let h0:=jm w0.heap 4 #[.iface 356 (.pointer (some ⟨low+0,0,none⟩))]
 let h1:=jm h0 15 #[.iface 356 (.pointer (some ⟨low+1,0,none⟩))]
 let h2:=jm h1 3 #[.iface 356 (.pointer (some ⟨low+2,0,none⟩))]
 let h3:=jm h2 8 #[.iface 356 (.pointer (some ⟨low+3,0,none⟩))]
 let h4:=jm h3 7 #[.iface 356 (.pointer (some ⟨low+4,0,none⟩))]
 let h5:=jm h4 16 #[.iface 356 (.pointer (some ⟨low+5,0,none⟩))]
 let h6:=jm h5 11 #[.iface 356 (.pointer (some ⟨low+6,0,none⟩))]
 let h7:=jm h6 12 #[.iface 356 (.pointer (some ⟨low+7,0,none⟩))]
 let h8:=jm h7 13 #[.iface 356 (.pointer (some ⟨low+8,0,none⟩))]
 let h9:=jm h8 14 #[.iface 356 (.pointer (some ⟨low+9,0,none⟩))]
 let h10:=jm h9 2 #[.iface 356 (.pointer (some ⟨low+10,0,none⟩))]
 let h11:=jm h10 6 #[.iface 356 (.pointer (some ⟨low+11,0,none⟩))]
 let h12:=jm h11 18 #[.string ⟨#[114,101,103,105,115,116,101,114]⟩,.string ⟨#[99,111,117,110,116,101,114]⟩,.string ⟨#[113,117,101,117,101]⟩,.string ⟨#[109,97,112]⟩]
 let h13:=jm h12 19 #[.string ⟨#[98,101,103,105,110]⟩,.string ⟨#[99,97,108,108]⟩,.string ⟨#[114,101,116,117,114,110]⟩,.string ⟨#[116,114,121]⟩,.string ⟨#[99,111,109,109,105,116]⟩,.string ⟨#[97,98,111,114,116]⟩,.string ⟨#[99,97,110,99,101,108]⟩]
 let h14:=jm h13 20 #[.string ⟨#[114,101,97,100]⟩,.string ⟨#[119,114,105,116,101]⟩,.string ⟨#[97,100,100]⟩,.string ⟨#[103,101,116]⟩,.string ⟨#[101,110,113]⟩,.string ⟨#[100,101,113]⟩,.string ⟨#[112,117,116]⟩,.string ⟨#[108,111,111,107]⟩,.string ⟨#[100,101,108]⟩]
 let h15:=jm h14 21 #[.string ⟨#[111,107]⟩,.string ⟨#[110,111,110,101]⟩,.string ⟨#[118,97,108]⟩]
 let h16:=jm h15 22 #[.string ⟨#[108,105,118,101]⟩,.string ⟨#[112,101,110,100,105,110,103]⟩,.string ⟨#[99,111,109,109,105,116,116,101,100]⟩,.string ⟨#[97,98,111,114,116,101,100]⟩]
 let h17:=jm h16 23 #[.string ⟨#[115,101,114,105,97,108]⟩,.string ⟨#[115,116,114,105,99,116]⟩,.string ⟨#[102,105,110,97,108]⟩,.string ⟨#[111,112,97,113,117,101]⟩]
 {w0 with heap:=h17}
theorem laid_met (os:Os) (args:Array Value):laidMet Tryz.prog Rows.fastClosesUptoRow.laid ((XY os).forCall (fun _ _=>0) ⟨#[],args,[]⟩).memory:=
 laidMet_of_run' 8 (by kernel_rfl) (by kernel_rfl)
