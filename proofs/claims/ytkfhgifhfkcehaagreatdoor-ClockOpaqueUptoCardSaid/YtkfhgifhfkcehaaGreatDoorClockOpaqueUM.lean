/- Rows.ClockOpaqueUptoCardSaid: umpire/umpirelaw19.ClockOpaque returns true at every input, and its arguments read as they did. Printed by wip/tools/gencard.py. Conditions: none but the card's own: the arguments' bulk, package-level variables as the program's text lays them. -/
import Derived.Test.YtkfhgifhfkcehaaGreatDoorCards
import Derived.Test.YtkfhgifhfkcehaaGreatDoorTie
import Derived.Test.YtkfhgifhfkcehaaGreatDoorQC34
import Derived.Test.YtkfhgifhfkcehaaGreatDoorQC33
import Derived.WalkKit
import Derived.ProofKit
import Derived.OpenShut
set_option linter.unusedVariables false
set_option linter.unusedSimpArgs false
set_option linter.unusedSectionVars false
set_option maxRecDepth 100000
set_option maxHeartbeats 4000000
namespace Go.Proofs.YtkfhgifhfkcehaaGreatDoor
open Go.ChangeAt Go.ChangeShapes Go.RowKit Go.WideShapes
namespace clockOpaque
theorem contract (H:Type) (enc:TypeId×Value->H) (W:World) (base:Nat) (args:Array Value) (ds gs:List (DataW H)) (before:List MemPlace)
  (hval:∀(j:Nat) t v,Tryz.f6.params[j]?=some t->args[j]?=some v->Value.okWide Tryz.prog W .any base t v)
  (hW:DataW.Whole enc Tryz.prog Tryz.f6.params.toList Rows.clockOpaqueSpec.vars false W args.toList ds gs before) (hL:laidMetH Tryz.prog Rows.clockOpaqueUptoRow.laid W):
  Calls Tryz.prog 6 args W fun e W'=>∃v,e=.returned v/\Rows.clockOpaqueSpec.post enc Tryz.prog Tryz.f6 false true false false W args v W':=by
 have hW':=hW;obtain⟨p,q,hA0,hV,rfl,hfz,hnd⟩:=hW;obtain⟨rfl,rfl⟩:=trodVars_none hV;have hA1:=hA0;have hA:DataW.TrodAll enc Tryz.prog W 0 (fun _=>true) true Tryz.f6.params.toList args.toList ds p:=hA0;rw[Tryz.params6] at hA hval;obtain⟨v0,vs0,d0,ds0,p0,q0,hargs,hds,rfl,h0,r0⟩:=trodAll_cons hA;obtain⟨v1,vs1,d1,ds1,p1,q1,rfl,rfl,rfl,h1,r1⟩:=trodAll_cons r0;obtain⟨v2,vs2,d2,ds2,p2,q2,rfl,rfl,rfl,h2,r2⟩:=trodAll_cons r1;obtain⟨rfl,rfl,rfl⟩:=trodAll_nil r2;obtain rfl:args=#[v0,v1,v2]:=by cases args;simp_all
 subst hds;obtain⟨vc,vt,P,rfl,hp⟩:=pg_open (hval 0 25 v0 rfl rfl) h0;obtain⟨l,hs⟩:=sched_open (hval 1 22 v1 rfl rfl) h1;obtain⟨b2,rfl,rfl,rfl⟩:=open_bool Tryz.underlying4 (hval 2 4 v2 rfl rfl) h2;clear hA0;simp only[List.append_nil] at hW' hA1;refine(law_clockOpaque vc vt P v1 l b2 W (glob_of_laid hL) hp hs).mono fun e W' ⟨he,hg⟩=>?_;subst he;exact⟨_,rfl,post_args hW' hA1 (by kernel_rfl) (by kernel_rfl) rfl (fun _ _ _=>(trodAll_cons_mk (shut_bool Tryz.underlying4 _) trodAll_mk0)) rfl rfl
  hg (ok_one (by kernel_rfl) rfl (okWide_bool_mk Tryz.underlying4 _))⟩
theorem reads (os:Os) {H:Type} (enc:TypeId×Value->H):∃places,DataW.whole enc Tryz.prog ((laidWorld os).forCall (fun _ _=>0) ⟨#[],#[.agg #[.slice none 0 0,.slice none 0 0],.slice none 0 0,.bool false],[]⟩).memory Tryz.f6.params.toList Rows.clockOpaqueSpec.vars false (#[.agg #[.slice none 0 0,.slice none 0 0],.slice none 0 0,.bool false]:Array Value).toList 8=some ([.agg [.nil,.nil],.nil,.lit (.bool false)],[],places):=
 ⟨[],by kernel_rfl⟩
theorem liftedUpto (os:Os) (started:os.Started) (H:Type) (enc:TypeId×Value->H) (F:Stop.Interp):
  ReturnsInHanded {} Tryz.checked os 6 .any ((Rows.OpenSpec.upto Rows.clockOpaqueSpec).preRow enc Tryz.prog Tryz.f6 Rows.clockOpaqueUptoRow.domain false Rows.clockOpaqueUptoRow.laid) (((Rows.OpenSpec.upto Rows.clockOpaqueSpec).at F).post enc Tryz.prog Tryz.f6 false true false false):=by
 obtain⟨places,hx⟩:=reads os enc;refine returnsInHanded_of_row (C:=Tryz.checked) (s:=Rows.OpenSpec.upto Rows.clockOpaqueSpec) own started (by kernel_rfl) Tryz.func6
  (witness_row_atRef (enc:=enc) (C:=Tryz.checked) false (laidWorld os) #[.agg #[.slice none 0 0,.slice none 0 0],.slice none 0 0,.bool false] rfl (by kernel_rfl) (by kernel_rfl) (by kernel_rfl)
   (OpenSpec.preRow_of_cond 8 hx (by kernel_rfl) (fun k hk=>by cases hk;kernel_rfl) (by kernel_rfl) (laid_met os _))) ?_
 intro W base args ds gs before hval hW _ _ _ hL _ _;exact contract H enc W base args ds gs before hval hW hL
theorem closedX:joinedFacts Tryz.pinned.checked.prog 6 Tryz.f6 (Rows.OpenSpec.upto Rows.clockOpaqueSpec).bare Rows.clockOpaqueUptoRow=true:=by kernel_rfl
theorem saidUpto:Rows.ClockOpaqueUptoSaid:=
 OpenClaim.holds_of_cond 6 Tryz.f6 rfl rfl rfl rfl rfl rfl rfl ⟨rfl,rfl,rfl,rfl,rfl⟩ rfl rfl rfl rfl rfl (by kernel_rfl) Tryz.func6 closedX
  (of_decide_eq_true (by kernel_rfl)) (by unfold Func.isWrapper;first|(rw[if_pos (by decide+kernel)];kernel_rfl)|(rw[if_neg (by decide+kernel)];exact⟨rfl,rfl⟩))
  (fun os started H enc _ F=>by rw[OpenClaim.pre_eq_preRow];exact liftedUpto os started H enc F)
theorem plain (f:FuncId) (fn:Func) (hf:Tryz.pinned.checked.prog.funcNamed "umpire/umpirelaw19.ClockOpaque" =some f) (hfn:Tryz.pinned.checked.prog.funcs[f]?=some fn):
  true=Tryz.pinned.checked.prog.looks []/\∀(j:Nat) t,fn.params[j]?=some t->Tryz.pinned.checked.prog.wantsStandIn t=false:=by
 obtain rfl:f=6:=Option.some.inj ((show Tryz.prog.funcNamed "umpire/umpirelaw19.ClockOpaque" =some 6 by kernel_rfl).symm.trans hf) |>.symm;obtain rfl:fn=Tryz.f6:=(Option.some.inj (Tryz.func6.symm.trans hfn)).symm;refine⟨by kernel_rfl,fun j t ht=>?_⟩;rw[Tryz.params6] at ht;have hm:=Array.mem_of_getElem? ht;simp only[List.mem_toArray,List.mem_cons,List.not_mem_nil,or_false] at hm;rcases hm with rfl|rfl|rfl
 ·exact (show Tryz.prog.wantsStandIn 25=false by kernel_rfl)
 ·exact (show Tryz.prog.wantsStandIn 22=false by kernel_rfl)
 ·exact (show Tryz.prog.wantsStandIn 4=false by kernel_rfl)
theorem proved:Rows.ClockOpaqueUptoCardSaid:=
 Claim7.holds_tied_plain_at .later [] _ _ _ _ saidUpto (fun _ h=>by cases h) (by kernel_rfl) (fun _ h=>by cases h) clockOpaqueUpto_row_tie rfl ⟨rfl,rfl⟩ (by kernel_rfl) rfl plain (by kernel_rfl)
#print axioms proved
end clockOpaque
