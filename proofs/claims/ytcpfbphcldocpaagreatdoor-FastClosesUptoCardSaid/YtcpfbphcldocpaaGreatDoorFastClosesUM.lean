/- Rows.FastClosesUptoCardSaid: umpire/umpirelaw15.FastCloses returns true at every input, and its arguments read as they did. Printed by wip/tools/gencard.py. Conditions: none but the card's own: the arguments' bulk, package-level variables as the program's text lays them. -/
import Derived.Test.YtcpfbphcldocpaaGreatDoorCards
import Derived.Test.YtcpfbphcldocpaaGreatDoorTie
import Derived.Test.YtcpfbphcldocpaaGreatDoorQC29
import Derived.Test.YtcpfbphcldocpaaGreatDoorQC28
import Derived.Test.YtcpfbphcldocpaaGreatDoorQC27
import Derived.WalkKit
import Derived.ProofKit
import Derived.OpenShut
set_option linter.unusedVariables false
set_option linter.unusedSimpArgs false
set_option linter.unusedSectionVars false
set_option maxRecDepth 100000
set_option maxHeartbeats 4000000
namespace Go.Proofs.YtcpfbphcldocpaaGreatDoor
open Go.ChangeAt Go.ChangeShapes Go.RowKit Go.WideShapes
namespace fastCloses
theorem contract (H:Type) (enc:TypeId×Value->H) (W:World) (base:Nat) (args:Array Value) (ds gs:List (DataW H)) (before:List MemPlace)
  (hval:∀(j:Nat) t v,Tryz.f4.params[j]?=some t->args[j]?=some v->Value.okWide Tryz.prog W .any base t v)
  (hW:DataW.Whole enc Tryz.prog Tryz.f4.params.toList Rows.fastClosesSpec.vars false W args.toList ds gs before) (hL:laidMetH Tryz.prog Rows.fastClosesUptoRow.laid W):
  Calls Tryz.prog 4 args W fun e W'=>∃v,e=.returned v/\Rows.fastClosesSpec.post enc Tryz.prog Tryz.f4 false true false false W args v W':=by
 have hW':=hW;obtain⟨p,q,hA0,hV,rfl,hfz,hnd⟩:=hW;obtain⟨rfl,rfl⟩:=trodVars_none hV;have hA1:=hA0;have hA:DataW.TrodAll enc Tryz.prog W 0 (fun _=>true) true Tryz.f4.params.toList args.toList ds p:=hA0;rw[Tryz.params4] at hA hval;obtain⟨v0,vs0,d0,ds0,p0,q0,hargs,hds,rfl,h0,r0⟩:=trodAll_cons hA;obtain⟨v1,vs1,d1,ds1,p1,q1,rfl,rfl,rfl,h1,r1⟩:=trodAll_cons r0;obtain⟨v2,vs2,d2,ds2,p2,q2,rfl,rfl,rfl,h2,r2⟩:=trodAll_cons r1;obtain⟨v3,vs3,d3,ds3,p3,q3,rfl,rfl,rfl,h3,r3⟩:=trodAll_cons r2;obtain⟨rfl,rfl,rfl⟩:=trodAll_nil r3;obtain rfl:args=#[v0,v1,v2,v3]:=by cases args;simp_all
 subst hds;obtain⟨ov,ae,ce,hos,hes,rfl,hcap,hho,hhe,hod,hed⟩:=NN (hval 0 25 v0 rfl rfl) h0;obtain⟨n1,rfl,rfl,rfl,hn1⟩:=open_int Tryz.underlying3 (hval 1 3 v1 rfl rfl) h1;obtain⟨n2,rfl,rfl,rfl,hn2⟩:=open_int Tryz.underlying3 (hval 2 3 v2 rfl rfl) h2;obtain⟨n3,rfl,rfl,rfl,hn3⟩:=open_int Tryz.underlying3 (hval 3 3 v3 rfl rfl) h3;have hgl:=Vg hL;clear hA0;simp only[List.append_nil] at hW' hA1;refine(Kz ov ae ce hos hes W ⟨hho,hhe,hod,hed,hgl.wd,hgl.er,hgl.pr⟩ hcap n1 hn1 n2 hn2 n3 hn3).mono fun e W' ⟨he,hg⟩=>?_;subst he;exact⟨_,rfl,Nw hW' hA1 (by kernel_rfl) (by kernel_rfl) rfl (fun _ _ _=>(trodAll_cons_mk (shut_bool Tryz.underlying4 _) trodAll_mk0)) rfl rfl
  hg (ok_one (by kernel_rfl) rfl (okWide_bool_mk Tryz.underlying4 _))⟩
theorem reads (os:Os) {H:Type} (enc:TypeId×Value->H):∃places,DataW.whole enc Tryz.prog ((XY os).forCall (fun _ _=>0) ⟨#[],#[.agg #[.slice none 0 0,.slice none 0 0],.int .i64 0,.int .i64 0,.int .i64 0],[]⟩).memory Tryz.f4.params.toList Rows.fastClosesSpec.vars false (#[.agg #[.slice none 0 0,.slice none 0 0],.int .i64 0,.int .i64 0,.int .i64 0]:Array Value).toList 8=some ([.agg [.nil,.nil],.lit (.int .i64 0),.lit (.int .i64 0),.lit (.int .i64 0)],[],places):=
 ⟨[],by kernel_rfl⟩
theorem Kx (os:Os) (started:os.Started) (H:Type) (enc:TypeId×Value->H) (F:Stop.Interp):
  ReturnsInHanded {} Tryz.checked os 4 .any ((Rows.OpenSpec.upto Rows.fastClosesSpec).preRow enc Tryz.prog Tryz.f4 Rows.fastClosesUptoRow.domain false Rows.fastClosesUptoRow.laid) (((Rows.OpenSpec.upto Rows.fastClosesSpec).at F).post enc Tryz.prog Tryz.f4 false true false false):=by
 obtain⟨places,hx⟩:=reads os enc;refine returnsInHanded_of_row (C:=Tryz.checked) (s:=Rows.OpenSpec.upto Rows.fastClosesSpec) own started (by kernel_rfl) Tryz.func4
  (witness_row_atRef (enc:=enc) (C:=Tryz.checked) false (XY os) #[.agg #[.slice none 0 0,.slice none 0 0],.int .i64 0,.int .i64 0,.int .i64 0] rfl (by kernel_rfl) (by kernel_rfl) (by kernel_rfl)
   (OpenSpec.preRow_of_cond 8 hx (by kernel_rfl) (fun k hk=>by cases hk;kernel_rfl) (by kernel_rfl) (laid_met os _))) ?_
 intro W base args ds gs before hval hW _ _ _ hL _ _;exact contract H enc W base args ds gs before hval hW hL
theorem closedX:joinedFacts Tryz.pinned.checked.prog 4 Tryz.f4 (Rows.OpenSpec.upto Rows.fastClosesSpec).bare Rows.fastClosesUptoRow=true:=by kernel_rfl
theorem MM:Rows.FastClosesUptoSaid:=
 OpenClaim.holds_of_cond 4 Tryz.f4 rfl rfl rfl rfl rfl rfl rfl ⟨rfl,rfl,rfl,rfl,rfl⟩ rfl rfl rfl rfl rfl (by kernel_rfl) Tryz.func4 closedX
  (of_decide_eq_true (by kernel_rfl)) (by unfold Func.isWrapper;first|(rw[if_pos (by decide+kernel)];kernel_rfl)|(rw[if_neg (by decide+kernel)];exact⟨rfl,rfl⟩))
  (fun os started H enc _ F=>by rw[OpenClaim.pre_eq_preRow];exact Kx os started H enc F)
theorem plain (f:FuncId) (fn:Func) (hf:Tryz.pinned.checked.prog.funcNamed "umpire/umpirelaw15.FastCloses" =some f) (hfn:Tryz.pinned.checked.prog.funcs[f]?=some fn):
  true=Tryz.pinned.checked.prog.looks []/\∀(j:Nat) t,fn.params[j]?=some t->Tryz.pinned.checked.prog.wantsStandIn t=false:=by
 obtain rfl:f=4:=Option.some.inj ((show Tryz.prog.funcNamed "umpire/umpirelaw15.FastCloses" =some 4 by kernel_rfl).symm.trans hf) |>.symm;obtain rfl:fn=Tryz.f4:=(Option.some.inj (Tryz.func4.symm.trans hfn)).symm;refine⟨by kernel_rfl,fun j t ht=>?_⟩;rw[Tryz.params4] at ht;have hm:=Array.mem_of_getElem? ht;simp only[List.mem_toArray,List.mem_cons,List.not_mem_nil,or_false] at hm;rcases hm with rfl|rfl|rfl|rfl
 ·exact (show Tryz.prog.wantsStandIn 25=false by kernel_rfl)
 ·exact (show Tryz.prog.wantsStandIn 3=false by kernel_rfl)
 ·exact (show Tryz.prog.wantsStandIn 3=false by kernel_rfl)
 ·exact (show Tryz.prog.wantsStandIn 3=false by kernel_rfl)
theorem proved:Rows.FastClosesUptoCardSaid:=
 Claim7.holds_tied_plain_at .later [] _ _ _ _ MM (fun _ h=>by cases h) (by kernel_rfl) (fun _ h=>by cases h) fastClosesUpto_row_tie rfl ⟨rfl,rfl⟩ (by kernel_rfl) rfl plain (by kernel_rfl)
#print axioms proved
end fastCloses
