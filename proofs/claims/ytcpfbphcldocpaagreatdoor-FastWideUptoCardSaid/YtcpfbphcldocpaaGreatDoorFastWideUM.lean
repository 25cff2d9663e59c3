/- Rows.FastWideUptoCardSaid: umpire/umpirelaw15.FastWide returns true at every input, and its arguments read as they did. Printed by wip/tools/gencard.py. Conditions: none but the card's own: the arguments' bulk, package-level variables as the program's text lays them. -/
import Derived.Test.YtcpfbphcldocpaaGreatDoorCards
import Derived.Test.YtcpfbphcldocpaaGreatDoorTie
import Derived.Test.YtcpfbphcldocpaaGreatDoorQW24
import Derived.Test.YtcpfbphcldocpaaGreatDoorQW23
import Derived.Test.YtcpfbphcldocpaaGreatDoorQW22
import Derived.WalkKit
import Derived.ProofKit
import Derived.OpenShut
set_option linter.unusedVariables false
set_option linter.unusedSimpArgs false
set_option linter.unusedSectionVars false
set_option maxRecDepth 100000
set_option maxHeartbeats 4000000
namespace Go.Proofs.YtcpfbphcldocpaaGreatDoor
open Go.ChangeAt Go.ChangeShapes Go.RowKit Go.WideShapes
namespace fastWide
theorem qcX (H:Type) (enc:TypeId×Value->H) (W:World) (base:Nat) (args:Array Value) (ds gs:List (DataW H)) (before:List MemPlace)
  (hval:∀(j:Nat) t v,Tryz.f5.params[j]?=some t->args[j]?=some v->Value.okWide Tryz.prog W .any base t v)
  (hW:DataW.Whole enc Tryz.prog Tryz.f5.params.toList Rows.fastWideSpec.vars false W args.toList ds gs before) (hL:laidMetH Tryz.prog Rows.fastWideUptoRow.laid W):
  Calls Tryz.prog 5 args W fun e W'=>∃v,e=.returned v/\Rows.fastWideSpec.post enc Tryz.prog Tryz.f5 false true false false W args v W':=by
 have hW':=hW;obtain⟨p,q,hA0,hV,rfl,hfz,hnd⟩:=hW;obtain⟨rfl,rfl⟩:=trodVars_none hV;have hA1:=hA0;have hA:DataW.TrodAll enc Tryz.prog W 0 (fun _=>true) true Tryz.f5.params.toList args.toList ds p:=hA0;rw[Tryz.params5] at hA hval;obtain⟨v0,vs0,d0,ds0,p0,q0,hargs,hds,rfl,h0,r0⟩:=trodAll_cons hA;obtain⟨v1,vs1,d1,ds1,p1,q1,rfl,rfl,rfl,h1,r1⟩:=trodAll_cons r0;obtain⟨rfl,rfl,rfl⟩:=trodAll_nil r1;obtain rfl:args=#[v0,v1]:=by cases args;simp_all
 subst hds;obtain⟨n0,rfl,rfl,rfl,hn0⟩:=open_int Tryz.underlying3 (hval 0 3 v0 rfl rfl) h0;obtain⟨n1,rfl,rfl,rfl,hn1⟩:=open_int Tryz.underlying3 (hval 1 3 v1 rfl rfl) h1;have hgl:=Wl hL;clear hA0;simp only[List.append_nil] at hW' hA1;refine(qca n0 n1 W hgl hn0 hn1).mono fun e W' ⟨he,hg⟩=>?_;subst he;exact⟨_,rfl,qah hW' hA1 (by kernel_rfl) (by kernel_rfl) rfl (fun _ _ _=>(trodAll_cons_mk (shut_bool Tryz.underlying4 _) trodAll_mk0)) rfl rfl
  hg (ok_one (by kernel_rfl) rfl (okWide_bool_mk Tryz.underlying4 _))⟩
theorem qgL (os:Os) {H:Type} (enc:TypeId×Value->H):∃places,DataW.whole enc Tryz.prog ((YI os).forCall (fun _ _=>0) ⟨#[],#[.int .i64 0,.int .i64 0],[]⟩).memory Tryz.f5.params.toList Rows.fastWideSpec.vars false (#[.int .i64 0,.int .i64 0]:Array Value).toList 8=some ([.lit (.int .i64 0),.lit (.int .i64 0)],[],places):=
 ⟨[],by kernel_rfl⟩
theorem Nc (os:Os) (started:os.Started) (H:Type) (enc:TypeId×Value->H) (F:Stop.Interp):
  ReturnsInHanded {} Tryz.checked os 5 .any ((Rows.OpenSpec.upto Rows.fastWideSpec).preRow enc Tryz.prog Tryz.f5 Rows.fastWideUptoRow.domain false Rows.fastWideUptoRow.laid) (((Rows.OpenSpec.upto Rows.fastWideSpec).at F).post enc Tryz.prog Tryz.f5 false true false false):=by
 obtain⟨places,hx⟩:=qgL os enc;refine returnsInHanded_of_row (C:=Tryz.checked) (s:=Rows.OpenSpec.upto Rows.fastWideSpec) own started (by kernel_rfl) Tryz.func5
  (witness_row_atRef (enc:=enc) (C:=Tryz.checked) false (YI os) #[.int .i64 0,.int .i64 0] rfl (by kernel_rfl) (by kernel_rfl) (by kernel_rfl)
   (OpenSpec.preRow_of_cond 8 hx (by kernel_rfl) (fun k hk=>by cases hk;kernel_rfl) (by kernel_rfl) (qcc os _))) ?_
 intro W base args ds gs before hval hW _ _ _ hL _ _;exact qcX H enc W base args ds gs before hval hW hL
theorem qeI:joinedFacts Tryz.pinned.checked.prog 5 Tryz.f5 (Rows.OpenSpec.upto Rows.fastWideSpec).bare Rows.fastWideUptoRow=true:=by kernel_rfl
theorem qbq:Rows.FastWideUptoSaid:=
 OpenClaim.holds_of_cond 5 Tryz.f5 rfl rfl rfl rfl rfl rfl rfl ⟨rfl,rfl,rfl,rfl,rfl⟩ rfl rfl rfl rfl rfl (by kernel_rfl) Tryz.func5 qeI
  (of_decide_eq_true (by kernel_rfl)) (by unfold Func.isWrapper;first|(rw[if_pos (by decide+kernel)];kernel_rfl)|(rw[if_neg (by decide+kernel)];exact⟨rfl,rfl⟩))
  (fun os started H enc _ F=>by rw[OpenClaim.pre_eq_preRow];exact Nc os started H enc F)
theorem qgN (f:FuncId) (fn:Func) (hf:Tryz.pinned.checked.prog.funcNamed "umpire/umpirelaw15.FastWide" =some f) (hfn:Tryz.pinned.checked.prog.funcs[f]?=some fn):
  true=Tryz.pinned.checked.prog.looks []/\∀(j:Nat) t,fn.params[j]?=some t->Tryz.pinned.checked.prog.wantsStandIn t=false:=by
 obtain rfl:f=5:=Option.some.inj ((show Tryz.prog.funcNamed "umpire/umpirelaw15.FastWide" =some 5 by kernel_rfl).symm.trans hf) |>.symm;obtain rfl:fn=Tryz.f5:=(Option.some.inj (Tryz.func5.symm.trans hfn)).symm;refine⟨by kernel_rfl,fun j t ht=>?_⟩;rw[Tryz.params5] at ht;have hm:=Array.mem_of_getElem? ht;simp only[List.mem_toArray,List.mem_cons,List.not_mem_nil,or_false] at hm;rcases hm with rfl|rfl
 ·exact (show Tryz.prog.wantsStandIn 3=false by kernel_rfl)
 ·exact (show Tryz.prog.wantsStandIn 3=false by kernel_rfl)
theorem proved:Rows.FastWideUptoCardSaid:=
 Claim7.holds_tied_plain_at .later [] _ _ _ _ qbq (fun _ h=>by cases h) (by kernel_rfl) (fun _ h=>by cases h) fastWideUpto_row_tie rfl ⟨rfl,rfl⟩ (by kernel_rfl) rfl qgN (by kernel_rfl)
#print axioms proved
end fastWide
