/-
  No cell of these rows narrows 'for every input' (looked for: loops, veiled, ifaces, maps, wideKeys, modest, calm, conditions, laid).
  DERIVED. THE GIVEN ROWS OF THIS SEAT. 12 by the template 'for every input the law returns true; each argument reads behind the call as it read before'; 0 by the template 'total and deterministic' (their statements: YtlmeblhcipkgmaaTotals.lean).
  GIVEN WITH THE SEED: the statements are not yours to turn. If you find one false, say at which input.
  Laid BY PROGRAM, IN A SANDBOX (cutbox-rows.mjs): the forced cells as the released guide's own fill.sh prints them over the translation d6bd693c3069915b… (all of the seat's roots in one cut). By AI agents, Wed Nov 11 2026. No macro, syntax, notation, axiom, sorry.
-/
import Derived.Test.YtlmeblhcipkgmaaChecked
import GoSem.Claim
import GoSem.ClaimJoined
import GoSem.ClaimMapViews
import Derived.JoinedTies
import Derived.KernelRfl
namespace Go.Proofs.Ytlmeblhcipkgmaa
/- THE CELL 'sum', in the pinned program and in every row, IS THE sha256 OF THE DUMP (.gsa) THAT YtlmeblhcipkgmaaProg.lean LOADS. Nothing in Lean hashes anything: it is a label: what it is worth is what the hold of that sum in a sandbox is worth. -/
noncomputable def Try.pinned : Pinned := { name := "ytlmeblhcipkgmaa", sum := "d6bd693c3069915b62cf0546576a5b5eddbbff4bff8f211f52cdad7edd020e36", checked := Try.checked }
namespace Rows
def none {H : Type} : Left H := { results := [], args := [] }

/-- 'umpirelaw9.RelCloses': WHATEVER THE INPUT: true; the input reads as it did. -/
def relClosesSpec : ChangeSpec := { name := "relCloses", fn := fun _ => fun
  | [d1, d2] => { results := [.lit (.bool true)], args := [d1, d2] }
  | _ => none }
def relClosesRow : OpenClaim := { program := "ytlmeblhcipkgmaa", sum := "d6bd693c3069915b62cf0546576a5b5eddbbff4bff8f211f52cdad7edd020e36", func := "umpire/umpirelaw9.RelCloses", spec := "relCloses", unfollowed := true, recurses := true, apart := false }
def RelClosesSaid : Prop := relClosesRow.holds Try.pinned (OpenSpec.ofChange relClosesSpec)

/-- ITS FALSE NEIGHBOUR: 'it returns false'. Refute it at one input. -/
def relClosesWrong : ChangeSpec := { name := "relCloses", fn := fun _ => fun
  | [d1, d2] => { results := [.lit (.bool false)], args := [d1, d2] }
  | _ => none }
def RelClosesWrongFalsely : Prop := relClosesRow.holds Try.pinned (OpenSpec.ofChange relClosesWrong)

/-- 'umpirelaw9.RelTexts': WHATEVER THE INPUT: true; the input reads as it did. -/
def relTextsSpec : ChangeSpec := { name := "relTexts", fn := fun _ => fun
  | [d] => { results := [.lit (.bool true)], args := [d] }
  | _ => none }
def relTextsRow : OpenClaim := { program := "ytlmeblhcipkgmaa", sum := "d6bd693c3069915b62cf0546576a5b5eddbbff4bff8f211f52cdad7edd020e36", func := "umpire/umpirelaw9.RelTexts", spec := "relTexts", unfollowed := true, recurses := true, apart := false }
def RelTextsSaid : Prop := relTextsRow.holds Try.pinned (OpenSpec.ofChange relTextsSpec)

/-- ITS FALSE NEIGHBOUR: 'it returns false'. Refute it at one input. -/
def relTextsWrong : ChangeSpec := { name := "relTexts", fn := fun _ => fun
  | [d] => { results := [.lit (.bool false)], args := [d] }
  | _ => none }
def RelTextsWrongFalsely : Prop := relTextsRow.holds Try.pinned (OpenSpec.ofChange relTextsWrong)

/-- 'umpirelaw9.RelOnce': WHATEVER THE INPUT: true; the input reads as it did. -/
def relOnceSpec : ChangeSpec := { name := "relOnce", fn := fun _ => fun
  | [d] => { results := [.lit (.bool true)], args := [d] }
  | _ => none }
def relOnceRow : OpenClaim := { program := "ytlmeblhcipkgmaa", sum := "d6bd693c3069915b62cf0546576a5b5eddbbff4bff8f211f52cdad7edd020e36", func := "umpire/umpirelaw9.RelOnce", spec := "relOnce", unfollowed := true, recurses := true, apart := false }
def RelOnceSaid : Prop := relOnceRow.holds Try.pinned (OpenSpec.ofChange relOnceSpec)

/-- ITS FALSE NEIGHBOUR: 'it returns false'. Refute it at one input. -/
def relOnceWrong : ChangeSpec := { name := "relOnce", fn := fun _ => fun
  | [d] => { results := [.lit (.bool false)], args := [d] }
  | _ => none }
def RelOnceWrongFalsely : Prop := relOnceRow.holds Try.pinned (OpenSpec.ofChange relOnceWrong)

/-- 'umpirelaw9.RelFits': WHATEVER THE INPUT: true; the input reads as it did. -/
def relFitsSpec : ChangeSpec := { name := "relFits", fn := fun _ => fun
  | [d1, d2] => { results := [.lit (.bool true)], args := [d1, d2] }
  | _ => none }
def relFitsRow : OpenClaim := { program := "ytlmeblhcipkgmaa", sum := "d6bd693c3069915b62cf0546576a5b5eddbbff4bff8f211f52cdad7edd020e36", func := "umpire/umpirelaw9.RelFits", spec := "relFits", unfollowed := true, recurses := true, apart := false }
def RelFitsSaid : Prop := relFitsRow.holds Try.pinned (OpenSpec.ofChange relFitsSpec)

/-- ITS FALSE NEIGHBOUR: 'it returns false'. Refute it at one input. -/
def relFitsWrong : ChangeSpec := { name := "relFits", fn := fun _ => fun
  | [d1, d2] => { results := [.lit (.bool false)], args := [d1, d2] }
  | _ => none }
def RelFitsWrongFalsely : Prop := relFitsRow.holds Try.pinned (OpenSpec.ofChange relFitsWrong)

/-- 'umpirelaw9.RelPlays': WHATEVER THE INPUT: true; the input reads as it did. -/
def relPlaysSpec : ChangeSpec := { name := "relPlays", fn := fun _ => fun
  | [d1, d2, d3] => { results := [.lit (.bool true)], args := [d1, d2, d3] }
  | _ => none }
def relPlaysRow : OpenClaim := { program := "ytlmeblhcipkgmaa", sum := "d6bd693c3069915b62cf0546576a5b5eddbbff4bff8f211f52cdad7edd020e36", func := "umpire/umpirelaw9.RelPlays", spec := "relPlays", unfollowed := true, recurses := true, apart := false }
def RelPlaysSaid : Prop := relPlaysRow.holds Try.pinned (OpenSpec.ofChange relPlaysSpec)

/-- ITS FALSE NEIGHBOUR: 'it returns false'. Refute it at one input. -/
def relPlaysWrong : ChangeSpec := { name := "relPlays", fn := fun _ => fun
  | [d1, d2, d3] => { results := [.lit (.bool false)], args := [d1, d2, d3] }
  | _ => none }
def RelPlaysWrongFalsely : Prop := relPlaysRow.holds Try.pinned (OpenSpec.ofChange relPlaysWrong)

/-- 'umpirelaw9.RelOwn': WHATEVER THE INPUT: true; the input reads as it did. -/
def relOwnSpec : ChangeSpec := { name := "relOwn", fn := fun _ => fun
  | [d1, d2, d3] => { results := [.lit (.bool true)], args := [d1, d2, d3] }
  | _ => none }
def relOwnRow : OpenClaim := { program := "ytlmeblhcipkgmaa", sum := "d6bd693c3069915b62cf0546576a5b5eddbbff4bff8f211f52cdad7edd020e36", func := "umpire/umpirelaw9.RelOwn", spec := "relOwn", unfollowed := true, recurses := true, apart := false }
def RelOwnSaid : Prop := relOwnRow.holds Try.pinned (OpenSpec.ofChange relOwnSpec)

/-- ITS FALSE NEIGHBOUR: 'it returns false'. Refute it at one input. -/
def relOwnWrong : ChangeSpec := { name := "relOwn", fn := fun _ => fun
  | [d1, d2, d3] => { results := [.lit (.bool false)], args := [d1, d2, d3] }
  | _ => none }
def RelOwnWrongFalsely : Prop := relOwnRow.holds Try.pinned (OpenSpec.ofChange relOwnWrong)

/-- 'umpirelaw10.GraphEither': WHATEVER THE INPUT: true; the input reads as it did. -/
def graphEitherSpec : ChangeSpec := { name := "graphEither", fn := fun _ => fun
  | [d1, d2] => { results := [.lit (.bool true)], args := [d1, d2] }
  | _ => none }
def graphEitherRow : OpenClaim := { program := "ytlmeblhcipkgmaa", sum := "d6bd693c3069915b62cf0546576a5b5eddbbff4bff8f211f52cdad7edd020e36", func := "umpire/umpirelaw10.GraphEither", spec := "graphEither", unfollowed := true, recurses := true, apart := false }
def GraphEitherSaid : Prop := graphEitherRow.holds Try.pinned (OpenSpec.ofChange graphEitherSpec)

/-- ITS FALSE NEIGHBOUR: 'it returns false'. Refute it at one input. -/
def graphEitherWrong : ChangeSpec := { name := "graphEither", fn := fun _ => fun
  | [d1, d2] => { results := [.lit (.bool false)], args := [d1, d2] }
  | _ => none }
def GraphEitherWrongFalsely : Prop := graphEitherRow.holds Try.pinned (OpenSpec.ofChange graphEitherWrong)

/-- 'umpirelaw10.GraphCycle': WHATEVER THE INPUT: true; the input reads as it did. -/
def graphCycleSpec : ChangeSpec := { name := "graphCycle", fn := fun _ => fun
  | [d1, d2] => { results := [.lit (.bool true)], args := [d1, d2] }
  | _ => none }
def graphCycleRow : OpenClaim := { program := "ytlmeblhcipkgmaa", sum := "d6bd693c3069915b62cf0546576a5b5eddbbff4bff8f211f52cdad7edd020e36", func := "umpire/umpirelaw10.GraphCycle", spec := "graphCycle", unfollowed := true, recurses := true, apart := false }
def GraphCycleSaid : Prop := graphCycleRow.holds Try.pinned (OpenSpec.ofChange graphCycleSpec)

/-- ITS FALSE NEIGHBOUR: 'it returns false'. Refute it at one input. -/
def graphCycleWrong : ChangeSpec := { name := "graphCycle", fn := fun _ => fun
  | [d1, d2] => { results := [.lit (.bool false)], args := [d1, d2] }
  | _ => none }
def GraphCycleWrongFalsely : Prop := graphCycleRow.holds Try.pinned (OpenSpec.ofChange graphCycleWrong)

/-- 'umpirelaw10.GraphPlays': WHATEVER THE INPUT: true; the input reads as it did. -/
def graphPlaysSpec : ChangeSpec := { name := "graphPlays", fn := fun _ => fun
  | [d1, d2, d3, d4, d5] => { results := [.lit (.bool true)], args := [d1, d2, d3, d4, d5] }
  | _ => none }
def graphPlaysRow : OpenClaim := { program := "ytlmeblhcipkgmaa", sum := "d6bd693c3069915b62cf0546576a5b5eddbbff4bff8f211f52cdad7edd020e36", func := "umpire/umpirelaw10.GraphPlays", spec := "graphPlays", unfollowed := true, recurses := true, apart := false }
def GraphPlaysSaid : Prop := graphPlaysRow.holds Try.pinned (OpenSpec.ofChange graphPlaysSpec)

/-- ITS FALSE NEIGHBOUR: 'it returns false'. Refute it at one input. -/
def graphPlaysWrong : ChangeSpec := { name := "graphPlays", fn := fun _ => fun
  | [d1, d2, d3, d4, d5] => { results := [.lit (.bool false)], args := [d1, d2, d3, d4, d5] }
  | _ => none }
def GraphPlaysWrongFalsely : Prop := graphPlaysRow.holds Try.pinned (OpenSpec.ofChange graphPlaysWrong)

/-- 'umpirelaw10.GraphFinds': WHATEVER THE INPUT: true; the input reads as it did. -/
def graphFindsSpec : ChangeSpec := { name := "graphFinds", fn := fun _ => fun
  | [d1, d2, d3] => { results := [.lit (.bool true)], args := [d1, d2, d3] }
  | _ => none }
def graphFindsRow : OpenClaim := { program := "ytlmeblhcipkgmaa", sum := "d6bd693c3069915b62cf0546576a5b5eddbbff4bff8f211f52cdad7edd020e36", func := "umpire/umpirelaw10.GraphFinds", spec := "graphFinds", unfollowed := true, recurses := true, apart := false }
def GraphFindsSaid : Prop := graphFindsRow.holds Try.pinned (OpenSpec.ofChange graphFindsSpec)

/-- ITS FALSE NEIGHBOUR: 'it returns false'. Refute it at one input. -/
def graphFindsWrong : ChangeSpec := { name := "graphFinds", fn := fun _ => fun
  | [d1, d2, d3] => { results := [.lit (.bool false)], args := [d1, d2, d3] }
  | _ => none }
def GraphFindsWrongFalsely : Prop := graphFindsRow.holds Try.pinned (OpenSpec.ofChange graphFindsWrong)

/-- 'umpirelaw10.GraphMaps': WHATEVER THE INPUT: true; the input reads as it did. -/
def graphMapsSpec : ChangeSpec := { name := "graphMaps", fn := fun _ => fun
  | [d1, d2, d3] => { results := [.lit (.bool true)], args := [d1, d2, d3] }
  | _ => none }
def graphMapsRow : OpenClaim := { program := "ytlmeblhcipkgmaa", sum := "d6bd693c3069915b62cf0546576a5b5eddbbff4bff8f211f52cdad7edd020e36", func := "umpire/umpirelaw10.GraphMaps", spec := "graphMaps", unfollowed := true, recurses := true, apart := false }
def GraphMapsSaid : Prop := graphMapsRow.holds Try.pinned (OpenSpec.ofChange graphMapsSpec)

/-- ITS FALSE NEIGHBOUR: 'it returns false'. Refute it at one input. -/
def graphMapsWrong : ChangeSpec := { name := "graphMaps", fn := fun _ => fun
  | [d1, d2, d3] => { results := [.lit (.bool false)], args := [d1, d2, d3] }
  | _ => none }
def GraphMapsWrongFalsely : Prop := graphMapsRow.holds Try.pinned (OpenSpec.ofChange graphMapsWrong)

/-- 'umpirelaw10.GraphOwn': WHATEVER THE INPUT: true; the input reads as it did. -/
def graphOwnSpec : ChangeSpec := { name := "graphOwn", fn := fun _ => fun
  | [d1, d2, d3, d4] => { results := [.lit (.bool true)], args := [d1, d2, d3, d4] }
  | _ => none }
def graphOwnRow : OpenClaim := { program := "ytlmeblhcipkgmaa", sum := "d6bd693c3069915b62cf0546576a5b5eddbbff4bff8f211f52cdad7edd020e36", func := "umpire/umpirelaw10.GraphOwn", spec := "graphOwn", unfollowed := true, recurses := true, apart := false }
def GraphOwnSaid : Prop := graphOwnRow.holds Try.pinned (OpenSpec.ofChange graphOwnSpec)

/-- ITS FALSE NEIGHBOUR: 'it returns false'. Refute it at one input. -/
def graphOwnWrong : ChangeSpec := { name := "graphOwn", fn := fun _ => fun
  | [d1, d2, d3, d4] => { results := [.lit (.bool false)], args := [d1, d2, d3, d4] }
  | _ => none }
def GraphOwnWrongFalsely : Prop := graphOwnRow.holds Try.pinned (OpenSpec.ofChange graphOwnWrong)

/- THE SECOND FORM. 'bulk': how many values and letters a reading holds, each counted each time it is reached (what is shared counts as often as it is met; a slice's spare places count too). A statement '..UptoSaid' is the law's where the arguments, and the package variables that the reading takes, are together of bulk at most 1048576: NARROWER than '..Said'. Prove '..Said' where nothing that the law and all that it calls make is longer than what came in: it says more and counts as full. Else prove '..UptoSaid'. A law counts once. -/
mutual
def uptoBulk {H : Type} : DataW H → Nat
  | .lit (.string bytes) => bytes.length + 1
  | .lit _ => 1
  | .nil => 1
  | .ptr d => uptoBulk d + 1
  | .slice elems spare => uptoBulkAll elems + uptoBulkAll spare + 1
  | .agg parts => uptoBulkAll parts + 1
  | .iface _ d => uptoBulk d + 1
  | .map entries => uptoBulkEntries entries + 1
  | .held _ => 1
def uptoBulkAll {H : Type} : List (DataW H) → Nat
  | [] => 0
  | d :: r => uptoBulk d + uptoBulkAll r
def uptoBulkEntries {H : Type} : List (Lit × DataW H) → Nat
  | [] => 0
  | x :: r => uptoBulkEntry x + uptoBulkEntries r
def uptoBulkEntry {H : Type} : Lit × DataW H → Nat
  | (.string bytes, d) => bytes.length + uptoBulk d + 1
  | (_, d) => uptoBulk d + 1
 end
def uptoSmall : (H : Type) → List (DataW H) → Bool := fun _ ds => decide (uptoBulkAll ds ≤ 1048576)
def OpenSpec.upto (s : _root_.Go.ChangeSpec) : _root_.Go.OpenSpec := { _root_.Go.OpenSpec.ofChange s with cond := some uptoSmall }

/-- 'umpirelaw9.RelCloses', WHERE WHAT IT READS IS OF BULK AT MOST 1048576: true; the input reads as it did. -/
def relClosesUptoRow : OpenClaim := { program := "ytlmeblhcipkgmaa", sum := "d6bd693c3069915b62cf0546576a5b5eddbbff4bff8f211f52cdad7edd020e36", func := "umpire/umpirelaw9.RelCloses", spec := "relCloses", unfollowed := true, recurses := true, apart := false, narrowed := true }
def RelClosesUptoSaid : Prop := relClosesUptoRow.holds Try.pinned (OpenSpec.upto relClosesSpec)

/-- 'umpirelaw9.RelTexts', WHERE WHAT IT READS IS OF BULK AT MOST 1048576: true; the input reads as it did. -/
def relTextsUptoRow : OpenClaim := { program := "ytlmeblhcipkgmaa", sum := "d6bd693c3069915b62cf0546576a5b5eddbbff4bff8f211f52cdad7edd020e36", func := "umpire/umpirelaw9.RelTexts", spec := "relTexts", unfollowed := true, recurses := true, apart := false, narrowed := true }
def RelTextsUptoSaid : Prop := relTextsUptoRow.holds Try.pinned (OpenSpec.upto relTextsSpec)

/-- 'umpirelaw9.RelOnce', WHERE WHAT IT READS IS OF BULK AT MOST 1048576: true; the input reads as it did. -/
def relOnceUptoRow : OpenClaim := { program := "ytlmeblhcipkgmaa", sum := "d6bd693c3069915b62cf0546576a5b5eddbbff4bff8f211f52cdad7edd020e36", func := "umpire/umpirelaw9.RelOnce", spec := "relOnce", unfollowed := true, recurses := true, apart := false, narrowed := true }
def RelOnceUptoSaid : Prop := relOnceUptoRow.holds Try.pinned (OpenSpec.upto relOnceSpec)

/-- 'umpirelaw9.RelFits', WHERE WHAT IT READS IS OF BULK AT MOST 1048576: true; the input reads as it did. -/
def relFitsUptoRow : OpenClaim := { program := "ytlmeblhcipkgmaa", sum := "d6bd693c3069915b62cf0546576a5b5eddbbff4bff8f211f52cdad7edd020e36", func := "umpire/umpirelaw9.RelFits", spec := "relFits", unfollowed := true, recurses := true, apart := false, narrowed := true }
def RelFitsUptoSaid : Prop := relFitsUptoRow.holds Try.pinned (OpenSpec.upto relFitsSpec)

/-- 'umpirelaw9.RelPlays', WHERE WHAT IT READS IS OF BULK AT MOST 1048576: true; the input reads as it did. -/
def relPlaysUptoRow : OpenClaim := { program := "ytlmeblhcipkgmaa", sum := "d6bd693c3069915b62cf0546576a5b5eddbbff4bff8f211f52cdad7edd020e36", func := "umpire/umpirelaw9.RelPlays", spec := "relPlays", unfollowed := true, recurses := true, apart := false, narrowed := true }
def RelPlaysUptoSaid : Prop := relPlaysUptoRow.holds Try.pinned (OpenSpec.upto relPlaysSpec)

/-- 'umpirelaw9.RelOwn', WHERE WHAT IT READS IS OF BULK AT MOST 1048576: true; the input reads as it did. -/
def relOwnUptoRow : OpenClaim := { program := "ytlmeblhcipkgmaa", sum := "d6bd693c3069915b62cf0546576a5b5eddbbff4bff8f211f52cdad7edd020e36", func := "umpire/umpirelaw9.RelOwn", spec := "relOwn", unfollowed := true, recurses := true, apart := false, narrowed := true }
def RelOwnUptoSaid : Prop := relOwnUptoRow.holds Try.pinned (OpenSpec.upto relOwnSpec)

/-- 'umpirelaw10.GraphEither', WHERE WHAT IT READS IS OF BULK AT MOST 1048576: true; the input reads as it did. -/
def graphEitherUptoRow : OpenClaim := { program := "ytlmeblhcipkgmaa", sum := "d6bd693c3069915b62cf0546576a5b5eddbbff4bff8f211f52cdad7edd020e36", func := "umpire/umpirelaw10.GraphEither", spec := "graphEither", unfollowed := true, recurses := true, apart := false, narrowed := true }
def GraphEitherUptoSaid : Prop := graphEitherUptoRow.holds Try.pinned (OpenSpec.upto graphEitherSpec)

/-- 'umpirelaw10.GraphCycle', WHERE WHAT IT READS IS OF BULK AT MOST 1048576: true; the input reads as it did. -/
def graphCycleUptoRow : OpenClaim := { program := "ytlmeblhcipkgmaa", sum := "d6bd693c3069915b62cf0546576a5b5eddbbff4bff8f211f52cdad7edd020e36", func := "umpire/umpirelaw10.GraphCycle", spec := "graphCycle", unfollowed := true, recurses := true, apart := false, narrowed := true }
def GraphCycleUptoSaid : Prop := graphCycleUptoRow.holds Try.pinned (OpenSpec.upto graphCycleSpec)

/-- 'umpirelaw10.GraphPlays', WHERE WHAT IT READS IS OF BULK AT MOST 1048576: true; the input reads as it did. -/
def graphPlaysUptoRow : OpenClaim := { program := "ytlmeblhcipkgmaa", sum := "d6bd693c3069915b62cf0546576a5b5eddbbff4bff8f211f52cdad7edd020e36", func := "umpire/umpirelaw10.GraphPlays", spec := "graphPlays", unfollowed := true, recurses := true, apart := false, narrowed := true }
def GraphPlaysUptoSaid : Prop := graphPlaysUptoRow.holds Try.pinned (OpenSpec.upto graphPlaysSpec)

/-- 'umpirelaw10.GraphFinds', WHERE WHAT IT READS IS OF BULK AT MOST 1048576: true; the input reads as it did. -/
def graphFindsUptoRow : OpenClaim := { program := "ytlmeblhcipkgmaa", sum := "d6bd693c3069915b62cf0546576a5b5eddbbff4bff8f211f52cdad7edd020e36", func := "umpire/umpirelaw10.GraphFinds", spec := "graphFinds", unfollowed := true, recurses := true, apart := false, narrowed := true }
def GraphFindsUptoSaid : Prop := graphFindsUptoRow.holds Try.pinned (OpenSpec.upto graphFindsSpec)

/-- 'umpirelaw10.GraphMaps', WHERE WHAT IT READS IS OF BULK AT MOST 1048576: true; the input reads as it did. -/
def graphMapsUptoRow : OpenClaim := { program := "ytlmeblhcipkgmaa", sum := "d6bd693c3069915b62cf0546576a5b5eddbbff4bff8f211f52cdad7edd020e36", func := "umpire/umpirelaw10.GraphMaps", spec := "graphMaps", unfollowed := true, recurses := true, apart := false, narrowed := true }
def GraphMapsUptoSaid : Prop := graphMapsUptoRow.holds Try.pinned (OpenSpec.upto graphMapsSpec)

/-- 'umpirelaw10.GraphOwn', WHERE WHAT IT READS IS OF BULK AT MOST 1048576: true; the input reads as it did. -/
def graphOwnUptoRow : OpenClaim := { program := "ytlmeblhcipkgmaa", sum := "d6bd693c3069915b62cf0546576a5b5eddbbff4bff8f211f52cdad7edd020e36", func := "umpire/umpirelaw10.GraphOwn", spec := "graphOwn", unfollowed := true, recurses := true, apart := false, narrowed := true }
def GraphOwnUptoSaid : Prop := graphOwnUptoRow.holds Try.pinned (OpenSpec.upto graphOwnSpec)

end Rows
end Go.Proofs.Ytlmeblhcipkgmaa
