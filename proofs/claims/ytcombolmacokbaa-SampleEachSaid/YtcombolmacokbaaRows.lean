/-
  No cell of these rows narrows 'for every input' (looked for: loops, veiled, ifaces, maps, wideKeys, modest, calm, conditions, laid).
  DERIVED. THE GIVEN ROWS OF THIS SEAT. 3 by the template 'for every input the law returns true; each argument reads behind the call as it read before'; 0 by the template 'total and deterministic' (their statements: YtcombolmacokbaaTotals.lean).
  GIVEN WITH THE SEED: the statements are not yours to turn. If you find one false, say at which input.
  Laid BY PROGRAM, IN A SANDBOX (cutbox-rows.mjs): the forced cells as the released guide's own fill.sh prints them over the translation 6f864cf39801f518… (all of the seat's roots in one cut). By AI agents, Wed Nov 11 2026. No macro, syntax, notation, axiom, sorry.
-/
import Derived.Test.YtcombolmacokbaaChecked
import GoSem.Claim
import GoSem.ClaimJoined
import GoSem.ClaimMapViews
import Derived.JoinedTies
import Derived.KernelRfl
namespace Go.Proofs.Ytcombolmacokbaa
/- THE CELL 'sum', in the pinned program and in every row, IS THE sha256 OF THE DUMP (.gsa) THAT YtcombolmacokbaaProg.lean LOADS. Nothing in Lean hashes anything: it is a label: what it is worth is what the hold of that sum in a sandbox is worth. -/
noncomputable def Try.pinned : Pinned := { name := "ytcombolmacokbaa", sum := "6f864cf39801f5186258db559b07c1e7c03d09c18e97cb03a22a2ae6e8e58c6f", checked := Try.checked }
namespace Rows
def none {H : Type} : Left H := { results := [], args := [] }

/-- 'umpirelaw22.SampleOwn': WHATEVER THE INPUT: true; the input reads as it did. -/
def sampleOwnSpec : ChangeSpec := { name := "sampleOwn", fn := fun _ => fun
  | [d] => { results := [.lit (.bool true)], args := [d] }
  | _ => none }
def sampleOwnRow : OpenClaim := { program := "ytcombolmacokbaa", sum := "6f864cf39801f5186258db559b07c1e7c03d09c18e97cb03a22a2ae6e8e58c6f", func := "umpire/umpirelaw22.SampleOwn", spec := "sampleOwn", unfollowed := true, recurses := true, apart := false }
def SampleOwnSaid : Prop := sampleOwnRow.holds Try.pinned (OpenSpec.ofChange sampleOwnSpec)

/-- ITS FALSE NEIGHBOUR: 'it returns false'. Refute it at one input. -/
def sampleOwnWrong : ChangeSpec := { name := "sampleOwn", fn := fun _ => fun
  | [d] => { results := [.lit (.bool false)], args := [d] }
  | _ => none }
def SampleOwnWrongFalsely : Prop := sampleOwnRow.holds Try.pinned (OpenSpec.ofChange sampleOwnWrong)

/-- 'umpirelaw22.SampleGets': WHATEVER THE INPUT: true; the input reads as it did. -/
def sampleGetsSpec : ChangeSpec := { name := "sampleGets", fn := fun _ => fun
  | [d1, d2, d3] => { results := [.lit (.bool true)], args := [d1, d2, d3] }
  | _ => none }
def sampleGetsRow : OpenClaim := { program := "ytcombolmacokbaa", sum := "6f864cf39801f5186258db559b07c1e7c03d09c18e97cb03a22a2ae6e8e58c6f", func := "umpire/umpirelaw22.SampleGets", spec := "sampleGets", unfollowed := true, recurses := true, apart := false }
def SampleGetsSaid : Prop := sampleGetsRow.holds Try.pinned (OpenSpec.ofChange sampleGetsSpec)

/-- ITS FALSE NEIGHBOUR: 'it returns false'. Refute it at one input. -/
def sampleGetsWrong : ChangeSpec := { name := "sampleGets", fn := fun _ => fun
  | [d1, d2, d3] => { results := [.lit (.bool false)], args := [d1, d2, d3] }
  | _ => none }
def SampleGetsWrongFalsely : Prop := sampleGetsRow.holds Try.pinned (OpenSpec.ofChange sampleGetsWrong)

/-- 'umpirelaw22.SampleEach': WHATEVER THE INPUT: true; the input reads as it did. -/
def sampleEachSpec : ChangeSpec := { name := "sampleEach", fn := fun _ => fun
  | [d] => { results := [.lit (.bool true)], args := [d] }
  | _ => none }
def sampleEachRow : OpenClaim := { program := "ytcombolmacokbaa", sum := "6f864cf39801f5186258db559b07c1e7c03d09c18e97cb03a22a2ae6e8e58c6f", func := "umpire/umpirelaw22.SampleEach", spec := "sampleEach", unfollowed := true, recurses := true, apart := false }
def SampleEachSaid : Prop := sampleEachRow.holds Try.pinned (OpenSpec.ofChange sampleEachSpec)

/-- ITS FALSE NEIGHBOUR: 'it returns false'. Refute it at one input. -/
def sampleEachWrong : ChangeSpec := { name := "sampleEach", fn := fun _ => fun
  | [d] => { results := [.lit (.bool false)], args := [d] }
  | _ => none }
def SampleEachWrongFalsely : Prop := sampleEachRow.holds Try.pinned (OpenSpec.ofChange sampleEachWrong)

/- THE SECOND FORM. 'bulk': how many values and letters a reading holds, each counted each time it is reached (what is shared counts as often as it is met; a slice's spare places count too). A statement '..UptoSaid' is the law's where the arguments, and the package variables that the reading takes, are together of bulk at most 1048576: NARROWER than '..Said'. Prove '..Said' where nothing that the law and all that it calls make is longer than what came in: it says more and counts as full. Else prove '..UptoSaid'. A law counts once. -/
mutual
def uptoBulk {H : Type} : DataW H → Nat
  | .lit (.string bytes) => bytes.length + 1
  | .lit _ => 1
  | .nil => 1
  | .ptr d => uptoBulk d + 1
  | .slice elems spare => uptoBulkAll elems + uptoBulkAll spare + 1
  | .agg parts => uptoBulkAll parts + 1
  | .iface _ d => uptoBulk d + 1
  | .map entries => uptoBulkEntries entries + 1
  | .held _ => 1
def uptoBulkAll {H : Type} : List (DataW H) → Nat
  | [] => 0
  | d :: r => uptoBulk d + uptoBulkAll r
def uptoBulkEntries {H : Type} : List (Lit × DataW H) → Nat
  | [] => 0
  | x :: r => uptoBulkEntry x + uptoBulkEntries r
def uptoBulkEntry {H : Type} : Lit × DataW H → Nat
  | (.string bytes, d) => bytes.length + uptoBulk d + 1
  | (_, d) => uptoBulk d + 1
 end
def uptoSmall : (H : Type) → List (DataW H) → Bool := fun _ ds => decide (uptoBulkAll ds ≤ 1048576)
def OpenSpec.upto (s : _root_.Go.ChangeSpec) : _root_.Go.OpenSpec := { _root_.Go.OpenSpec.ofChange s with cond := some uptoSmall }

/-- 'umpirelaw22.SampleOwn', WHERE WHAT IT READS IS OF BULK AT MOST 1048576: true; the input reads as it did. -/
def sampleOwnUptoRow : OpenClaim := { program := "ytcombolmacokbaa", sum := "6f864cf39801f5186258db559b07c1e7c03d09c18e97cb03a22a2ae6e8e58c6f", func := "umpire/umpirelaw22.SampleOwn", spec := "sampleOwn", unfollowed := true, recurses := true, apart := false, narrowed := true }
def SampleOwnUptoSaid : Prop := sampleOwnUptoRow.holds Try.pinned (OpenSpec.upto sampleOwnSpec)

/-- 'umpirelaw22.SampleGets', WHERE WHAT IT READS IS OF BULK AT MOST 1048576: true; the input reads as it did. -/
def sampleGetsUptoRow : OpenClaim := { program := "ytcombolmacokbaa", sum := "6f864cf39801f5186258db559b07c1e7c03d09c18e97cb03a22a2ae6e8e58c6f", func := "umpire/umpirelaw22.SampleGets", spec := "sampleGets", unfollowed := true, recurses := true, apart := false, narrowed := true }
def SampleGetsUptoSaid : Prop := sampleGetsUptoRow.holds Try.pinned (OpenSpec.upto sampleGetsSpec)

/-- 'umpirelaw22.SampleEach', WHERE WHAT IT READS IS OF BULK AT MOST 1048576: true; the input reads as it did. -/
def sampleEachUptoRow : OpenClaim := { program := "ytcombolmacokbaa", sum := "6f864cf39801f5186258db559b07c1e7c03d09c18e97cb03a22a2ae6e8e58c6f", func := "umpire/umpirelaw22.SampleEach", spec := "sampleEach", unfollowed := true, recurses := true, apart := false, narrowed := true }
def SampleEachUptoSaid : Prop := sampleEachUptoRow.holds Try.pinned (OpenSpec.upto sampleEachSpec)

end Rows
end Go.Proofs.Ytcombolmacokbaa
