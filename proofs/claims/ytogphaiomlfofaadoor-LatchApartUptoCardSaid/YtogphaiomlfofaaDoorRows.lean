/-
  NARROWER THAN 'FOR EVERY INPUT', by the rows' own cells (each row's printed sentence says how): LatchApart: laid.
  DERIVED. THE GIVEN ROWS OF THIS SEAT. 1 by the template 'for every input the law returns true; each argument reads behind the call as it read before'; 0 by the template 'total and deterministic' (their statements: YtogphaiomlfofaaDoorTotals.lean).
  GIVEN WITH THE SEED: the statements are not yours to turn. If you find one false, say at which input.
  Laid BY PROGRAM, IN A SANDBOX (cutbox-rows.mjs): the forced cells as the released guide's own fill.sh prints them over the translation 9d4e051b1ac47c0c… (all of the seat's roots in one cut). By AI agents, Wed Nov 11 2026. No macro, syntax, notation, axiom, sorry.
-/
import Derived.Test.YtogphaiomlfofaaDoorChecked
import GoSem.Claim
import GoSem.ClaimJoined
import GoSem.ClaimMapViews
import Derived.JoinedTies
import Derived.KernelRfl
namespace Go.Proofs.YtogphaiomlfofaaDoor
/- THE CELL 'sum', in the pinned program and in every row, IS THE sha256 OF THE DUMP (.gsa) THAT YtogphaiomlfofaaDoorProg.lean LOADS. Nothing in Lean hashes anything: it is a label: what it is worth is what the hold of that sum in a sandbox is worth. -/
noncomputable def Tryd.pinned : Pinned := { name := "ytogphaiomlfofaadoor", sum := "9d4e051b1ac47c0c33278d80ea928ff3f21da09f43ffb8525e77b63bc440ae98", checked := Tryd.checked }
namespace Rows
def none {H : Type} : Left H := { results := [], args := [] }

/- WHAT THE LISTED PACKAGE-LEVEL VARIABLES READ AS WHEN THE CALL BEGINS. Each datum BY PROGRAM (the guide's laid-datum.mjs) off the statement by which the dump's own 'gosem.cut.vars' lays the variable. In a bare row this is a premise. The card (YtogphaiomlfofaaDoorCards.lean) ties it to the program's text. -/
def laid_umpire_api_ErrMany {H : Type} : DataW H := .iface "*errors.errorString" (.ptr (.agg [.lit (.string [116, 111, 111, 32, 109, 97, 110, 121])]))
def laid_umpire_api_ErrProg {H : Type} : DataW H := .iface "*errors.errorString" (.ptr (.agg [.lit (.string [110, 111, 32, 112, 114, 111, 103, 114, 97, 109])]))

/-- 'umpirelaw20.LatchApart': WHATEVER THE INPUT: true; the input reads as it did. -/
def latchApartSpec : ChangeSpec := { name := "latchApart", fn := fun _ => fun
  | [d1, d2] => { results := [.lit (.bool true)], args := [d1, d2] }
  | _ => none }
def latchApartRow : OpenClaim := { program := "ytogphaiomlfofaadoor", sum := "9d4e051b1ac47c0c33278d80ea928ff3f21da09f43ffb8525e77b63bc440ae98", func := "umpire/umpirelaw20.LatchApart", spec := "latchApart", unfollowed := true, recurses := true, named := ["umpire/api.ErrProg", "umpire/api.ErrMany"], apart := false, laid := [("umpire/api.ErrMany", laid_umpire_api_ErrMany), ("umpire/api.ErrProg", laid_umpire_api_ErrProg)] }
def LatchApartSaid : Prop := latchApartRow.holds Tryd.pinned (OpenSpec.ofChange latchApartSpec)

/-- ITS FALSE NEIGHBOUR: 'it returns false'. Refute it at one input. -/
def latchApartWrong : ChangeSpec := { name := "latchApart", fn := fun _ => fun
  | [d1, d2] => { results := [.lit (.bool false)], args := [d1, d2] }
  | _ => none }
def LatchApartWrongFalsely : Prop := latchApartRow.holds Tryd.pinned (OpenSpec.ofChange latchApartWrong)

/- THE SECOND FORM. 'bulk': how many values and letters a reading holds, each counted each time it is reached (what is shared counts as often as it is met; a slice's spare places count too). A statement '..UptoSaid' is the law's where the arguments, and the package variables that the reading takes, are together of bulk at most 1048576: NARROWER than '..Said'. Prove '..Said' where nothing that the law and all that it calls make is longer than what came in: it says more and counts as full. Else prove '..UptoSaid'. A law counts once. -/
mutual
def uptoBulk {H : Type} : DataW H → Nat
  | .lit (.string bytes) => bytes.length + 1
  | .lit _ => 1
  | .nil => 1
  | .ptr d => uptoBulk d + 1
  | .slice elems spare => uptoBulkAll elems + uptoBulkAll spare + 1
  | .agg parts => uptoBulkAll parts + 1
  | .iface _ d => uptoBulk d + 1
  | .map entries => uptoBulkEntries entries + 1
  | .held _ => 1
def uptoBulkAll {H : Type} : List (DataW H) → Nat
  | [] => 0
  | d :: r => uptoBulk d + uptoBulkAll r
def uptoBulkEntries {H : Type} : List (Lit × DataW H) → Nat
  | [] => 0
  | x :: r => uptoBulkEntry x + uptoBulkEntries r
def uptoBulkEntry {H : Type} : Lit × DataW H → Nat
  | (.string bytes, d) => bytes.length + uptoBulk d + 1
  | (_, d) => uptoBulk d + 1
 end
def uptoSmall : (H : Type) → List (DataW H) → Bool := fun _ ds => decide (uptoBulkAll ds ≤ 1048576)
def OpenSpec.upto (s : _root_.Go.ChangeSpec) : _root_.Go.OpenSpec := { _root_.Go.OpenSpec.ofChange s with cond := some uptoSmall }

/-- 'umpirelaw20.LatchApart', WHERE WHAT IT READS IS OF BULK AT MOST 1048576: true; the input reads as it did. -/
def latchApartUptoRow : OpenClaim := { program := "ytogphaiomlfofaadoor", sum := "9d4e051b1ac47c0c33278d80ea928ff3f21da09f43ffb8525e77b63bc440ae98", func := "umpire/umpirelaw20.LatchApart", spec := "latchApart", unfollowed := true, recurses := true, named := ["umpire/api.ErrProg", "umpire/api.ErrMany"], apart := false, laid := [("umpire/api.ErrMany", laid_umpire_api_ErrMany), ("umpire/api.ErrProg", laid_umpire_api_ErrProg)], narrowed := true }
def LatchApartUptoSaid : Prop := latchApartUptoRow.holds Tryd.pinned (OpenSpec.upto latchApartSpec)

end Rows
end Go.Proofs.YtogphaiomlfofaaDoor
