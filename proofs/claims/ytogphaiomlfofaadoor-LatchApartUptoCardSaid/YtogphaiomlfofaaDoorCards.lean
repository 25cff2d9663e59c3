/-
  DERIVED. GIVEN WITH THE SEED: THE CARDS: each row of YtogphaiomlfofaaDoorRows.lean that lists a variable, with what it lists TIED to the program's text (the seventh form; the later family's looks); each row that meets fmt, with fmt's text TOLD by the authors' own Lean function (tested against real Go, not proved from fmt's source: count such statements apart). THE CARD IS WHAT COUNTS. Prove the row's statement (the work); the ties are given (YtogphaiomlfofaaDoorTie.lean); close each card by the builder's one call (the guide's Derived/Test/ToyasCard.lean, 'card_holds'). Laid BY PROGRAM, IN A SANDBOX (cutbox-door.mjs). By AI agents, Wed Nov 11 2026. No macro, syntax, notation, axiom, sorry.
-/
import Derived.Test.YtogphaiomlfofaaDoorRows
import GoSem.ClaimSeven
namespace Go.Proofs.YtogphaiomlfofaaDoor
namespace Rows

/-- THE TIED CARD OF 'umpirelaw20.LatchApart'. -/
def latchApartCard : Claim7 := { stood := { row := latchApartRow, standIns := [], harness := (true, "6229b204d84691457897a4241d098b95023a4d2f1dc2e7295a9ffb6f2a2d3869"), looks := false }, kinds := [], alts := [], laidByText := true, laidKinds := [.sentinel, .sentinel], laidTests := true, laidLooks := .later }
def LatchApartCardSaid : Prop := Claim7.holds Tryd.pinned (.plain (OpenSpec.ofChange latchApartSpec)) latchApartCard

/-- THE SECOND FORM's CARD OF 'umpirelaw20.LatchApart'. -/
def latchApartUptoCard : Claim7 := { stood := { row := latchApartUptoRow, standIns := [], harness := (true, "6229b204d84691457897a4241d098b95023a4d2f1dc2e7295a9ffb6f2a2d3869"), looks := false }, kinds := [], alts := [], laidByText := true, laidKinds := [.sentinel, .sentinel], laidTests := true, laidLooks := .later }
def LatchApartUptoCardSaid : Prop := Claim7.holds Tryd.pinned (.plain (OpenSpec.upto latchApartSpec)) latchApartUptoCard
end Rows
end Go.Proofs.YtogphaiomlfofaaDoor
