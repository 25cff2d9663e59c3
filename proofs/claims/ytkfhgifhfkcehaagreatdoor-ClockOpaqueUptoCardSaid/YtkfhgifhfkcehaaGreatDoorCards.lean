/-
  DERIVED. GIVEN WITH THE SEED: THE CARDS: each row of YtkfhgifhfkcehaaGreatDoorRows.lean that lists a variable, with what it lists TIED to the program's text (the seventh form; the later family's looks); each row that meets fmt, with fmt's text TOLD by the authors' own Lean function (tested against real Go, not proved from fmt's source: count such statements apart). THE CARD IS WHAT COUNTS. Prove the row's statement (the work); the ties are given (YtkfhgifhfkcehaaGreatDoorTie.lean); close each card by the builder's one call (the guide's Derived/Test/ToyasCard.lean, 'card_holds'). Laid BY PROGRAM, IN A SANDBOX (cutbox-door.mjs). By AI agents, Wed Nov 11 2026. No macro, syntax, notation, axiom, sorry.
-/
import Derived.Test.YtkfhgifhfkcehaaGreatDoorRows
import GoSem.ClaimSeven
namespace Go.Proofs.YtkfhgifhfkcehaaGreatDoor
namespace Rows

/-- THE TIED CARD OF 'umpirelaw20.LatchTries'. -/
def latchTriesCard : Claim7 := { stood := { row := latchTriesRow, standIns := [], harness := (true, "af1ec63cf9dd1c25f1304104b80c45876637eb8996211a8958157c4d9cd4c7dc"), looks := true }, kinds := [], alts := [], laidByText := true, laidKinds := [.sentinel, .sentinel, .sentinel, .sentinel, .sentinel, .sentinel, .sentinel, .sentinel, .sentinel, .sentinel, .sentinel, .data, .data, .data, .data, .data, .data], laidTests := true, laidLooks := .later }
def LatchTriesCardSaid : Prop := Claim7.holds Tryz.pinned (.plain (OpenSpec.ofChange latchTriesSpec)) latchTriesCard

/-- THE TIED CARD OF 'umpirelaw21.LateStrict'. -/
def lateStrictCard : Claim7 := { stood := { row := lateStrictRow, standIns := [], harness := (true, "af1ec63cf9dd1c25f1304104b80c45876637eb8996211a8958157c4d9cd4c7dc"), looks := true }, kinds := [], alts := [], laidByText := true, laidKinds := [.data, .data, .data, .sentinel, .sentinel, .sentinel, .sentinel, .sentinel, .sentinel, .sentinel, .sentinel, .sentinel, .sentinel, .sentinel, .sentinel, .sentinel, .sentinel, .sentinel, .sentinel, .data, .data, .data, .data, .data, .data], laidTests := true, laidLooks := .later }
def LateStrictCardSaid : Prop := Claim7.holds Tryz.pinned (.plain (OpenSpec.ofChange lateStrictSpec)) lateStrictCard

/-- THE TIED CARD OF 'umpirelaw20.LatchOpaque'. -/
def latchOpaqueCard : Claim7 := { stood := { row := latchOpaqueRow, standIns := [], harness := (true, "af1ec63cf9dd1c25f1304104b80c45876637eb8996211a8958157c4d9cd4c7dc"), looks := true }, kinds := [], alts := [], laidByText := true, laidKinds := [.data, .data, .data, .sentinel, .sentinel, .sentinel, .sentinel, .sentinel, .sentinel, .sentinel, .sentinel, .sentinel, .sentinel, .sentinel, .sentinel, .sentinel, .sentinel, .sentinel, .sentinel, .data, .data, .data, .data, .data, .data], laidTests := true, laidLooks := .later }
def LatchOpaqueCardSaid : Prop := Claim7.holds Tryz.pinned (.plain (OpenSpec.ofChange latchOpaqueSpec)) latchOpaqueCard

/-- THE TIED CARD OF 'umpirelaw19.ClockOpaque'. -/
def clockOpaqueCard : Claim7 := { stood := { row := clockOpaqueRow, standIns := [], harness := (true, "af1ec63cf9dd1c25f1304104b80c45876637eb8996211a8958157c4d9cd4c7dc"), looks := true }, kinds := [], alts := [], laidByText := true, laidKinds := [.data, .data, .data, .sentinel, .sentinel, .sentinel, .sentinel, .sentinel, .sentinel, .sentinel, .sentinel, .sentinel, .sentinel, .sentinel, .sentinel, .sentinel, .sentinel, .sentinel, .sentinel, .data, .data, .data, .data, .data, .data], laidTests := true, laidLooks := .later }
def ClockOpaqueCardSaid : Prop := Claim7.holds Tryz.pinned (.plain (OpenSpec.ofChange clockOpaqueSpec)) clockOpaqueCard

/-- THE SECOND FORM's CARD OF 'umpirelaw20.LatchTries'. -/
def latchTriesUptoCard : Claim7 := { stood := { row := latchTriesUptoRow, standIns := [], harness := (true, "af1ec63cf9dd1c25f1304104b80c45876637eb8996211a8958157c4d9cd4c7dc"), looks := true }, kinds := [], alts := [], laidByText := true, laidKinds := [.sentinel, .sentinel, .sentinel, .sentinel, .sentinel, .sentinel, .sentinel, .sentinel, .sentinel, .sentinel, .sentinel, .data, .data, .data, .data, .data, .data], laidTests := true, laidLooks := .later }
def LatchTriesUptoCardSaid : Prop := Claim7.holds Tryz.pinned (.plain (OpenSpec.upto latchTriesSpec)) latchTriesUptoCard

/-- THE SECOND FORM's CARD OF 'umpirelaw21.LateStrict'. -/
def lateStrictUptoCard : Claim7 := { stood := { row := lateStrictUptoRow, standIns := [], harness := (true, "af1ec63cf9dd1c25f1304104b80c45876637eb8996211a8958157c4d9cd4c7dc"), looks := true }, kinds := [], alts := [], laidByText := true, laidKinds := [.data, .data, .data, .sentinel, .sentinel, .sentinel, .sentinel, .sentinel, .sentinel, .sentinel, .sentinel, .sentinel, .sentinel, .sentinel, .sentinel, .sentinel, .sentinel, .sentinel, .sentinel, .data, .data, .data, .data, .data, .data], laidTests := true, laidLooks := .later }
def LateStrictUptoCardSaid : Prop := Claim7.holds Tryz.pinned (.plain (OpenSpec.upto lateStrictSpec)) lateStrictUptoCard

/-- THE SECOND FORM's CARD OF 'umpirelaw20.LatchOpaque'. -/
def latchOpaqueUptoCard : Claim7 := { stood := { row := latchOpaqueUptoRow, standIns := [], harness := (true, "af1ec63cf9dd1c25f1304104b80c45876637eb8996211a8958157c4d9cd4c7dc"), looks := true }, kinds := [], alts := [], laidByText := true, laidKinds := [.data, .data, .data, .sentinel, .sentinel, .sentinel, .sentinel, .sentinel, .sentinel, .sentinel, .sentinel, .sentinel, .sentinel, .sentinel, .sentinel, .sentinel, .sentinel, .sentinel, .sentinel, .data, .data, .data, .data, .data, .data], laidTests := true, laidLooks := .later }
def LatchOpaqueUptoCardSaid : Prop := Claim7.holds Tryz.pinned (.plain (OpenSpec.upto latchOpaqueSpec)) latchOpaqueUptoCard

/-- THE SECOND FORM's CARD OF 'umpirelaw19.ClockOpaque'. -/
def clockOpaqueUptoCard : Claim7 := { stood := { row := clockOpaqueUptoRow, standIns := [], harness := (true, "af1ec63cf9dd1c25f1304104b80c45876637eb8996211a8958157c4d9cd4c7dc"), looks := true }, kinds := [], alts := [], laidByText := true, laidKinds := [.data, .data, .data, .sentinel, .sentinel, .sentinel, .sentinel, .sentinel, .sentinel, .sentinel, .sentinel, .sentinel, .sentinel, .sentinel, .sentinel, .sentinel, .sentinel, .sentinel, .sentinel, .data, .data, .data, .data, .data, .data], laidTests := true, laidLooks := .later }
def ClockOpaqueUptoCardSaid : Prop := Claim7.holds Tryz.pinned (.plain (OpenSpec.upto clockOpaqueSpec)) clockOpaqueUptoCard
end Rows
end Go.Proofs.YtkfhgifhfkcehaaGreatDoor
