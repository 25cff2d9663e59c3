/-
  DERIVED. GIVEN WITH THE SEED: THE CARDS: each row of YtcpfbphcldocpaaGreatDoorRows.lean that lists a variable, with what it lists TIED to the program's text (the seventh form; the later family's looks); each row that meets fmt, with fmt's text TOLD by the authors' own Lean function (tested against real Go, not proved from fmt's source: count such statements apart). THE CARD IS WHAT COUNTS. Prove the row's statement (the work); the ties are given (YtcpfbphcldocpaaGreatDoorTie.lean); close each card by the builder's one call (the guide's Derived/Test/ToyasCard.lean, 'card_holds'). Laid BY PROGRAM, IN A SANDBOX (cutbox-door.mjs). By AI agents, Wed Nov 11 2026. No macro, syntax, notation, axiom, sorry.
-/
import Derived.Test.YtcpfbphcldocpaaGreatDoorRows
import GoSem.ClaimSeven
namespace Go.Proofs.YtcpfbphcldocpaaGreatDoor
namespace Rows

/-- THE TIED CARD OF 'umpirelaw15.FastEarned'. -/
def fastEarnedCard : Claim7 := { stood := { row := fastEarnedRow, standIns := [], harness := (true, "2821888a3a3b538d5d5b1702d19629d515cae7e074ace1482e2f4f5d713ecc5f"), looks := true }, kinds := [], alts := [], laidByText := true, laidKinds := [.sentinel, .sentinel, .sentinel, .sentinel, .sentinel, .sentinel, .sentinel, .sentinel, .sentinel, .sentinel, .sentinel, .sentinel, .data, .data, .data, .data, .data, .data], laidTests := true, laidLooks := .later }
def FastEarnedCardSaid : Prop := Claim7.holds Tryz.pinned (.plain (OpenSpec.ofChange fastEarnedSpec)) fastEarnedCard

/-- THE TIED CARD OF 'umpirelaw15.FastCloses'. -/
def fastClosesCard : Claim7 := { stood := { row := fastClosesRow, standIns := [], harness := (true, "2821888a3a3b538d5d5b1702d19629d515cae7e074ace1482e2f4f5d713ecc5f"), looks := true }, kinds := [], alts := [], laidByText := true, laidKinds := [.sentinel, .sentinel, .sentinel, .sentinel, .sentinel, .sentinel, .sentinel, .sentinel, .sentinel, .sentinel, .sentinel, .sentinel, .data, .data, .data, .data, .data, .data], laidTests := true, laidLooks := .later }
def FastClosesCardSaid : Prop := Claim7.holds Tryz.pinned (.plain (OpenSpec.ofChange fastClosesSpec)) fastClosesCard

/-- THE TIED CARD OF 'umpirelaw15.FastWide'. -/
def fastWideCard : Claim7 := { stood := { row := fastWideRow, standIns := [], harness := (true, "2821888a3a3b538d5d5b1702d19629d515cae7e074ace1482e2f4f5d713ecc5f"), looks := true }, kinds := [], alts := [], laidByText := true, laidKinds := [.data, .data, .data, .sentinel, .sentinel, .sentinel, .sentinel, .sentinel, .sentinel, .sentinel, .sentinel, .sentinel, .sentinel, .sentinel, .sentinel, .sentinel, .sentinel, .sentinel, .sentinel, .data, .data, .data, .data, .data, .data], laidTests := true, laidLooks := .later }
def FastWideCardSaid : Prop := Claim7.holds Tryz.pinned (.plain (OpenSpec.ofChange fastWideSpec)) fastWideCard

/-- THE TIED CARD OF 'umpirelaw15.FastSearches'. -/
def fastSearchesCard : Claim7 := { stood := { row := fastSearchesRow, standIns := [], harness := (true, "2821888a3a3b538d5d5b1702d19629d515cae7e074ace1482e2f4f5d713ecc5f"), looks := true }, kinds := [], alts := [], laidByText := true, laidKinds := [.data, .data, .data, .sentinel, .sentinel, .sentinel, .sentinel, .sentinel, .sentinel, .sentinel, .sentinel, .sentinel, .sentinel, .sentinel, .sentinel, .sentinel, .sentinel, .sentinel, .sentinel, .sentinel, .sentinel, .data, .data, .data, .data, .data, .data], laidTests := true, laidLooks := .later }
def FastSearchesCardSaid : Prop := Claim7.holds Tryz.pinned (.plain (OpenSpec.ofChange fastSearchesSpec)) fastSearchesCard

/-- THE SECOND FORM's CARD OF 'umpirelaw15.FastEarned'. -/
def fastEarnedUptoCard : Claim7 := { stood := { row := fastEarnedUptoRow, standIns := [], harness := (true, "2821888a3a3b538d5d5b1702d19629d515cae7e074ace1482e2f4f5d713ecc5f"), looks := true }, kinds := [], alts := [], laidByText := true, laidKinds := [.sentinel, .sentinel, .sentinel, .sentinel, .sentinel, .sentinel, .sentinel, .sentinel, .sentinel, .sentinel, .sentinel, .sentinel, .data, .data, .data, .data, .data, .data], laidTests := true, laidLooks := .later }
def FastEarnedUptoCardSaid : Prop := Claim7.holds Tryz.pinned (.plain (OpenSpec.upto fastEarnedSpec)) fastEarnedUptoCard

/-- THE SECOND FORM's CARD OF 'umpirelaw15.FastCloses'. -/
def fastClosesUptoCard : Claim7 := { stood := { row := fastClosesUptoRow, standIns := [], harness := (true, "2821888a3a3b538d5d5b1702d19629d515cae7e074ace1482e2f4f5d713ecc5f"), looks := true }, kinds := [], alts := [], laidByText := true, laidKinds := [.sentinel, .sentinel, .sentinel, .sentinel, .sentinel, .sentinel, .sentinel, .sentinel, .sentinel, .sentinel, .sentinel, .sentinel, .data, .data, .data, .data, .data, .data], laidTests := true, laidLooks := .later }
def FastClosesUptoCardSaid : Prop := Claim7.holds Tryz.pinned (.plain (OpenSpec.upto fastClosesSpec)) fastClosesUptoCard

/-- THE SECOND FORM's CARD OF 'umpirelaw15.FastWide'. -/
def fastWideUptoCard : Claim7 := { stood := { row := fastWideUptoRow, standIns := [], harness := (true, "2821888a3a3b538d5d5b1702d19629d515cae7e074ace1482e2f4f5d713ecc5f"), looks := true }, kinds := [], alts := [], laidByText := true, laidKinds := [.data, .data, .data, .sentinel, .sentinel, .sentinel, .sentinel, .sentinel, .sentinel, .sentinel, .sentinel, .sentinel, .sentinel, .sentinel, .sentinel, .sentinel, .sentinel, .sentinel, .sentinel, .data, .data, .data, .data, .data, .data], laidTests := true, laidLooks := .later }
def FastWideUptoCardSaid : Prop := Claim7.holds Tryz.pinned (.plain (OpenSpec.upto fastWideSpec)) fastWideUptoCard

/-- THE SECOND FORM's CARD OF 'umpirelaw15.FastSearches'. -/
def fastSearchesUptoCard : Claim7 := { stood := { row := fastSearchesUptoRow, standIns := [], harness := (true, "2821888a3a3b538d5d5b1702d19629d515cae7e074ace1482e2f4f5d713ecc5f"), looks := true }, kinds := [], alts := [], laidByText := true, laidKinds := [.data, .data, .data, .sentinel, .sentinel, .sentinel, .sentinel, .sentinel, .sentinel, .sentinel, .sentinel, .sentinel, .sentinel, .sentinel, .sentinel, .sentinel, .sentinel, .sentinel, .sentinel, .sentinel, .sentinel, .data, .data, .data, .data, .data, .data], laidTests := true, laidLooks := .later }
def FastSearchesUptoCardSaid : Prop := Claim7.holds Tryz.pinned (.plain (OpenSpec.upto fastSearchesSpec)) fastSearchesUptoCard
end Rows
end Go.Proofs.YtcpfbphcldocpaaGreatDoor
