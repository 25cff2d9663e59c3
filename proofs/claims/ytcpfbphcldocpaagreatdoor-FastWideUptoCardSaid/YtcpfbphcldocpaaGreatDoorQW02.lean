/- Parts of the proof; the first: The walk through a program, in memory: Answer to a write. Conditions: those of each theorem, as typed. -/
import Derived.Test.YtcpfbphcldocpaaGreatDoorQW01
import Derived.Laws.EntriesVeiled
set_option linter.unusedVariables false
set_option linter.unusedSimpArgs false
set_option linter.unusedSectionVars false
set_option maxRecDepth 100000
set_option maxHeartbeats 4000000
namespace Go.Proofs.YtcpfbphcldocpaaGreatDoor
open Go.RowKit
