/-
  DERIVED. GIVEN WITH THE SEED: THE PROGRAM's TIES (one call each: nine closed facts by the kernel) AND EACH ROW's TIE, after the 31st guide's Derived/Test/Toyas{Tie, Card}.lean. No idea stands in it: it is a product of the set-up. Laid BY PROGRAM, IN A SANDBOX (cutbox-door.mjs). By AI agents, Wed Nov 11 2026. No macro, syntax, notation, axiom, sorry.
-/
import Derived.Test.YtogphaiomlfofaaGreatDoorRows
import Derived.LaidByTextLater
import Derived.SevenTiedAt
import Derived.LaidSub
import Derived.LaidOnce
namespace Go.Proofs.YtogphaiomlfofaaGreatDoor
open Go
set_option maxRecDepth 100000
theorem seatTie1 : Tryz.prog.laidByTextLater [("umpire/api.ErrMany", Rows.laid_umpire_api_ErrMany), ("umpire/api.ErrCode", Rows.laid_umpire_api_ErrCode), ("umpire/api.ErrObject", Rows.laid_umpire_api_ErrObject), ("umpire/api.ErrEvent", Rows.laid_umpire_api_ErrEvent), ("umpire/api.ErrOp", Rows.laid_umpire_api_ErrOp), ("umpire/api.ErrAnswer", Rows.laid_umpire_api_ErrAnswer), ("umpire/api.ErrTx", Rows.laid_umpire_api_ErrTx), ("umpire/api.ErrTwice", Rows.laid_umpire_api_ErrTwice), ("umpire/api.ErrThread", Rows.laid_umpire_api_ErrThread), ("umpire/api.ErrOrder", Rows.laid_umpire_api_ErrOrder), ("umpire/api.ErrProg", Rows.laid_umpire_api_ErrProg), ("umpire/event.objects", Rows.laid_umpire_event_objects), ("umpire/event.events", Rows.laid_umpire_event_events), ("umpire/event.ops", Rows.laid_umpire_event_ops), ("umpire/event.answers", Rows.laid_umpire_event_answers), ("umpire/event.states", Rows.laid_umpire_event_states), ("umpire/event.levels", Rows.laid_umpire_event_levels)] [.sentinel, .sentinel, .sentinel, .sentinel, .sentinel, .sentinel, .sentinel, .sentinel, .sentinel, .sentinel, .sentinel, .data, .data, .data, .data, .data, .data] true :=
  Program.laidByTextLater_by_one 248 8 10 (by kernel_rfl) (by kernel_rfl) (by kernel_rfl) (by kernel_rfl) (by kernel_rfl) (by kernel_rfl) (fun _ _ => by kernel_rfl)
theorem noOwnUnsafe : Tryz.pinned.checked.prog.headLifts.contains "ownunsafe" = false := by kernel_rfl
theorem tie : Tryz.prog.laidByTextLater [("umpire/api.ErrMany", Rows.laid_umpire_api_ErrMany), ("umpire/api.ErrCode", Rows.laid_umpire_api_ErrCode), ("umpire/api.ErrObject", Rows.laid_umpire_api_ErrObject), ("umpire/api.ErrEvent", Rows.laid_umpire_api_ErrEvent), ("umpire/api.ErrOp", Rows.laid_umpire_api_ErrOp), ("umpire/api.ErrAnswer", Rows.laid_umpire_api_ErrAnswer), ("umpire/api.ErrTx", Rows.laid_umpire_api_ErrTx), ("umpire/api.ErrTwice", Rows.laid_umpire_api_ErrTwice), ("umpire/api.ErrThread", Rows.laid_umpire_api_ErrThread), ("umpire/api.ErrOrder", Rows.laid_umpire_api_ErrOrder), ("umpire/api.ErrProg", Rows.laid_umpire_api_ErrProg), ("umpire/event.objects", Rows.laid_umpire_event_objects), ("umpire/event.events", Rows.laid_umpire_event_events), ("umpire/event.ops", Rows.laid_umpire_event_ops), ("umpire/event.answers", Rows.laid_umpire_event_answers), ("umpire/event.states", Rows.laid_umpire_event_states), ("umpire/event.levels", Rows.laid_umpire_event_levels)] [.sentinel, .sentinel, .sentinel, .sentinel, .sentinel, .sentinel, .sentinel, .sentinel, .sentinel, .sentinel, .sentinel, .data, .data, .data, .data, .data, .data] true :=
  Program.laidByTextLater.sub seatTie1 ["umpire/api.ErrMany", "umpire/api.ErrCode", "umpire/api.ErrObject", "umpire/api.ErrEvent", "umpire/api.ErrOp", "umpire/api.ErrAnswer", "umpire/api.ErrTx", "umpire/api.ErrTwice", "umpire/api.ErrThread", "umpire/api.ErrOrder", "umpire/api.ErrProg", "umpire/event.objects", "umpire/event.events", "umpire/event.ops", "umpire/event.answers", "umpire/event.states", "umpire/event.levels"] (by kernel_rfl) (by kernel_rfl)
theorem lateReads_row_tie : Rows.lateReadsRow.laidByTextAt .later Tryz.pinned [.sentinel, .sentinel, .sentinel, .sentinel, .sentinel, .sentinel, .sentinel, .sentinel, .sentinel, .sentinel, .sentinel, .data, .data, .data, .data, .data, .data] true :=
  OpenClaim.laidByTextAt_later rfl rfl tie noOwnUnsafe
theorem lateTries_row_tie : Rows.lateTriesRow.laidByTextAt .later Tryz.pinned [.sentinel, .sentinel, .sentinel, .sentinel, .sentinel, .sentinel, .sentinel, .sentinel, .sentinel, .sentinel, .sentinel, .data, .data, .data, .data, .data, .data] true :=
  OpenClaim.laidByTextAt_later rfl rfl tie noOwnUnsafe
theorem lateBehind_row_tie : Rows.lateBehindRow.laidByTextAt .later Tryz.pinned [.sentinel, .sentinel, .sentinel, .sentinel, .sentinel, .sentinel, .sentinel, .sentinel, .sentinel, .sentinel, .sentinel, .data, .data, .data, .data, .data, .data] true :=
  OpenClaim.laidByTextAt_later rfl rfl tie noOwnUnsafe
theorem latchBehind_row_tie : Rows.latchBehindRow.laidByTextAt .later Tryz.pinned [.sentinel, .sentinel, .sentinel, .sentinel, .sentinel, .sentinel, .sentinel, .sentinel, .sentinel, .sentinel, .sentinel, .data, .data, .data, .data, .data, .data] true :=
  OpenClaim.laidByTextAt_later rfl rfl tie noOwnUnsafe
theorem clockReads_row_tie : Rows.clockReadsRow.laidByTextAt .later Tryz.pinned [.sentinel, .sentinel, .sentinel, .sentinel, .sentinel, .sentinel, .sentinel, .sentinel, .sentinel, .sentinel, .sentinel, .data, .data, .data, .data, .data, .data] true :=
  OpenClaim.laidByTextAt_later rfl rfl tie noOwnUnsafe
theorem clockAlone_row_tie : Rows.clockAloneRow.laidByTextAt .later Tryz.pinned [.sentinel, .sentinel, .sentinel, .sentinel, .sentinel, .sentinel, .sentinel, .sentinel, .sentinel, .sentinel, .sentinel, .data, .data, .data, .data, .data, .data] true :=
  OpenClaim.laidByTextAt_later rfl rfl tie noOwnUnsafe
theorem clockBehind_row_tie : Rows.clockBehindRow.laidByTextAt .later Tryz.pinned [.sentinel, .sentinel, .sentinel, .sentinel, .sentinel, .sentinel, .sentinel, .sentinel, .sentinel, .sentinel, .sentinel, .data, .data, .data, .data, .data, .data] true :=
  OpenClaim.laidByTextAt_later rfl rfl tie noOwnUnsafe
theorem latchTries_row_tie : Rows.latchTriesRow.laidByTextAt .later Tryz.pinned [.sentinel, .sentinel, .sentinel, .sentinel, .sentinel, .sentinel, .sentinel, .sentinel, .sentinel, .sentinel, .sentinel, .data, .data, .data, .data, .data, .data] true :=
  OpenClaim.laidByTextAt_later rfl rfl tie noOwnUnsafe
theorem lateReadsUpto_row_tie : Rows.lateReadsUptoRow.laidByTextAt .later Tryz.pinned [.sentinel, .sentinel, .sentinel, .sentinel, .sentinel, .sentinel, .sentinel, .sentinel, .sentinel, .sentinel, .sentinel, .data, .data, .data, .data, .data, .data] true :=
  OpenClaim.laidByTextAt_later rfl rfl tie noOwnUnsafe
theorem lateTriesUpto_row_tie : Rows.lateTriesUptoRow.laidByTextAt .later Tryz.pinned [.sentinel, .sentinel, .sentinel, .sentinel, .sentinel, .sentinel, .sentinel, .sentinel, .sentinel, .sentinel, .sentinel, .data, .data, .data, .data, .data, .data] true :=
  OpenClaim.laidByTextAt_later rfl rfl tie noOwnUnsafe
theorem lateBehindUpto_row_tie : Rows.lateBehindUptoRow.laidByTextAt .later Tryz.pinned [.sentinel, .sentinel, .sentinel, .sentinel, .sentinel, .sentinel, .sentinel, .sentinel, .sentinel, .sentinel, .sentinel, .data, .data, .data, .data, .data, .data] true :=
  OpenClaim.laidByTextAt_later rfl rfl tie noOwnUnsafe
theorem latchBehindUpto_row_tie : Rows.latchBehindUptoRow.laidByTextAt .later Tryz.pinned [.sentinel, .sentinel, .sentinel, .sentinel, .sentinel, .sentinel, .sentinel, .sentinel, .sentinel, .sentinel, .sentinel, .data, .data, .data, .data, .data, .data] true :=
  OpenClaim.laidByTextAt_later rfl rfl tie noOwnUnsafe
theorem clockReadsUpto_row_tie : Rows.clockReadsUptoRow.laidByTextAt .later Tryz.pinned [.sentinel, .sentinel, .sentinel, .sentinel, .sentinel, .sentinel, .sentinel, .sentinel, .sentinel, .sentinel, .sentinel, .data, .data, .data, .data, .data, .data] true :=
  OpenClaim.laidByTextAt_later rfl rfl tie noOwnUnsafe
theorem clockAloneUpto_row_tie : Rows.clockAloneUptoRow.laidByTextAt .later Tryz.pinned [.sentinel, .sentinel, .sentinel, .sentinel, .sentinel, .sentinel, .sentinel, .sentinel, .sentinel, .sentinel, .sentinel, .data, .data, .data, .data, .data, .data] true :=
  OpenClaim.laidByTextAt_later rfl rfl tie noOwnUnsafe
theorem clockBehindUpto_row_tie : Rows.clockBehindUptoRow.laidByTextAt .later Tryz.pinned [.sentinel, .sentinel, .sentinel, .sentinel, .sentinel, .sentinel, .sentinel, .sentinel, .sentinel, .sentinel, .sentinel, .data, .data, .data, .data, .data, .data] true :=
  OpenClaim.laidByTextAt_later rfl rfl tie noOwnUnsafe
theorem latchTriesUpto_row_tie : Rows.latchTriesUptoRow.laidByTextAt .later Tryz.pinned [.sentinel, .sentinel, .sentinel, .sentinel, .sentinel, .sentinel, .sentinel, .sentinel, .sentinel, .sentinel, .sentinel, .data, .data, .data, .data, .data, .data] true :=
  OpenClaim.laidByTextAt_later rfl rfl tie noOwnUnsafe
end Go.Proofs.YtogphaiomlfofaaGreatDoor
