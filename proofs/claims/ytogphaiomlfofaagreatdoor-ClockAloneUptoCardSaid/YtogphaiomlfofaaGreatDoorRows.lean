/-
  NARROWER THAN 'FOR EVERY INPUT', by the rows' own cells (each row's printed sentence says how): LateReads: laid · LateTries: laid · LateBehind: laid · LatchBehind: laid · ClockReads: laid · ClockAlone: laid · ClockBehind: laid · LatchTries: laid.
  DERIVED. THE GIVEN ROWS OF THIS SEAT. 8 by the template 'for every input the law returns true; each argument reads behind the call as it read before'; 0 by the template 'total and deterministic' (their statements: YtogphaiomlfofaaGreatDoorTotals.lean).
  GIVEN WITH THE SEED: the statements are not yours to turn. If you find one false, say at which input.
  Laid BY PROGRAM, IN A SANDBOX (cutbox-rows.mjs): the forced cells as the released guide's own fill.sh prints them over the translation a88d5e0e1a685181… (all of the seat's roots in one cut). By AI agents, Wed Nov 11 2026. No macro, syntax, notation, axiom, sorry.
-/
import Derived.Test.YtogphaiomlfofaaGreatDoorChecked
import GoSem.Claim
import GoSem.ClaimJoined
import GoSem.ClaimMapViews
import Derived.JoinedTies
import Derived.KernelRfl
namespace Go.Proofs.YtogphaiomlfofaaGreatDoor
/- THE CELL 'sum', in the pinned program and in every row, IS THE sha256 OF THE DUMP (.gsa) THAT YtogphaiomlfofaaGreatDoorProg.lean LOADS. Nothing in Lean hashes anything: it is a label: what it is worth is what the hold of that sum in a sandbox is worth. -/
noncomputable def Tryz.pinned : Pinned := { name := "ytogphaiomlfofaagreatdoor", sum := "a88d5e0e1a685181cf577b6207e61fce3e760d569bbbd8a5a046b63594b09f2f", checked := Tryz.checked }
namespace Rows
def none {H : Type} : Left H := { results := [], args := [] }

/- WHAT THE LISTED PACKAGE-LEVEL VARIABLES READ AS WHEN THE CALL BEGINS. Each datum BY PROGRAM (the guide's laid-datum.mjs) off the statement by which the dump's own 'gosem.cut.vars' lays the variable. In a bare row this is a premise. The card (YtogphaiomlfofaaGreatDoorCards.lean) ties it to the program's text. -/
def laid_umpire_api_ErrMany {H : Type} : DataW H := .iface "*errors.errorString" (.ptr (.agg [.lit (.string [116, 111, 111, 32, 109, 97, 110, 121])]))
def laid_umpire_api_ErrCode {H : Type} : DataW H := .iface "*errors.errorString" (.ptr (.agg [.lit (.string [110, 111, 32, 115, 117, 99, 104, 32, 99, 111, 100, 101])]))
def laid_umpire_api_ErrObject {H : Type} : DataW H := .iface "*errors.errorString" (.ptr (.agg [.lit (.string [110, 111, 32, 111, 98, 106, 101, 99, 116])]))
def laid_umpire_api_ErrEvent {H : Type} : DataW H := .iface "*errors.errorString" (.ptr (.agg [.lit (.string [110, 111, 32, 101, 118, 101, 110, 116])]))
def laid_umpire_api_ErrOp {H : Type} : DataW H := .iface "*errors.errorString" (.ptr (.agg [.lit (.string [110, 111, 32, 111, 112, 101, 114, 97, 116, 105, 111, 110, 32, 111, 102, 32, 116, 104, 97, 116, 32, 111, 98, 106, 101, 99, 116])]))
def laid_umpire_api_ErrAnswer {H : Type} : DataW H := .iface "*errors.errorString" (.ptr (.agg [.lit (.string [110, 111, 32, 97, 110, 115, 119, 101, 114, 32, 111, 102, 32, 116, 104, 97, 116, 32, 111, 112, 101, 114, 97, 116, 105, 111, 110])]))
def laid_umpire_api_ErrTx {H : Type} : DataW H := .iface "*errors.errorString" (.ptr (.agg [.lit (.string [110, 111, 32, 115, 117, 99, 104, 32, 116, 114, 97, 110, 115, 97, 99, 116, 105, 111, 110])]))
def laid_umpire_api_ErrTwice {H : Type} : DataW H := .iface "*errors.errorString" (.ptr (.agg [.lit (.string [105, 116, 32, 104, 97, 115, 32, 98, 101, 103, 117, 110, 32, 97, 108, 114, 101, 97, 100, 121])]))
def laid_umpire_api_ErrThread {H : Type} : DataW H := .iface "*errors.errorString" (.ptr (.agg [.lit (.string [116, 104, 101, 32, 116, 104, 114, 101, 97, 100, 32, 105, 115, 32, 98, 117, 115, 121])]))
def laid_umpire_api_ErrOrder {H : Type} : DataW H := .iface "*errors.errorString" (.ptr (.agg [.lit (.string [105, 116, 32, 100, 111, 101, 115, 32, 110, 111, 116, 32, 99, 111, 109, 101, 32, 104, 101, 114, 101])]))
def laid_umpire_api_ErrProg {H : Type} : DataW H := .iface "*errors.errorString" (.ptr (.agg [.lit (.string [110, 111, 32, 112, 114, 111, 103, 114, 97, 109])]))
def laid_umpire_event_objects {H : Type} : DataW H := .agg [.lit (.string [114, 101, 103, 105, 115, 116, 101, 114]), .lit (.string [99, 111, 117, 110, 116, 101, 114]), .lit (.string [113, 117, 101, 117, 101]), .lit (.string [109, 97, 112])]
def laid_umpire_event_events {H : Type} : DataW H := .agg [.lit (.string [98, 101, 103, 105, 110]), .lit (.string [99, 97, 108, 108]), .lit (.string [114, 101, 116, 117, 114, 110]), .lit (.string [116, 114, 121]), .lit (.string [99, 111, 109, 109, 105, 116]), .lit (.string [97, 98, 111, 114, 116]), .lit (.string [99, 97, 110, 99, 101, 108])]
def laid_umpire_event_ops {H : Type} : DataW H := .agg [.lit (.string [114, 101, 97, 100]), .lit (.string [119, 114, 105, 116, 101]), .lit (.string [97, 100, 100]), .lit (.string [103, 101, 116]), .lit (.string [101, 110, 113]), .lit (.string [100, 101, 113]), .lit (.string [112, 117, 116]), .lit (.string [108, 111, 111, 107]), .lit (.string [100, 101, 108])]
def laid_umpire_event_answers {H : Type} : DataW H := .agg [.lit (.string [111, 107]), .lit (.string [110, 111, 110, 101]), .lit (.string [118, 97, 108])]
def laid_umpire_event_states {H : Type} : DataW H := .agg [.lit (.string [108, 105, 118, 101]), .lit (.string [112, 101, 110, 100, 105, 110, 103]), .lit (.string [99, 111, 109, 109, 105, 116, 116, 101, 100]), .lit (.string [97, 98, 111, 114, 116, 101, 100])]
def laid_umpire_event_levels {H : Type} : DataW H := .agg [.lit (.string [115, 101, 114, 105, 97, 108]), .lit (.string [115, 116, 114, 105, 99, 116]), .lit (.string [102, 105, 110, 97, 108]), .lit (.string [111, 112, 97, 113, 117, 101])]

/-- 'umpirelaw21.LateReads': WHATEVER THE INPUT: true; the input reads as it did. -/
def lateReadsSpec : ChangeSpec := { name := "lateReads", fn := fun _ => fun
  | [d1, d2] => { results := [.lit (.bool true)], args := [d1, d2] }
  | _ => none }
def lateReadsRow : OpenClaim := { program := "ytogphaiomlfofaagreatdoor", sum := "a88d5e0e1a685181cf577b6207e61fce3e760d569bbbd8a5a046b63594b09f2f", func := "umpire/umpirelaw21.LateReads", spec := "lateReads", unfollowed := true, recurses := true, named := ["umpire/api.ErrProg", "umpire/api.ErrMany", "umpire/api.ErrObject", "umpire/api.ErrOp", "umpire/event.objects", "umpire/event.events", "umpire/event.ops", "umpire/event.answers", "umpire/event.states", "umpire/event.levels", "umpire/api.ErrCode", "umpire/api.ErrEvent", "umpire/api.ErrTwice", "umpire/api.ErrThread", "umpire/api.ErrTx", "umpire/api.ErrOrder", "umpire/api.ErrAnswer"], apart := false, laid := [("umpire/api.ErrMany", laid_umpire_api_ErrMany), ("umpire/api.ErrCode", laid_umpire_api_ErrCode), ("umpire/api.ErrObject", laid_umpire_api_ErrObject), ("umpire/api.ErrEvent", laid_umpire_api_ErrEvent), ("umpire/api.ErrOp", laid_umpire_api_ErrOp), ("umpire/api.ErrAnswer", laid_umpire_api_ErrAnswer), ("umpire/api.ErrTx", laid_umpire_api_ErrTx), ("umpire/api.ErrTwice", laid_umpire_api_ErrTwice), ("umpire/api.ErrThread", laid_umpire_api_ErrThread), ("umpire/api.ErrOrder", laid_umpire_api_ErrOrder), ("umpire/api.ErrProg", laid_umpire_api_ErrProg), ("umpire/event.objects", laid_umpire_event_objects), ("umpire/event.events", laid_umpire_event_events), ("umpire/event.ops", laid_umpire_event_ops), ("umpire/event.answers", laid_umpire_event_answers), ("umpire/event.states", laid_umpire_event_states), ("umpire/event.levels", laid_umpire_event_levels)] }
def LateReadsSaid : Prop := lateReadsRow.holds Tryz.pinned (OpenSpec.ofChange lateReadsSpec)

/-- ITS FALSE NEIGHBOUR: 'it returns false'. Refute it at one input. -/
def lateReadsWrong : ChangeSpec := { name := "lateReads", fn := fun _ => fun
  | [d1, d2] => { results := [.lit (.bool false)], args := [d1, d2] }
  | _ => none }
def LateReadsWrongFalsely : Prop := lateReadsRow.holds Tryz.pinned (OpenSpec.ofChange lateReadsWrong)

/-- 'umpirelaw21.LateTries': WHATEVER THE INPUT: true; the input reads as it did. -/
def lateTriesSpec : ChangeSpec := { name := "lateTries", fn := fun _ => fun
  | [d1, d2] => { results := [.lit (.bool true)], args := [d1, d2] }
  | _ => none }
def lateTriesRow : OpenClaim := { program := "ytogphaiomlfofaagreatdoor", sum := "a88d5e0e1a685181cf577b6207e61fce3e760d569bbbd8a5a046b63594b09f2f", func := "umpire/umpirelaw21.LateTries", spec := "lateTries", unfollowed := true, recurses := true, named := ["umpire/api.ErrProg", "umpire/api.ErrMany", "umpire/api.ErrObject", "umpire/api.ErrOp", "umpire/event.objects", "umpire/event.events", "umpire/event.ops", "umpire/event.answers", "umpire/event.states", "umpire/event.levels", "umpire/api.ErrCode", "umpire/api.ErrEvent", "umpire/api.ErrTwice", "umpire/api.ErrThread", "umpire/api.ErrTx", "umpire/api.ErrOrder", "umpire/api.ErrAnswer"], apart := false, laid := [("umpire/api.ErrMany", laid_umpire_api_ErrMany), ("umpire/api.ErrCode", laid_umpire_api_ErrCode), ("umpire/api.ErrObject", laid_umpire_api_ErrObject), ("umpire/api.ErrEvent", laid_umpire_api_ErrEvent), ("umpire/api.ErrOp", laid_umpire_api_ErrOp), ("umpire/api.ErrAnswer", laid_umpire_api_ErrAnswer), ("umpire/api.ErrTx", laid_umpire_api_ErrTx), ("umpire/api.ErrTwice", laid_umpire_api_ErrTwice), ("umpire/api.ErrThread", laid_umpire_api_ErrThread), ("umpire/api.ErrOrder", laid_umpire_api_ErrOrder), ("umpire/api.ErrProg", laid_umpire_api_ErrProg), ("umpire/event.objects", laid_umpire_event_objects), ("umpire/event.events", laid_umpire_event_events), ("umpire/event.ops", laid_umpire_event_ops), ("umpire/event.answers", laid_umpire_event_answers), ("umpire/event.states", laid_umpire_event_states), ("umpire/event.levels", laid_umpire_event_levels)] }
def LateTriesSaid : Prop := lateTriesRow.holds Tryz.pinned (OpenSpec.ofChange lateTriesSpec)

/-- ITS FALSE NEIGHBOUR: 'it returns false'. Refute it at one input. -/
def lateTriesWrong : ChangeSpec := { name := "lateTries", fn := fun _ => fun
  | [d1, d2] => { results := [.lit (.bool false)], args := [d1, d2] }
  | _ => none }
def LateTriesWrongFalsely : Prop := lateTriesRow.holds Tryz.pinned (OpenSpec.ofChange lateTriesWrong)

/-- 'umpirelaw21.LateBehind': WHATEVER THE INPUT: true; the input reads as it did. -/
def lateBehindSpec : ChangeSpec := { name := "lateBehind", fn := fun _ => fun
  | [d1, d2, d3] => { results := [.lit (.bool true)], args := [d1, d2, d3] }
  | _ => none }
def lateBehindRow : OpenClaim := { program := "ytogphaiomlfofaagreatdoor", sum := "a88d5e0e1a685181cf577b6207e61fce3e760d569bbbd8a5a046b63594b09f2f", func := "umpire/umpirelaw21.LateBehind", spec := "lateBehind", unfollowed := true, recurses := true, named := ["umpire/api.ErrProg", "umpire/api.ErrMany", "umpire/api.ErrObject", "umpire/api.ErrOp", "umpire/event.objects", "umpire/event.events", "umpire/event.ops", "umpire/event.answers", "umpire/event.states", "umpire/event.levels", "umpire/api.ErrCode", "umpire/api.ErrEvent", "umpire/api.ErrTwice", "umpire/api.ErrThread", "umpire/api.ErrTx", "umpire/api.ErrOrder", "umpire/api.ErrAnswer"], apart := false, laid := [("umpire/api.ErrMany", laid_umpire_api_ErrMany), ("umpire/api.ErrCode", laid_umpire_api_ErrCode), ("umpire/api.ErrObject", laid_umpire_api_ErrObject), ("umpire/api.ErrEvent", laid_umpire_api_ErrEvent), ("umpire/api.ErrOp", laid_umpire_api_ErrOp), ("umpire/api.ErrAnswer", laid_umpire_api_ErrAnswer), ("umpire/api.ErrTx", laid_umpire_api_ErrTx), ("umpire/api.ErrTwice", laid_umpire_api_ErrTwice), ("umpire/api.ErrThread", laid_umpire_api_ErrThread), ("umpire/api.ErrOrder", laid_umpire_api_ErrOrder), ("umpire/api.ErrProg", laid_umpire_api_ErrProg), ("umpire/event.objects", laid_umpire_event_objects), ("umpire/event.events", laid_umpire_event_events), ("umpire/event.ops", laid_umpire_event_ops), ("umpire/event.answers", laid_umpire_event_answers), ("umpire/event.states", laid_umpire_event_states), ("umpire/event.levels", laid_umpire_event_levels)] }
def LateBehindSaid : Prop := lateBehindRow.holds Tryz.pinned (OpenSpec.ofChange lateBehindSpec)

/-- ITS FALSE NEIGHBOUR: 'it returns false'. Refute it at one input. -/
def lateBehindWrong : ChangeSpec := { name := "lateBehind", fn := fun _ => fun
  | [d1, d2, d3] => { results := [.lit (.bool false)], args := [d1, d2, d3] }
  | _ => none }
def LateBehindWrongFalsely : Prop := lateBehindRow.holds Tryz.pinned (OpenSpec.ofChange lateBehindWrong)

/-- 'umpirelaw20.LatchBehind': WHATEVER THE INPUT: true; the input reads as it did. -/
def latchBehindSpec : ChangeSpec := { name := "latchBehind", fn := fun _ => fun
  | [d1, d2, d3] => { results := [.lit (.bool true)], args := [d1, d2, d3] }
  | _ => none }
def latchBehindRow : OpenClaim := { program := "ytogphaiomlfofaagreatdoor", sum := "a88d5e0e1a685181cf577b6207e61fce3e760d569bbbd8a5a046b63594b09f2f", func := "umpire/umpirelaw20.LatchBehind", spec := "latchBehind", unfollowed := true, recurses := true, named := ["umpire/api.ErrProg", "umpire/api.ErrMany", "umpire/api.ErrObject", "umpire/api.ErrOp", "umpire/event.objects", "umpire/event.events", "umpire/event.ops", "umpire/event.answers", "umpire/event.states", "umpire/event.levels", "umpire/api.ErrCode", "umpire/api.ErrEvent", "umpire/api.ErrTwice", "umpire/api.ErrThread", "umpire/api.ErrTx", "umpire/api.ErrOrder", "umpire/api.ErrAnswer"], apart := false, laid := [("umpire/api.ErrMany", laid_umpire_api_ErrMany), ("umpire/api.ErrCode", laid_umpire_api_ErrCode), ("umpire/api.ErrObject", laid_umpire_api_ErrObject), ("umpire/api.ErrEvent", laid_umpire_api_ErrEvent), ("umpire/api.ErrOp", laid_umpire_api_ErrOp), ("umpire/api.ErrAnswer", laid_umpire_api_ErrAnswer), ("umpire/api.ErrTx", laid_umpire_api_ErrTx), ("umpire/api.ErrTwice", laid_umpire_api_ErrTwice), ("umpire/api.ErrThread", laid_umpire_api_ErrThread), ("umpire/api.ErrOrder", laid_umpire_api_ErrOrder), ("umpire/api.ErrProg", laid_umpire_api_ErrProg), ("umpire/event.objects", laid_umpire_event_objects), ("umpire/event.events", laid_umpire_event_events), ("umpire/event.ops", laid_umpire_event_ops), ("umpire/event.answers", laid_umpire_event_answers), ("umpire/event.states", laid_umpire_event_states), ("umpire/event.levels", laid_umpire_event_levels)] }
def LatchBehindSaid : Prop := latchBehindRow.holds Tryz.pinned (OpenSpec.ofChange latchBehindSpec)

/-- ITS FALSE NEIGHBOUR: 'it returns false'. Refute it at one input. -/
def latchBehindWrong : ChangeSpec := { name := "latchBehind", fn := fun _ => fun
  | [d1, d2, d3] => { results := [.lit (.bool false)], args := [d1, d2, d3] }
  | _ => none }
def LatchBehindWrongFalsely : Prop := latchBehindRow.holds Tryz.pinned (OpenSpec.ofChange latchBehindWrong)

/-- 'umpirelaw19.ClockReads': WHATEVER THE INPUT: true; the input reads as it did. -/
def clockReadsSpec : ChangeSpec := { name := "clockReads", fn := fun _ => fun
  | [d1, d2] => { results := [.lit (.bool true)], args := [d1, d2] }
  | _ => none }
def clockReadsRow : OpenClaim := { program := "ytogphaiomlfofaagreatdoor", sum := "a88d5e0e1a685181cf577b6207e61fce3e760d569bbbd8a5a046b63594b09f2f", func := "umpire/umpirelaw19.ClockReads", spec := "clockReads", unfollowed := true, recurses := true, named := ["umpire/api.ErrProg", "umpire/api.ErrMany", "umpire/api.ErrObject", "umpire/api.ErrOp", "umpire/event.objects", "umpire/event.events", "umpire/event.ops", "umpire/event.answers", "umpire/event.states", "umpire/event.levels", "umpire/api.ErrCode", "umpire/api.ErrEvent", "umpire/api.ErrTwice", "umpire/api.ErrThread", "umpire/api.ErrTx", "umpire/api.ErrOrder", "umpire/api.ErrAnswer"], apart := false, laid := [("umpire/api.ErrMany", laid_umpire_api_ErrMany), ("umpire/api.ErrCode", laid_umpire_api_ErrCode), ("umpire/api.ErrObject", laid_umpire_api_ErrObject), ("umpire/api.ErrEvent", laid_umpire_api_ErrEvent), ("umpire/api.ErrOp", laid_umpire_api_ErrOp), ("umpire/api.ErrAnswer", laid_umpire_api_ErrAnswer), ("umpire/api.ErrTx", laid_umpire_api_ErrTx), ("umpire/api.ErrTwice", laid_umpire_api_ErrTwice), ("umpire/api.ErrThread", laid_umpire_api_ErrThread), ("umpire/api.ErrOrder", laid_umpire_api_ErrOrder), ("umpire/api.ErrProg", laid_umpire_api_ErrProg), ("umpire/event.objects", laid_umpire_event_objects), ("umpire/event.events", laid_umpire_event_events), ("umpire/event.ops", laid_umpire_event_ops), ("umpire/event.answers", laid_umpire_event_answers), ("umpire/event.states", laid_umpire_event_states), ("umpire/event.levels", laid_umpire_event_levels)] }
def ClockReadsSaid : Prop := clockReadsRow.holds Tryz.pinned (OpenSpec.ofChange clockReadsSpec)

/-- ITS FALSE NEIGHBOUR: 'it returns false'. Refute it at one input. -/
def clockReadsWrong : ChangeSpec := { name := "clockReads", fn := fun _ => fun
  | [d1, d2] => { results := [.lit (.bool false)], args := [d1, d2] }
  | _ => none }
def ClockReadsWrongFalsely : Prop := clockReadsRow.holds Tryz.pinned (OpenSpec.ofChange clockReadsWrong)

/-- 'umpirelaw19.ClockAlone': WHATEVER THE INPUT: true; the input reads as it did. -/
def clockAloneSpec : ChangeSpec := { name := "clockAlone", fn := fun _ => fun
  | [d] => { results := [.lit (.bool true)], args := [d] }
  | _ => none }
def clockAloneRow : OpenClaim := { program := "ytogphaiomlfofaagreatdoor", sum := "a88d5e0e1a685181cf577b6207e61fce3e760d569bbbd8a5a046b63594b09f2f", func := "umpire/umpirelaw19.ClockAlone", spec := "clockAlone", unfollowed := true, recurses := true, named := ["umpire/api.ErrProg", "umpire/api.ErrMany", "umpire/api.ErrObject", "umpire/api.ErrOp", "umpire/event.objects", "umpire/event.events", "umpire/event.ops", "umpire/event.answers", "umpire/event.states", "umpire/event.levels", "umpire/api.ErrCode", "umpire/api.ErrEvent", "umpire/api.ErrTwice", "umpire/api.ErrThread", "umpire/api.ErrTx", "umpire/api.ErrOrder", "umpire/api.ErrAnswer"], apart := false, laid := [("umpire/api.ErrMany", laid_umpire_api_ErrMany), ("umpire/api.ErrCode", laid_umpire_api_ErrCode), ("umpire/api.ErrObject", laid_umpire_api_ErrObject), ("umpire/api.ErrEvent", laid_umpire_api_ErrEvent), ("umpire/api.ErrOp", laid_umpire_api_ErrOp), ("umpire/api.ErrAnswer", laid_umpire_api_ErrAnswer), ("umpire/api.ErrTx", laid_umpire_api_ErrTx), ("umpire/api.ErrTwice", laid_umpire_api_ErrTwice), ("umpire/api.ErrThread", laid_umpire_api_ErrThread), ("umpire/api.ErrOrder", laid_umpire_api_ErrOrder), ("umpire/api.ErrProg", laid_umpire_api_ErrProg), ("umpire/event.objects", laid_umpire_event_objects), ("umpire/event.events", laid_umpire_event_events), ("umpire/event.ops", laid_umpire_event_ops), ("umpire/event.answers", laid_umpire_event_answers), ("umpire/event.states", laid_umpire_event_states), ("umpire/event.levels", laid_umpire_event_levels)] }
def ClockAloneSaid : Prop := clockAloneRow.holds Tryz.pinned (OpenSpec.ofChange clockAloneSpec)

/-- ITS FALSE NEIGHBOUR: 'it returns false'. Refute it at one input. -/
def clockAloneWrong : ChangeSpec := { name := "clockAlone", fn := fun _ => fun
  | [d] => { results := [.lit (.bool false)], args := [d] }
  | _ => none }
def ClockAloneWrongFalsely : Prop := clockAloneRow.holds Tryz.pinned (OpenSpec.ofChange clockAloneWrong)

/-- 'umpirelaw19.ClockBehind': WHATEVER THE INPUT: true; the input reads as it did. -/
def clockBehindSpec : ChangeSpec := { name := "clockBehind", fn := fun _ => fun
  | [d1, d2, d3] => { results := [.lit (.bool true)], args := [d1, d2, d3] }
  | _ => none }
def clockBehindRow : OpenClaim := { program := "ytogphaiomlfofaagreatdoor", sum := "a88d5e0e1a685181cf577b6207e61fce3e760d569bbbd8a5a046b63594b09f2f", func := "umpire/umpirelaw19.ClockBehind", spec := "clockBehind", unfollowed := true, recurses := true, named := ["umpire/api.ErrProg", "umpire/api.ErrMany", "umpire/api.ErrObject", "umpire/api.ErrOp", "umpire/event.objects", "umpire/event.events", "umpire/event.ops", "umpire/event.answers", "umpire/event.states", "umpire/event.levels", "umpire/api.ErrCode", "umpire/api.ErrEvent", "umpire/api.ErrTwice", "umpire/api.ErrThread", "umpire/api.ErrTx", "umpire/api.ErrOrder", "umpire/api.ErrAnswer"], apart := false, laid := [("umpire/api.ErrMany", laid_umpire_api_ErrMany), ("umpire/api.ErrCode", laid_umpire_api_ErrCode), ("umpire/api.ErrObject", laid_umpire_api_ErrObject), ("umpire/api.ErrEvent", laid_umpire_api_ErrEvent), ("umpire/api.ErrOp", laid_umpire_api_ErrOp), ("umpire/api.ErrAnswer", laid_umpire_api_ErrAnswer), ("umpire/api.ErrTx", laid_umpire_api_ErrTx), ("umpire/api.ErrTwice", laid_umpire_api_ErrTwice), ("umpire/api.ErrThread", laid_umpire_api_ErrThread), ("umpire/api.ErrOrder", laid_umpire_api_ErrOrder), ("umpire/api.ErrProg", laid_umpire_api_ErrProg), ("umpire/event.objects", laid_umpire_event_objects), ("umpire/event.events", laid_umpire_event_events), ("umpire/event.ops", laid_umpire_event_ops), ("umpire/event.answers", laid_umpire_event_answers), ("umpire/event.states", laid_umpire_event_states), ("umpire/event.levels", laid_umpire_event_levels)] }
def ClockBehindSaid : Prop := clockBehindRow.holds Tryz.pinned (OpenSpec.ofChange clockBehindSpec)

/-- ITS FALSE NEIGHBOUR: 'it returns false'. Refute it at one input. -/
def clockBehindWrong : ChangeSpec := { name := "clockBehind", fn := fun _ => fun
  | [d1, d2, d3] => { results := [.lit (.bool false)], args := [d1, d2, d3] }
  | _ => none }
def ClockBehindWrongFalsely : Prop := clockBehindRow.holds Tryz.pinned (OpenSpec.ofChange clockBehindWrong)

/-- 'umpirelaw20.LatchTries': WHATEVER THE INPUT: true; the input reads as it did. -/
def latchTriesSpec : ChangeSpec := { name := "latchTries", fn := fun _ => fun
  | [d1, d2] => { results := [.lit (.bool true)], args := [d1, d2] }
  | _ => none }
def latchTriesRow : OpenClaim := { program := "ytogphaiomlfofaagreatdoor", sum := "a88d5e0e1a685181cf577b6207e61fce3e760d569bbbd8a5a046b63594b09f2f", func := "umpire/umpirelaw20.LatchTries", spec := "latchTries", inPlace := ["slices.overlaps[umpire/spec.pair]"], unfollowed := true, recurses := true, named := ["umpire/api.ErrProg", "umpire/api.ErrMany", "umpire/api.ErrObject", "umpire/api.ErrOp", "umpire/event.objects", "umpire/event.events", "umpire/event.ops", "umpire/event.answers", "umpire/event.states", "umpire/event.levels", "umpire/api.ErrCode", "umpire/api.ErrEvent", "umpire/api.ErrTwice", "umpire/api.ErrThread", "umpire/api.ErrTx", "umpire/api.ErrOrder", "umpire/api.ErrAnswer"], apart := false, laid := [("umpire/api.ErrMany", laid_umpire_api_ErrMany), ("umpire/api.ErrCode", laid_umpire_api_ErrCode), ("umpire/api.ErrObject", laid_umpire_api_ErrObject), ("umpire/api.ErrEvent", laid_umpire_api_ErrEvent), ("umpire/api.ErrOp", laid_umpire_api_ErrOp), ("umpire/api.ErrAnswer", laid_umpire_api_ErrAnswer), ("umpire/api.ErrTx", laid_umpire_api_ErrTx), ("umpire/api.ErrTwice", laid_umpire_api_ErrTwice), ("umpire/api.ErrThread", laid_umpire_api_ErrThread), ("umpire/api.ErrOrder", laid_umpire_api_ErrOrder), ("umpire/api.ErrProg", laid_umpire_api_ErrProg), ("umpire/event.objects", laid_umpire_event_objects), ("umpire/event.events", laid_umpire_event_events), ("umpire/event.ops", laid_umpire_event_ops), ("umpire/event.answers", laid_umpire_event_answers), ("umpire/event.states", laid_umpire_event_states), ("umpire/event.levels", laid_umpire_event_levels)] }
def LatchTriesSaid : Prop := latchTriesRow.holds Tryz.pinned (OpenSpec.ofChange latchTriesSpec)

/-- ITS FALSE NEIGHBOUR: 'it returns false'. Refute it at one input. -/
def latchTriesWrong : ChangeSpec := { name := "latchTries", fn := fun _ => fun
  | [d1, d2] => { results := [.lit (.bool false)], args := [d1, d2] }
  | _ => none }
def LatchTriesWrongFalsely : Prop := latchTriesRow.holds Tryz.pinned (OpenSpec.ofChange latchTriesWrong)

/- THE SECOND FORM. 'bulk': how many values and letters a reading holds, each counted each time it is reached (what is shared counts as often as it is met; a slice's spare places count too). A statement '..UptoSaid' is the law's where the arguments, and the package variables that the reading takes, are together of bulk at most 1048576: NARROWER than '..Said'. Prove '..Said' where nothing that the law and all that it calls make is longer than what came in: it says more and counts as full. Else prove '..UptoSaid'. A law counts once. -/
mutual
def uptoBulk {H : Type} : DataW H → Nat
  | .lit (.string bytes) => bytes.length + 1
  | .lit _ => 1
  | .nil => 1
  | .ptr d => uptoBulk d + 1
  | .slice elems spare => uptoBulkAll elems + uptoBulkAll spare + 1
  | .agg parts => uptoBulkAll parts + 1
  | .iface _ d => uptoBulk d + 1
  | .map entries => uptoBulkEntries entries + 1
  | .held _ => 1
def uptoBulkAll {H : Type} : List (DataW H) → Nat
  | [] => 0
  | d :: r => uptoBulk d + uptoBulkAll r
def uptoBulkEntries {H : Type} : List (Lit × DataW H) → Nat
  | [] => 0
  | x :: r => uptoBulkEntry x + uptoBulkEntries r
def uptoBulkEntry {H : Type} : Lit × DataW H → Nat
  | (.string bytes, d) => bytes.length + uptoBulk d + 1
  | (_, d) => uptoBulk d + 1
 end
def uptoSmall : (H : Type) → List (DataW H) → Bool := fun _ ds => decide (uptoBulkAll ds ≤ 1048576)
def OpenSpec.upto (s : _root_.Go.ChangeSpec) : _root_.Go.OpenSpec := { _root_.Go.OpenSpec.ofChange s with cond := some uptoSmall }

/-- 'umpirelaw21.LateReads', WHERE WHAT IT READS IS OF BULK AT MOST 1048576: true; the input reads as it did. -/
def lateReadsUptoRow : OpenClaim := { program := "ytogphaiomlfofaagreatdoor", sum := "a88d5e0e1a685181cf577b6207e61fce3e760d569bbbd8a5a046b63594b09f2f", func := "umpire/umpirelaw21.LateReads", spec := "lateReads", unfollowed := true, recurses := true, named := ["umpire/api.ErrProg", "umpire/api.ErrMany", "umpire/api.ErrObject", "umpire/api.ErrOp", "umpire/event.objects", "umpire/event.events", "umpire/event.ops", "umpire/event.answers", "umpire/event.states", "umpire/event.levels", "umpire/api.ErrCode", "umpire/api.ErrEvent", "umpire/api.ErrTwice", "umpire/api.ErrThread", "umpire/api.ErrTx", "umpire/api.ErrOrder", "umpire/api.ErrAnswer"], apart := false, laid := [("umpire/api.ErrMany", laid_umpire_api_ErrMany), ("umpire/api.ErrCode", laid_umpire_api_ErrCode), ("umpire/api.ErrObject", laid_umpire_api_ErrObject), ("umpire/api.ErrEvent", laid_umpire_api_ErrEvent), ("umpire/api.ErrOp", laid_umpire_api_ErrOp), ("umpire/api.ErrAnswer", laid_umpire_api_ErrAnswer), ("umpire/api.ErrTx", laid_umpire_api_ErrTx), ("umpire/api.ErrTwice", laid_umpire_api_ErrTwice), ("umpire/api.ErrThread", laid_umpire_api_ErrThread), ("umpire/api.ErrOrder", laid_umpire_api_ErrOrder), ("umpire/api.ErrProg", laid_umpire_api_ErrProg), ("umpire/event.objects", laid_umpire_event_objects), ("umpire/event.events", laid_umpire_event_events), ("umpire/event.ops", laid_umpire_event_ops), ("umpire/event.answers", laid_umpire_event_answers), ("umpire/event.states", laid_umpire_event_states), ("umpire/event.levels", laid_umpire_event_levels)], narrowed := true }
def LateReadsUptoSaid : Prop := lateReadsUptoRow.holds Tryz.pinned (OpenSpec.upto lateReadsSpec)

/-- 'umpirelaw21.LateTries', WHERE WHAT IT READS IS OF BULK AT MOST 1048576: true; the input reads as it did. -/
def lateTriesUptoRow : OpenClaim := { program := "ytogphaiomlfofaagreatdoor", sum := "a88d5e0e1a685181cf577b6207e61fce3e760d569bbbd8a5a046b63594b09f2f", func := "umpire/umpirelaw21.LateTries", spec := "lateTries", unfollowed := true, recurses := true, named := ["umpire/api.ErrProg", "umpire/api.ErrMany", "umpire/api.ErrObject", "umpire/api.ErrOp", "umpire/event.objects", "umpire/event.events", "umpire/event.ops", "umpire/event.answers", "umpire/event.states", "umpire/event.levels", "umpire/api.ErrCode", "umpire/api.ErrEvent", "umpire/api.ErrTwice", "umpire/api.ErrThread", "umpire/api.ErrTx", "umpire/api.ErrOrder", "umpire/api.ErrAnswer"], apart := false, laid := [("umpire/api.ErrMany", laid_umpire_api_ErrMany), ("umpire/api.ErrCode", laid_umpire_api_ErrCode), ("umpire/api.ErrObject", laid_umpire_api_ErrObject), ("umpire/api.ErrEvent", laid_umpire_api_ErrEvent), ("umpire/api.ErrOp", laid_umpire_api_ErrOp), ("umpire/api.ErrAnswer", laid_umpire_api_ErrAnswer), ("umpire/api.ErrTx", laid_umpire_api_ErrTx), ("umpire/api.ErrTwice", laid_umpire_api_ErrTwice), ("umpire/api.ErrThread", laid_umpire_api_ErrThread), ("umpire/api.ErrOrder", laid_umpire_api_ErrOrder), ("umpire/api.ErrProg", laid_umpire_api_ErrProg), ("umpire/event.objects", laid_umpire_event_objects), ("umpire/event.events", laid_umpire_event_events), ("umpire/event.ops", laid_umpire_event_ops), ("umpire/event.answers", laid_umpire_event_answers), ("umpire/event.states", laid_umpire_event_states), ("umpire/event.levels", laid_umpire_event_levels)], narrowed := true }
def LateTriesUptoSaid : Prop := lateTriesUptoRow.holds Tryz.pinned (OpenSpec.upto lateTriesSpec)

/-- 'umpirelaw21.LateBehind', WHERE WHAT IT READS IS OF BULK AT MOST 1048576: true; the input reads as it did. -/
def lateBehindUptoRow : OpenClaim := { program := "ytogphaiomlfofaagreatdoor", sum := "a88d5e0e1a685181cf577b6207e61fce3e760d569bbbd8a5a046b63594b09f2f", func := "umpire/umpirelaw21.LateBehind", spec := "lateBehind", unfollowed := true, recurses := true, named := ["umpire/api.ErrProg", "umpire/api.ErrMany", "umpire/api.ErrObject", "umpire/api.ErrOp", "umpire/event.objects", "umpire/event.events", "umpire/event.ops", "umpire/event.answers", "umpire/event.states", "umpire/event.levels", "umpire/api.ErrCode", "umpire/api.ErrEvent", "umpire/api.ErrTwice", "umpire/api.ErrThread", "umpire/api.ErrTx", "umpire/api.ErrOrder", "umpire/api.ErrAnswer"], apart := false, laid := [("umpire/api.ErrMany", laid_umpire_api_ErrMany), ("umpire/api.ErrCode", laid_umpire_api_ErrCode), ("umpire/api.ErrObject", laid_umpire_api_ErrObject), ("umpire/api.ErrEvent", laid_umpire_api_ErrEvent), ("umpire/api.ErrOp", laid_umpire_api_ErrOp), ("umpire/api.ErrAnswer", laid_umpire_api_ErrAnswer), ("umpire/api.ErrTx", laid_umpire_api_ErrTx), ("umpire/api.ErrTwice", laid_umpire_api_ErrTwice), ("umpire/api.ErrThread", laid_umpire_api_ErrThread), ("umpire/api.ErrOrder", laid_umpire_api_ErrOrder), ("umpire/api.ErrProg", laid_umpire_api_ErrProg), ("umpire/event.objects", laid_umpire_event_objects), ("umpire/event.events", laid_umpire_event_events), ("umpire/event.ops", laid_umpire_event_ops), ("umpire/event.answers", laid_umpire_event_answers), ("umpire/event.states", laid_umpire_event_states), ("umpire/event.levels", laid_umpire_event_levels)], narrowed := true }
def LateBehindUptoSaid : Prop := lateBehindUptoRow.holds Tryz.pinned (OpenSpec.upto lateBehindSpec)

/-- 'umpirelaw20.LatchBehind', WHERE WHAT IT READS IS OF BULK AT MOST 1048576: true; the input reads as it did. -/
def latchBehindUptoRow : OpenClaim := { program := "ytogphaiomlfofaagreatdoor", sum := "a88d5e0e1a685181cf577b6207e61fce3e760d569bbbd8a5a046b63594b09f2f", func := "umpire/umpirelaw20.LatchBehind", spec := "latchBehind", unfollowed := true, recurses := true, named := ["umpire/api.ErrProg", "umpire/api.ErrMany", "umpire/api.ErrObject", "umpire/api.ErrOp", "umpire/event.objects", "umpire/event.events", "umpire/event.ops", "umpire/event.answers", "umpire/event.states", "umpire/event.levels", "umpire/api.ErrCode", "umpire/api.ErrEvent", "umpire/api.ErrTwice", "umpire/api.ErrThread", "umpire/api.ErrTx", "umpire/api.ErrOrder", "umpire/api.ErrAnswer"], apart := false, laid := [("umpire/api.ErrMany", laid_umpire_api_ErrMany), ("umpire/api.ErrCode", laid_umpire_api_ErrCode), ("umpire/api.ErrObject", laid_umpire_api_ErrObject), ("umpire/api.ErrEvent", laid_umpire_api_ErrEvent), ("umpire/api.ErrOp", laid_umpire_api_ErrOp), ("umpire/api.ErrAnswer", laid_umpire_api_ErrAnswer), ("umpire/api.ErrTx", laid_umpire_api_ErrTx), ("umpire/api.ErrTwice", laid_umpire_api_ErrTwice), ("umpire/api.ErrThread", laid_umpire_api_ErrThread), ("umpire/api.ErrOrder", laid_umpire_api_ErrOrder), ("umpire/api.ErrProg", laid_umpire_api_ErrProg), ("umpire/event.objects", laid_umpire_event_objects), ("umpire/event.events", laid_umpire_event_events), ("umpire/event.ops", laid_umpire_event_ops), ("umpire/event.answers", laid_umpire_event_answers), ("umpire/event.states", laid_umpire_event_states), ("umpire/event.levels", laid_umpire_event_levels)], narrowed := true }
def LatchBehindUptoSaid : Prop := latchBehindUptoRow.holds Tryz.pinned (OpenSpec.upto latchBehindSpec)

/-- 'umpirelaw19.ClockReads', WHERE WHAT IT READS IS OF BULK AT MOST 1048576: true; the input reads as it did. -/
def clockReadsUptoRow : OpenClaim := { program := "ytogphaiomlfofaagreatdoor", sum := "a88d5e0e1a685181cf577b6207e61fce3e760d569bbbd8a5a046b63594b09f2f", func := "umpire/umpirelaw19.ClockReads", spec := "clockReads", unfollowed := true, recurses := true, named := ["umpire/api.ErrProg", "umpire/api.ErrMany", "umpire/api.ErrObject", "umpire/api.ErrOp", "umpire/event.objects", "umpire/event.events", "umpire/event.ops", "umpire/event.answers", "umpire/event.states", "umpire/event.levels", "umpire/api.ErrCode", "umpire/api.ErrEvent", "umpire/api.ErrTwice", "umpire/api.ErrThread", "umpire/api.ErrTx", "umpire/api.ErrOrder", "umpire/api.ErrAnswer"], apart := false, laid := [("umpire/api.ErrMany", laid_umpire_api_ErrMany), ("umpire/api.ErrCode", laid_umpire_api_ErrCode), ("umpire/api.ErrObject", laid_umpire_api_ErrObject), ("umpire/api.ErrEvent", laid_umpire_api_ErrEvent), ("umpire/api.ErrOp", laid_umpire_api_ErrOp), ("umpire/api.ErrAnswer", laid_umpire_api_ErrAnswer), ("umpire/api.ErrTx", laid_umpire_api_ErrTx), ("umpire/api.ErrTwice", laid_umpire_api_ErrTwice), ("umpire/api.ErrThread", laid_umpire_api_ErrThread), ("umpire/api.ErrOrder", laid_umpire_api_ErrOrder), ("umpire/api.ErrProg", laid_umpire_api_ErrProg), ("umpire/event.objects", laid_umpire_event_objects), ("umpire/event.events", laid_umpire_event_events), ("umpire/event.ops", laid_umpire_event_ops), ("umpire/event.answers", laid_umpire_event_answers), ("umpire/event.states", laid_umpire_event_states), ("umpire/event.levels", laid_umpire_event_levels)], narrowed := true }
def ClockReadsUptoSaid : Prop := clockReadsUptoRow.holds Tryz.pinned (OpenSpec.upto clockReadsSpec)

/-- 'umpirelaw19.ClockAlone', WHERE WHAT IT READS IS OF BULK AT MOST 1048576: true; the input reads as it did. -/
def clockAloneUptoRow : OpenClaim := { program := "ytogphaiomlfofaagreatdoor", sum := "a88d5e0e1a685181cf577b6207e61fce3e760d569bbbd8a5a046b63594b09f2f", func := "umpire/umpirelaw19.ClockAlone", spec := "clockAlone", unfollowed := true, recurses := true, named := ["umpire/api.ErrProg", "umpire/api.ErrMany", "umpire/api.ErrObject", "umpire/api.ErrOp", "umpire/event.objects", "umpire/event.events", "umpire/event.ops", "umpire/event.answers", "umpire/event.states", "umpire/event.levels", "umpire/api.ErrCode", "umpire/api.ErrEvent", "umpire/api.ErrTwice", "umpire/api.ErrThread", "umpire/api.ErrTx", "umpire/api.ErrOrder", "umpire/api.ErrAnswer"], apart := false, laid := [("umpire/api.ErrMany", laid_umpire_api_ErrMany), ("umpire/api.ErrCode", laid_umpire_api_ErrCode), ("umpire/api.ErrObject", laid_umpire_api_ErrObject), ("umpire/api.ErrEvent", laid_umpire_api_ErrEvent), ("umpire/api.ErrOp", laid_umpire_api_ErrOp), ("umpire/api.ErrAnswer", laid_umpire_api_ErrAnswer), ("umpire/api.ErrTx", laid_umpire_api_ErrTx), ("umpire/api.ErrTwice", laid_umpire_api_ErrTwice), ("umpire/api.ErrThread", laid_umpire_api_ErrThread), ("umpire/api.ErrOrder", laid_umpire_api_ErrOrder), ("umpire/api.ErrProg", laid_umpire_api_ErrProg), ("umpire/event.objects", laid_umpire_event_objects), ("umpire/event.events", laid_umpire_event_events), ("umpire/event.ops", laid_umpire_event_ops), ("umpire/event.answers", laid_umpire_event_answers), ("umpire/event.states", laid_umpire_event_states), ("umpire/event.levels", laid_umpire_event_levels)], narrowed := true }
def ClockAloneUptoSaid : Prop := clockAloneUptoRow.holds Tryz.pinned (OpenSpec.upto clockAloneSpec)

/-- 'umpirelaw19.ClockBehind', WHERE WHAT IT READS IS OF BULK AT MOST 1048576: true; the input reads as it did. -/
def clockBehindUptoRow : OpenClaim := { program := "ytogphaiomlfofaagreatdoor", sum := "a88d5e0e1a685181cf577b6207e61fce3e760d569bbbd8a5a046b63594b09f2f", func := "umpire/umpirelaw19.ClockBehind", spec := "clockBehind", unfollowed := true, recurses := true, named := ["umpire/api.ErrProg", "umpire/api.ErrMany", "umpire/api.ErrObject", "umpire/api.ErrOp", "umpire/event.objects", "umpire/event.events", "umpire/event.ops", "umpire/event.answers", "umpire/event.states", "umpire/event.levels", "umpire/api.ErrCode", "umpire/api.ErrEvent", "umpire/api.ErrTwice", "umpire/api.ErrThread", "umpire/api.ErrTx", "umpire/api.ErrOrder", "umpire/api.ErrAnswer"], apart := false, laid := [("umpire/api.ErrMany", laid_umpire_api_ErrMany), ("umpire/api.ErrCode", laid_umpire_api_ErrCode), ("umpire/api.ErrObject", laid_umpire_api_ErrObject), ("umpire/api.ErrEvent", laid_umpire_api_ErrEvent), ("umpire/api.ErrOp", laid_umpire_api_ErrOp), ("umpire/api.ErrAnswer", laid_umpire_api_ErrAnswer), ("umpire/api.ErrTx", laid_umpire_api_ErrTx), ("umpire/api.ErrTwice", laid_umpire_api_ErrTwice), ("umpire/api.ErrThread", laid_umpire_api_ErrThread), ("umpire/api.ErrOrder", laid_umpire_api_ErrOrder), ("umpire/api.ErrProg", laid_umpire_api_ErrProg), ("umpire/event.objects", laid_umpire_event_objects), ("umpire/event.events", laid_umpire_event_events), ("umpire/event.ops", laid_umpire_event_ops), ("umpire/event.answers", laid_umpire_event_answers), ("umpire/event.states", laid_umpire_event_states), ("umpire/event.levels", laid_umpire_event_levels)], narrowed := true }
def ClockBehindUptoSaid : Prop := clockBehindUptoRow.holds Tryz.pinned (OpenSpec.upto clockBehindSpec)

/-- 'umpirelaw20.LatchTries', WHERE WHAT IT READS IS OF BULK AT MOST 1048576: true; the input reads as it did. -/
def latchTriesUptoRow : OpenClaim := { program := "ytogphaiomlfofaagreatdoor", sum := "a88d5e0e1a685181cf577b6207e61fce3e760d569bbbd8a5a046b63594b09f2f", func := "umpire/umpirelaw20.LatchTries", spec := "latchTries", inPlace := ["slices.overlaps[umpire/spec.pair]"], unfollowed := true, recurses := true, named := ["umpire/api.ErrProg", "umpire/api.ErrMany", "umpire/api.ErrObject", "umpire/api.ErrOp", "umpire/event.objects", "umpire/event.events", "umpire/event.ops", "umpire/event.answers", "umpire/event.states", "umpire/event.levels", "umpire/api.ErrCode", "umpire/api.ErrEvent", "umpire/api.ErrTwice", "umpire/api.ErrThread", "umpire/api.ErrTx", "umpire/api.ErrOrder", "umpire/api.ErrAnswer"], apart := false, laid := [("umpire/api.ErrMany", laid_umpire_api_ErrMany), ("umpire/api.ErrCode", laid_umpire_api_ErrCode), ("umpire/api.ErrObject", laid_umpire_api_ErrObject), ("umpire/api.ErrEvent", laid_umpire_api_ErrEvent), ("umpire/api.ErrOp", laid_umpire_api_ErrOp), ("umpire/api.ErrAnswer", laid_umpire_api_ErrAnswer), ("umpire/api.ErrTx", laid_umpire_api_ErrTx), ("umpire/api.ErrTwice", laid_umpire_api_ErrTwice), ("umpire/api.ErrThread", laid_umpire_api_ErrThread), ("umpire/api.ErrOrder", laid_umpire_api_ErrOrder), ("umpire/api.ErrProg", laid_umpire_api_ErrProg), ("umpire/event.objects", laid_umpire_event_objects), ("umpire/event.events", laid_umpire_event_events), ("umpire/event.ops", laid_umpire_event_ops), ("umpire/event.answers", laid_umpire_event_answers), ("umpire/event.states", laid_umpire_event_states), ("umpire/event.levels", laid_umpire_event_levels)], narrowed := true }
def LatchTriesUptoSaid : Prop := latchTriesUptoRow.holds Tryz.pinned (OpenSpec.upto latchTriesSpec)

end Rows
end Go.Proofs.YtogphaiomlfofaaGreatDoor
