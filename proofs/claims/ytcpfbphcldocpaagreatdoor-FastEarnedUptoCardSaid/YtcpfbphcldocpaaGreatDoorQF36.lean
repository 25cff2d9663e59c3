/- Parts of the proof, merged by program out of 1 texts (Wit): the first: A world that meets the row's list of package-level variables. Conditions: those of each theorem, as typed. -/
import Derived.Test.YtcpfbphcldocpaaGreatDoorQF35
set_option linter.unusedVariables false
set_option linter.unusedSimpArgs false
set_option linter.unusedSectionVars false
set_option maxRecDepth 100000
set_option maxHeartbeats 4000000
namespace Go.Proofs.YtcpfbphcldocpaaGreatDoor
open Go.ChangeAt Go.ChangeShapes Go.RowKit Go.WideShapes
theorem own:ownKnob Tryz.prog.godebug=none:=by kernel_rfl
noncomputable def low:Nat:=(World.holding Tryz.prog default ⟨#[],#[],[]⟩).heap.size
def putAt (h:Array Obj) (g:Nat) (cs:Array Value):Array Obj:=h.modify g fun
 |.cells _ t frozen=>.cells cs t frozen
 |o=>o
noncomputable def laidWorld (os:Os):World:=
 let w0:=World.holding Tryz.prog os ⟨#[.cells #[.string ⟨#[116,111,111,32,109,97,110,121]⟩] 370,
  .cells #[.string ⟨#[110,111,32,115,117,99,104,32,99,111,100,101]⟩] 370,
  .cells #[.string ⟨#[110,111,32,111,98,106,101,99,116]⟩] 370,
  .cells #[.string ⟨#[110,111,32,101,118,101,110,116]⟩] 370,
  .cells #[.string ⟨#[110,111,32,111,112,101,114,97,116,105,111,110,32,111,102,32,116,104,97,116,32,111,98,106,101,99,116]⟩] 370,
  .cells #[.string ⟨#[110,111,32,97,110,115,119,101,114,32,111,102,32,116,104,97,116,32,111,112,101,114,97,116,105,111,110]⟩] 370,
  .cells #[.string ⟨#[110,111,32,115,117,99,104,32,116,114,97,110,115,97,99,116,105,111,110]⟩] 370,
  .cells #[.string ⟨#[105,116,32,104,97,115,32,98,101,103,117,110,32,97,108,114,101,97,100,121]⟩] 370,
  .cells #[.string ⟨#[116,104,101,32,116,104,114,101,97,100,32,105,115,32,98,117,115,121]⟩] 370,
  .cells #[.string ⟨#[105,116,32,100,111,101,115,32,110,111,116,32,99,111,109,101,32,104,101,114,101]⟩] 370,
  .cells #[.string ⟨#[110,111,32,108,101,118,101,108]⟩] 370,
  .cells #[.string ⟨#[116,104,101,32,102,97,115,116,32,119,97,121,32,100,111,101,115,32,110,111,116,32,103,111,32,104,101,114,101]⟩] 370],#[],[]⟩
 let h0:=putAt w0.heap 4 #[.iface 356 (.pointer (some ⟨low+0,0,none⟩))]
 let h1:=putAt h0 15 #[.iface 356 (.pointer (some ⟨low+1,0,none⟩))]
 let h2:=putAt h1 3 #[.iface 356 (.pointer (some ⟨low+2,0,none⟩))]
 let h3:=putAt h2 8 #[.iface 356 (.pointer (some ⟨low+3,0,none⟩))]
 let h4:=putAt h3 7 #[.iface 356 (.pointer (some ⟨low+4,0,none⟩))]
 let h5:=putAt h4 16 #[.iface 356 (.pointer (some ⟨low+5,0,none⟩))]
 let h6:=putAt h5 11 #[.iface 356 (.pointer (some ⟨low+6,0,none⟩))]
 let h7:=putAt h6 12 #[.iface 356 (.pointer (some ⟨low+7,0,none⟩))]
 let h8:=putAt h7 13 #[.iface 356 (.pointer (some ⟨low+8,0,none⟩))]
 let h9:=putAt h8 14 #[.iface 356 (.pointer (some ⟨low+9,0,none⟩))]
 let h10:=putAt h9 2 #[.iface 356 (.pointer (some ⟨low+10,0,none⟩))]
 let h11:=putAt h10 6 #[.iface 356 (.pointer (some ⟨low+11,0,none⟩))]
 let h12:=putAt h11 18 #[.string ⟨#[114,101,103,105,115,116,101,114]⟩,.string ⟨#[99,111,117,110,116,101,114]⟩,.string ⟨#[113,117,101,117,101]⟩,.string ⟨#[109,97,112]⟩]
 let h13:=putAt h12 19 #[.string ⟨#[98,101,103,105,110]⟩,.string ⟨#[99,97,108,108]⟩,.string ⟨#[114,101,116,117,114,110]⟩,.string ⟨#[116,114,121]⟩,.string ⟨#[99,111,109,109,105,116]⟩,.string ⟨#[97,98,111,114,116]⟩,.string ⟨#[99,97,110,99,101,108]⟩]
 let h14:=putAt h13 20 #[.string ⟨#[114,101,97,100]⟩,.string ⟨#[119,114,105,116,101]⟩,.string ⟨#[97,100,100]⟩,.string ⟨#[103,101,116]⟩,.string ⟨#[101,110,113]⟩,.string ⟨#[100,101,113]⟩,.string ⟨#[112,117,116]⟩,.string ⟨#[108,111,111,107]⟩,.string ⟨#[100,101,108]⟩]
 let h15:=putAt h14 21 #[.string ⟨#[111,107]⟩,.string ⟨#[110,111,110,101]⟩,.string ⟨#[118,97,108]⟩]
 let h16:=putAt h15 22 #[.string ⟨#[108,105,118,101]⟩,.string ⟨#[112,101,110,100,105,110,103]⟩,.string ⟨#[99,111,109,109,105,116,116,101,100]⟩,.string ⟨#[97,98,111,114,116,101,100]⟩]
 let h17:=putAt h16 23 #[.string ⟨#[115,101,114,105,97,108]⟩,.string ⟨#[115,116,114,105,99,116]⟩,.string ⟨#[102,105,110,97,108]⟩,.string ⟨#[111,112,97,113,117,101]⟩]
 {w0 with heap:=h17}
theorem laid_met (os:Os) (args:Array Value):laidMet Tryz.prog Rows.fastEarnedUptoRow.laid ((laidWorld os).forCall (fun _ _=>0) ⟨#[],args,[]⟩).memory:=
 laidMet_of_run' 8 (by kernel_rfl) (by kernel_rfl)
