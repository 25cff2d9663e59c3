/- What the rows' lists of package-level variables give a walk; a world that meets them. A world that meets the rows' list of package-level variables. Conditions: those of each theorem, as typed. Merged by program out of 2 texts. -/
import Derived.Test.YtogphaiomlfofaaGreatDoorRows
import Derived.Test.YtogphaiomlfofaaGreatDoorQM21
import Derived.Lib.LaidTab
import Derived.Stop.LaidErr
import Derived.Deep.DeepHandedRow
import Derived.Deep.DeepWitnessRowRef
set_option linter.unusedVariables false
set_option linter.unusedSimpArgs false
namespace Go.Proofs.YtogphaiomlfofaaGreatDoor
open Go.ChangeShapes Go.WideShapes Go.ChangeAt Go.RowKit
set_option linter.unusedVariables false
set_option linter.unusedSimpArgs false

def strData (zs : List (List UInt8)) : DataW Unit := .agg (zs.map fun z => .lit (.string z))
theorem cells_of_strs {enc : TypeId × Value → Unit} {P : Program} {w : World} {base : Nat} {sp : Nat → Bool} {held : Bool} {fuel : Nat} {t e : TypeId} {n : Nat} {cs : List Value} {zs : List (List UInt8)} {p : List MemPlace}
    (ht : P.underlying t = some (.array n e)) (he : P.underlying e = some .string) (hce : P.cellsOf e = 1) (h : DataW.trod enc P w base sp held fuel t cs = some (strData zs, p)) (i : Nat) (z : List UInt8) (hz : zs[i]? = some z) :
    ∃ s : ByteArray, cs[i]? = some (.string s) ∧ s.data.toList = z := by
  cases fuel with
  | zero => simp [DataW.trod] at h
  | succ fuel =>
    simp only [DataW.trod, ht, hce, Nat.mul_one] at h
    split at h
    · rename_i hl
      obtain ⟨xs, hm, hx⟩ := Option.map_eq_some_iff.1 h
      have hxs : xs.map (·.1) = zs.map fun z => (DataW.lit (.string z) : DataW Unit) := by
        have := congrArg Prod.fst hx
        simpa [strData] using this
      have hxl : xs.length = n := by simpa using Lib.mapM_length hm
      have hzl : zs.length = n := by
        have := congrArg List.length hxs
        simp at this
        omega
      have hi : i < n := by have := (List.getElem?_eq_some_iff.1 hz).1; omega
      obtain ⟨b, hb, hf⟩ := Lib.mapM_at hm i i (by simp [hi])
      obtain ⟨s, hc, rfl, _⟩ := DataW.trod_string he hf
      refine ⟨s, ?_, ?_⟩
      · have := congrArg (·[0]?) hc
        simpa [List.getElem?_take, List.getElem?_drop] using this
      · have h2 : (xs.map (·.1))[i]? = some (DataW.lit (.string s.data.toList) : DataW Unit) := by simp [hb]
        rw [hxs] at h2
        simp only [List.getElem?_map, hz, Option.map_some, Option.some.injEq, DataW.lit.injEq, Lit.string.injEq] at h2
        exact h2.symm
    · cases h
theorem strs_at {P : Program} {W : World} {name : String} {zs : List (List UInt8)} {rest : List (String × DataW Unit)} {g : Nat} {t e : TypeId} {n : Nat}
    (hg : P.globalNamed name = some g) (hty : (P.globals[g]?).map (·.type) = some t) (ht : P.underlying t = some (.array n e)) (he : P.underlying e = some .string) (hce : P.cellsOf e = 1)
    (h : laidMet P ((name, strData zs) :: rest) W) (i : Nat) (z : List UInt8) (hz : zs[i]? = some z) : ∃ s : ByteArray, W.cell? ⟨g, i, none⟩ = some (.string s) ∧ s.data.toList = z := by
  obtain ⟨ps, ⟨g', t', cs, fuel, p, q, hg', ht', hvar, hd, _, _⟩, _⟩ := h
  obtain rfl := Option.some.inj (hg.symm.trans hg')
  obtain rfl := Option.some.inj (hty.symm.trans ht')
  obtain ⟨s, h1, h2⟩ := cells_of_strs ht he hce hd i z hz
  have := World.var?_cell hg hvar i
  exact ⟨s, by rw [this]; simpa using h1, h2⟩
theorem ba_of {s : ByteArray} {l : List UInt8} (h : s.data.toList = l) : s = ⟨l.toArray⟩ := by
  obtain ⟨⟨d⟩⟩ := s
  simp only at h
  subst h
  rfl
theorem live_of {W : World} {b off : Nat} {u : Value} (h : W.cell? ⟨b, off, none⟩ = some u) : b < W.heap.size := (cell_live h).1
theorem errRow (u : TypeId) (h : Tryz.prog.typeName? 3 u = some "*errors.errorString") : u = 293 :=
  typeName_ptr_named (nm := "errors.errorString") (by rw [show "*" ++ "errors.errorString" = "*errors.errorString" by decide]; kernel_rfl) (by kernel_rfl) (by decide) u (by rw [show "*" ++ "errors.errorString" = "*errors.errorString" by decide]; exact h)
theorem glob_of_laid {W : World} (h : laidMet Tryz.prog Rows.lateReadsUptoRow.laid W) : Glob W := by
  have hp := h.tail.tail.tail.tail.tail.tail.tail.tail.tail.tail
  have ho := hp.tail
  have ha := ho.tail.tail.tail
  have hl := ha.tail.tail
  obtain ⟨a, s, h1, -⟩ := laid_sentinel (P := Tryz.prog) (n := "umpire/api.ErrProg") (g := 10) (tp := 293) (te := 309) (ts := 9) hp (by kernel_rfl) (by kernel_rfl) Tryz.underlying33 errRow Tryz.underlying293 Tryz.underlying309 rfl rfl Tryz.underlying9 (by kernel_rfl) (by kernel_rfl)
  have c10 := World.var?_cell (P := Tryz.prog) (show Tryz.prog.globalNamed "umpire/api.ErrProg" = some 10 by kernel_rfl) h1 0
  obtain ⟨s11, c11, e11⟩ := strs_at (P := Tryz.prog) (zs := [[114, 101, 103, 105, 115, 116, 101, 114], [99, 111, 117, 110, 116, 101, 114], [113, 117, 101, 117, 101], [109, 97, 112]]) (show Tryz.prog.globalNamed "umpire/event.objects" = some 11 by kernel_rfl) (show (Tryz.prog.globals[11]?).map (·.type) = some 280 by kernel_rfl) Tryz.underlying280 Tryz.underlying9 (by kernel_rfl) ho 0 _ rfl
  obtain ⟨s14, c14, e14⟩ := strs_at (P := Tryz.prog) (zs := [[111, 107], [110, 111, 110, 101], [118, 97, 108]]) (show Tryz.prog.globalNamed "umpire/event.answers" = some 14 by kernel_rfl) (show (Tryz.prog.globals[14]?).map (·.type) = some 284 by kernel_rfl) Tryz.underlying284 Tryz.underlying9 (by kernel_rfl) ha 0 _ rfl
  obtain ⟨s14', c14', e14'⟩ := strs_at (P := Tryz.prog) (zs := [[111, 107], [110, 111, 110, 101], [118, 97, 108]]) (show Tryz.prog.globalNamed "umpire/event.answers" = some 14 by kernel_rfl) (show (Tryz.prog.globals[14]?).map (·.type) = some 284 by kernel_rfl) Tryz.underlying284 Tryz.underlying9 (by kernel_rfl) ha 2 _ rfl
  obtain ⟨s16, c16, -⟩ := strs_at (P := Tryz.prog) (zs := [[115, 101, 114, 105, 97, 108], [115, 116, 114, 105, 99, 116], [102, 105, 110, 97, 108], [111, 112, 97, 113, 117, 101]]) (show Tryz.prog.globalNamed "umpire/event.levels" = some 16 by kernel_rfl) (show (Tryz.prog.globals[16]?).map (·.type) = some 280 by kernel_rfl) Tryz.underlying280 Tryz.underlying9 (by kernel_rfl) hl 0 _ rfl
  rw [ba_of e11] at c11
  rw [ba_of e14] at c14
  rw [ba_of e14'] at c14'
  have hbig : 16 < W.heap.size := live_of c16
  exact ⟨hbig, ⟨293, .pointer (some a), by simpa using c10⟩, ⟨by omega, c14, c14', c11⟩⟩
end Go.Proofs.YtogphaiomlfofaaGreatDoor
namespace Go.Proofs.YtogphaiomlfofaaGreatDoor
open Go.ChangeShapes Go.WideShapes Go.ChangeAt Go.RowKit
set_option maxRecDepth 100000

theorem own : ownKnob Tryz.prog.godebug = none := by kernel_rfl
noncomputable def low : Nat := (World.holding Tryz.prog default ⟨#[], #[], []⟩).heap.size
def putAt (h : Array Obj) (g : Nat) (cs : Array Value) : Array Obj := h.modify g fun
  | .cells _ t frozen => .cells cs t frozen
  | o => o
noncomputable def laidWorld (os : Os) : World :=
  let w0 := World.holding Tryz.prog os ⟨#[.cells #[.string ⟨#[110, 111, 32, 111, 98, 106, 101, 99, 116]⟩] 309,
    .cells #[.string ⟨#[116, 111, 111, 32, 109, 97, 110, 121]⟩] 309,
    .cells #[.string ⟨#[110, 111, 32, 111, 112, 101, 114, 97, 116, 105, 111, 110, 32, 111, 102, 32, 116, 104, 97, 116, 32, 111, 98, 106, 101, 99, 116]⟩] 309,
    .cells #[.string ⟨#[110, 111, 32, 101, 118, 101, 110, 116]⟩] 309,
    .cells #[.string ⟨#[105, 116, 32, 104, 97, 115, 32, 98, 101, 103, 117, 110, 32, 97, 108, 114, 101, 97, 100, 121]⟩] 309,
    .cells #[.string ⟨#[116, 104, 101, 32, 116, 104, 114, 101, 97, 100, 32, 105, 115, 32, 98, 117, 115, 121]⟩] 309,
    .cells #[.string ⟨#[110, 111, 32, 115, 117, 99, 104, 32, 116, 114, 97, 110, 115, 97, 99, 116, 105, 111, 110]⟩] 309,
    .cells #[.string ⟨#[105, 116, 32, 100, 111, 101, 115, 32, 110, 111, 116, 32, 99, 111, 109, 101, 32, 104, 101, 114, 101]⟩] 309,
    .cells #[.string ⟨#[110, 111, 32, 115, 117, 99, 104, 32, 99, 111, 100, 101]⟩] 309,
    .cells #[.string ⟨#[110, 111, 32, 97, 110, 115, 119, 101, 114, 32, 111, 102, 32, 116, 104, 97, 116, 32, 111, 112, 101, 114, 97, 116, 105, 111, 110]⟩] 309,
    .cells #[.string ⟨#[110, 111, 32, 112, 114, 111, 103, 114, 97, 109]⟩] 309], #[], []⟩
  let h0 := putAt w0.heap 0 #[.iface 293 (.pointer (some ⟨low + 0, 0, none⟩))]
  let h1 := putAt h0 1 #[.iface 293 (.pointer (some ⟨low + 1, 0, none⟩))]
  let h2 := putAt h1 2 #[.iface 293 (.pointer (some ⟨low + 2, 0, none⟩))]
  let h3 := putAt h2 3 #[.iface 293 (.pointer (some ⟨low + 3, 0, none⟩))]
  let h4 := putAt h3 4 #[.iface 293 (.pointer (some ⟨low + 4, 0, none⟩))]
  let h5 := putAt h4 5 #[.iface 293 (.pointer (some ⟨low + 5, 0, none⟩))]
  let h6 := putAt h5 6 #[.iface 293 (.pointer (some ⟨low + 6, 0, none⟩))]
  let h7 := putAt h6 7 #[.iface 293 (.pointer (some ⟨low + 7, 0, none⟩))]
  let h8 := putAt h7 8 #[.iface 293 (.pointer (some ⟨low + 8, 0, none⟩))]
  let h9 := putAt h8 9 #[.iface 293 (.pointer (some ⟨low + 9, 0, none⟩))]
  let h10 := putAt h9 10 #[.iface 293 (.pointer (some ⟨low + 10, 0, none⟩))]
  let h11 := putAt h10 11 #[.string ⟨#[114, 101, 103, 105, 115, 116, 101, 114]⟩, .string ⟨#[99, 111, 117, 110, 116, 101, 114]⟩, .string ⟨#[113, 117, 101, 117, 101]⟩, .string ⟨#[109, 97, 112]⟩]
  let h12 := putAt h11 12 #[.string ⟨#[98, 101, 103, 105, 110]⟩, .string ⟨#[99, 97, 108, 108]⟩, .string ⟨#[114, 101, 116, 117, 114, 110]⟩, .string ⟨#[116, 114, 121]⟩, .string ⟨#[99, 111, 109, 109, 105, 116]⟩, .string ⟨#[97, 98, 111, 114, 116]⟩, .string ⟨#[99, 97, 110, 99, 101, 108]⟩]
  let h13 := putAt h12 13 #[.string ⟨#[114, 101, 97, 100]⟩, .string ⟨#[119, 114, 105, 116, 101]⟩, .string ⟨#[97, 100, 100]⟩, .string ⟨#[103, 101, 116]⟩, .string ⟨#[101, 110, 113]⟩, .string ⟨#[100, 101, 113]⟩, .string ⟨#[112, 117, 116]⟩, .string ⟨#[108, 111, 111, 107]⟩, .string ⟨#[100, 101, 108]⟩]
  let h14 := putAt h13 14 #[.string ⟨#[111, 107]⟩, .string ⟨#[110, 111, 110, 101]⟩, .string ⟨#[118, 97, 108]⟩]
  let h15 := putAt h14 15 #[.string ⟨#[108, 105, 118, 101]⟩, .string ⟨#[112, 101, 110, 100, 105, 110, 103]⟩, .string ⟨#[99, 111, 109, 109, 105, 116, 116, 101, 100]⟩, .string ⟨#[97, 98, 111, 114, 116, 101, 100]⟩]
  let h16 := putAt h15 16 #[.string ⟨#[115, 101, 114, 105, 97, 108]⟩, .string ⟨#[115, 116, 114, 105, 99, 116]⟩, .string ⟨#[102, 105, 110, 97, 108]⟩, .string ⟨#[111, 112, 97, 113, 117, 101]⟩]
  { w0 with heap := h16 }
theorem laid_met (os : Os) (args : Array Value) : laidMet Tryz.prog Rows.lateReadsUptoRow.laid ((laidWorld os).forCall (fun _ _ => 0) ⟨#[], args, []⟩).memory :=
  laidMet_of_run' 8 (by kernel_rfl) (by kernel_rfl)
end Go.Proofs.YtogphaiomlfofaaGreatDoor
