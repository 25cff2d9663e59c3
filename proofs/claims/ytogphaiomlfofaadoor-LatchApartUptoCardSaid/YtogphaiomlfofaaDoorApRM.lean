/- LatchApart: one thread of two emptied; a slice of nothing. Conditions: those of each theorem, as typed. -/
import Derived.Test.YtogphaiomlfofaaDoorApPM
import Derived.Test.YtogphaiomlfofaaDoorApQM
set_option linter.unusedVariables false
set_option linter.unusedSimpArgs false
namespace Go.Proofs.YtogphaiomlfofaaDoor
open Go.RowKit Go.Maps
set_option linter.unusedVariables false
set_option linter.unusedSimpArgs false

theorem one_set {w : World} {B g c u t : Nat} {vc : Value} {P : Pg} {cs : Array Value} (ho : OwnI w B vc (two P).cells) (ht : OwnThr w B (.slice (some ⟨g, 0, none⟩) 2 c) (two P).threads) (hr : w.heap[g]? = some (.cells cs 32 (0, 0))) (hu : u = 1 - t) :
    PgIs (w.setCell ⟨g, u, none⟩ (.slice none 0 0)) w.heap.size vc (.slice (some ⟨g, 0, none⟩) 2 c) (one P t) := by
  have e1 := (ht.clear u).isx
  have e2 : OwnI (w.setCell ⟨g, u, none⟩ (.slice none 0 0)) B vc (two P).cells := OwnF.other ho (OwnF.neT ho hr (by decide)) (.slice none 0 0)
  have e3 := OwnF.sl e2
  rw [flat_int] at e3
  refine ⟨?_, ?_⟩
  · simpa [one, two] using e3
  · have e4 : (one P t).threads = (two P).threads.set u [] := by unfold one two; rw [hu]
    rw [e4]
    simpa using e1
theorem nil_ints (w : World) (B : Nat) : Sl w B 1 (.slice none 0 0) ([] : List Int).length (([] : List Int).map (.int .i64)) := ⟨none, 0, rfl, by simp, rfl, fun h => absurd h (by simp)⟩
theorem less2 {t : Nat} (h : t < 2) : 2 - ((t : Int) + 1).toNat < 2 - (t : Int).toNat := by omega
theorem wrap2 {t : Nat} (h : t < 2) : wrap64 ((t : Int) + 1) = (t : Int) + 1 := IntWalk.wrap64_in _ (by omega)
end Go.Proofs.YtogphaiomlfofaaDoor
