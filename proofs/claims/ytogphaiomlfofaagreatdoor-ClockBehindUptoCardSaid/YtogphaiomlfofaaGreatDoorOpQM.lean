/- Arguments: a schedule's room. Conditions: those of each theorem, as typed. -/
import Derived.Test.YtogphaiomlfofaaGreatDoorQM21
set_option linter.unusedVariables false
set_option linter.unusedSimpArgs false
namespace Go.Proofs.YtogphaiomlfofaaGreatDoor
open Go.ChangeShapes Go.WideShapes Go.ChangeAt Go.RowKit
set_option linter.unusedVariables false
theorem sched_cap {H : Type} {enc : TypeId × Value → H} {W : World} {B n : Nat} {xs : List Value} {v : Value} {d : DataW H} {p : List MemPlace} (h : DataW.Trod enc Tryz.prog W 0 (fun _ => true) true 22 v d p) (hs : Sl W B 1 v n xs) : ∃ a c, v = .slice a n c ∧ n ≤ c := by
  obtain ⟨a', c', rfl, -⟩ := hs.ex
  obtain ⟨fuel, hf⟩ := h
  rcases open_ints Tryz.underlying22 Tryz.underlying3 (by kernel_rfl) hf with ⟨hc, _⟩ | ⟨a, len, cap, zs, hc, _, hl, _⟩
  · simp [Value.cells] at hc
    obtain ⟨rfl, rfl, rfl⟩ := hc
    exact ⟨none, 0, rfl, Nat.le_refl _⟩
  · simp [Value.cells] at hc
    obtain ⟨rfl, rfl, rfl⟩ := hc
    exact ⟨some a, c', rfl, hl⟩
end Go.Proofs.YtogphaiomlfofaaGreatDoor
