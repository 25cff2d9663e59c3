/- What a whole run of late has put down; a deed's cells. Conditions: those of each theorem, as typed. -/
import Derived.Test.YtogphaiomlfofaaGreatDoorCaNM
set_option linter.unusedVariables false
set_option linter.unusedSimpArgs false
namespace Go.Proofs.YtogphaiomlfofaaGreatDoor
open Go.RowKit Go.Maps
set_option linter.unusedVariables false
set_option linter.unusedSimpArgs false

theorem run_table {P : Pg} {l : List Int} {full : Bool} {M : LM} (hv : ValidIs P) (hr : RunOf P (startLM P) l full M) : ∃ A, Lall P M A ∧ M.W.evs.length ≤ 400 ∧ (∀ e ∈ M.W.evs, EvOk (obsOf P).length e) ∧ Fed M.W.evs A ∧ RegOk (obsOf P) ∧ obsOf P ≠ [] ∧ (full = true → allDone P M.W = true) := by
  obtain ⟨A, h⟩ := late_run hv.ok hr
  have hc := hv.ok.cells
  refine ⟨A, h, h.evs, fun e he => ?_, h.ji.fed, ⟨by simp [obsOf]; omega, fun o ho => ?_⟩, fun e => ?_, fun hf => ?_⟩
  · have := h.ji.evs e he
    simpa [obsOf] using this
  · obtain ⟨c, hc, rfl⟩ := List.mem_map.1 ho
    have := hv.ok.cell c hc
    exact ⟨rfl, by show -1000000000 ≤ c; omega, by show c ≤ 1000000000; omega⟩
  · have : (obsOf P).length = 0 := by rw [e]; rfl
    simp [obsOf] at this
    rw [this] at hc; simp at hc
  · subst hf
    unfold RunOf at hr
    rw [if_pos rfl] at hr
    exact hr.choose_spec.2
theorem OwnF.deed {w : World} {B g n cap k : Nat} {l : List Dd} {d : Dd} (h : OwnD w B (.slice (some ⟨g, 0, none⟩) n cap) l) (hk : l[k]? = some d) : w.cell? ⟨g, k * 8, none⟩ = some (.int .i64 d.obj) ∧ w.cell? ⟨g, k * 8 + 1, none⟩ = some (.int .i64 d.op) ∧ w.cell? ⟨g, k * 8 + 5, none⟩ = some (.int .i64 d.got) ∧ w.cell? ⟨g, k * 8 + 7, none⟩ = some (.int .i64 d.back) ∧ g < w.heap.size := by
  have hkl := (List.getElem?_eq_some_iff.1 hk).1
  obtain ⟨a, c, hv⟩ := OwnF.slv h
  simp only [Value.slice.injEq] at hv
  obtain ⟨rfl, rfl, rfl⟩ := hv
  obtain ⟨b, off, x, he, hb, hx, hc⟩ := (OwnF.sl h).atF Dd.len rfl hkl
  simp only [Option.some.injEq, Addr.mk.injEq] at he
  obtain ⟨rfl, rfl, -⟩ := he
  rw [hk] at hx
  obtain rfl := Option.some.inj hx
  have c0 := hc 0 (by decide)
  have c1 := hc 1 (by decide)
  have c5 := hc 5 (by decide)
  have c7 := hc 7 (by decide)
  simp [Dd.cells] at c0 c1 c5 c7
  exact ⟨c0, c1, c5, c7, hb⟩
end Go.Proofs.YtogphaiomlfofaaGreatDoor
