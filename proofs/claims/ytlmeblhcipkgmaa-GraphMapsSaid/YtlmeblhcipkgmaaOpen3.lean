/- How slices of triples that came in lie in memory. Conditions: those of each theorem, as typed. -/
import Derived.Test.YtlmeblhcipkgmaaOpen
import Derived.Test.YtlmeblhcipkgmaaGrG
namespace Go.Proofs.Ytlmeblhcipkgmaa
open Go.ChangeShapes Go.WideShapes Go.ChangeAt Go.RowKit Go.Deep

section
variable {H : Type} {enc : TypeId × Value → H} {P : Program} {W : World}
theorem sl_trs {t e : TypeId} {f0 f1 f2 : Field} {v : Value} {d : DataW H} {p : List MemPlace} (ht : P.underlying t = some (.slice e)) (he : P.underlying e = some (.struct #[f0, f1, f2]))
    (ce : P.cellsOf e = 3) (o0 : f0.offset = 0) (o1 : f1.offset = 1) (o2 : f2.offset = 2) (c0 : P.cellsOf f0.type = 1) (c1 : P.cellsOf f1.type = 1) (c2 : P.cellsOf f2.type = 1)
    (t0 : P.underlying f0.type = some (.int .i64)) (t1 : P.underlying f1.type = some (.int .i64)) (t2 : P.underlying f2.type = some (.int .i64))
    (h : DataW.Trod enc P W 0 (fun _ => true) true t v d p) (hs : ∃ a len cap, v = .slice a len cap) :
    ∃ a n cap, ∃ l : List Tr, v = .slice a n cap ∧ l.length = n ∧ Sl W W.heap.size 3 v n (l.flatMap trC) ∧ (∀ x ∈ l, dI x.1 ∧ dI x.2.1 ∧ dI x.2.2) ∧ n ≤ cap ∧ cap ≤ maxLen := by
  obtain ⟨a', n', c', rfl⟩ := hs
  obtain ⟨fuel, hf⟩ := h
  rcases open_slice ht hf with ⟨hc, _⟩ | ⟨a, len, cap, m, k, D, Pl, hc, _, hl, hm, hmm, _, hall⟩
  · simp [Value.cells] at hc
    obtain ⟨rfl, rfl, rfl⟩ := hc
    exact ⟨none, 0, 0, [], rfl, rfl, ⟨none, 0, rfl, by omega, rfl, by simp⟩, by simp, by omega, by simp [maxLen]⟩
  · simp [Value.cells] at hc
    obtain ⟨rfl, rfl, rfl⟩ := hc
    have hlm : n' ≤ m := by rw [hmm]; split <;> omega
    have each : ∀ i, i < n' → ∃ x : Tr, (∀ j, j < 3 → W.cell? (a.add (i * 3 + j)) = (trC x)[j]?) ∧ dI x.1 ∧ dI x.2.1 ∧ dI x.2.2 := fun i hi => by
      obtain ⟨cs', h1, h2⟩ := hall i (by omega)
      rw [ce] at h1
      obtain ⟨_, hlen, hcell⟩ := World.cells?_some h1
      obtain ⟨xs, k', hk, hxy, _, hxl, hf⟩ := DataW.trod_struct he h2
      match xs, hxl, cs', hlen with
      | [y0, y1, y2], _, [v0, v1, v2], _ =>
        have g0 := hf 0 f0 rfl
        have g1 := hf 1 f1 rfl
        have g2 := hf 2 f2 rfl
        simp [o0, o1, o2, c0, c1, c2] at g0 g1 g2
        have e0 := hcell 0 (by omega)
        have e1 := hcell 1 (by omega)
        have e2 := hcell 2 (by omega)
        rw [add_add] at e0 e1 e2
        obtain ⟨x, q0, -, w0⟩ := DataW.trod_int t0 g0
        obtain ⟨y, q1, -, w1⟩ := DataW.trod_int t1 g1
        obtain ⟨z, q2, -, w2⟩ := DataW.trod_int t2 g2
        simp only [List.cons.injEq, and_true] at q0 q1 q2
        subst q0 q1 q2
        refine ⟨(x, y, z), fun j hj => ?_, w0, w1, w2⟩
        match j, hj with
        | 0, _ => simpa [trC] using e0
        | 1, _ => simpa [trC] using e1
        | 2, _ => simpa [trC] using e2
    obtain ⟨q, hq⟩ := choose_lt each
    refine ⟨some a, n', c', (List.range n').map q, rfl, by simp, Sl.of_each trC_len (by omega) (by simp) (by unfold maxLen at hm; omega) ?_, ?_, hl, hm⟩
    · intro i x hi j hj
      have hi' : i < n' := by have := (List.getElem?_eq_some_iff.1 hi).1; simpa using this
      have : x = q i := by rw [List.getElem?_map, List.getElem?_range hi'] at hi; simpa using hi.symm
      subst this
      exact (hq i hi').1 j hj
    · intro x hx
      obtain ⟨i, hi, rfl⟩ := List.mem_map.1 hx
      exact (hq i (List.mem_range.1 hi)).2
end
end Go.Proofs.Ytlmeblhcipkgmaa
