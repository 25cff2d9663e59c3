/- How slices of pairs and of numbers that came in lie in memory. Conditions: those of each theorem, as typed. -/
import Derived.Test.YtlmeblhcipkgmaaRelG
import Derived.ProofKit
import Derived.ChangeSame
import Derived.ChangeSlices
import Derived.Deep.SlicePairs
namespace Go.Proofs.Ytlmeblhcipkgmaa
open Go.ChangeShapes Go.WideShapes Go.ChangeAt Go.RowKit Go.Deep

section
variable {H : Type} {enc : TypeId × Value → H} {P : Program} {W : World}
theorem cell_live {a : Addr} {u : Value} (h : W.cell? a = some u) : a.block < W.heap.size ∧ a.spot = none := by
  unfold World.cell? at h
  split at h
  · rename_i hb
    refine ⟨(Array.getElem?_eq_some_iff.1 hb).1, ?_⟩
    split at h
    · cases h
    · rename_i hs; cases hh : a.spot <;> simp_all
  · cases h
theorem addr_flat {a : Addr} (h : a.spot = none) (j : Nat) : a.add j = ⟨a.block, a.off + j, none⟩ := by
  obtain ⟨b, o, s⟩ := a
  simp only at h
  subst h
  unfold Addr.add
  split <;> simp_all
theorem Sl.of_each {α : Type} {f : α → List Value} {sz n cap : Nat} (hf : ∀ x, (f x).length = sz) (h0 : 0 < sz) {a : Addr} {l : List α} (hl : l.length = n) (hn : n ≤ 9223372036854775807)
    (h : ∀ i x, l[i]? = some x → ∀ j, j < sz → W.cell? (a.add (i * sz + j)) = (f x)[j]?) : Sl W W.heap.size sz (.slice (some a) n cap) n (l.flatMap f) := by
  refine ⟨_, _, rfl, hn, by rw [flat_length f sz hf, hl], fun hp => ?_⟩
  have hcell : ∀ i x, l[i]? = some x → ∀ j, (hj : j < sz) → W.cell? (a.add (i * sz + j)) = some ((f x)[j]'(by rw [hf]; exact hj)) := fun i x hi j hj => by
    rw [h i x hi j hj]; exact List.getElem?_eq_getElem _
  obtain ⟨hb, hs⟩ := cell_live (hcell 0 (l[0]'(by omega)) (List.getElem?_eq_getElem _) 0 h0)
  have hs' : a.spot = none := by
    rw [Nat.zero_mul, Nat.zero_add] at hs
    simpa [Addr.add] using hs
  have hb' : a.block < W.heap.size := by
    rw [Nat.zero_mul, Nat.zero_add] at hb
    simpa [Addr.add] using hb
  refine ⟨a.block, a.off, ?_, hb', fun j u hu => ?_⟩
  · rw [show (⟨a.block, a.off, none⟩ : Addr) = a by obtain ⟨b, o, s⟩ := a; simp only at hs'; rw [hs']]
  · have hj : j < (l.flatMap f).length := (List.getElem?_eq_some_iff.1 hu).1
    rw [flat_length f sz hf] at hj
    have e : j = j / sz * sz + j % sz := by rw [Nat.mul_comm]; exact (Nat.div_add_mod j sz).symm
    have hq : j / sz < l.length := Nat.div_lt_of_lt_mul (by rw [Nat.mul_comm]; exact hj)
    have hr : j % sz < sz := Nat.mod_lt _ h0
    rw [e, flat_get f sz hf l (j / sz) (j % sz) _ (List.getElem?_eq_getElem hq) hr] at hu
    rw [← addr_flat hs', e, h (j / sz) _ (List.getElem?_eq_getElem hq) (j % sz) hr]
    exact hu

theorem sl_pairs {t e : TypeId} {f0 f1 : Field} {v : Value} {d : DataW H} {p : List MemPlace} (ht : P.underlying t = some (.slice e)) (he : P.underlying e = some (.struct #[f0, f1]))
    (ce : P.cellsOf e = 2) (o0 : f0.offset = 0) (o1 : f1.offset = 1) (c0 : P.cellsOf f0.type = 1) (c1 : P.cellsOf f1.type = 1) (t0 : P.underlying f0.type = some (.int .i64)) (t1 : P.underlying f1.type = some (.int .i64))
    (h : DataW.Trod enc P W 0 (fun _ => true) true t v d p) (hs : ∃ a len cap, v = .slice a len cap) :
    ∃ a n cap, ∃ l : List Pr, v = .slice a n cap ∧ l.length = n ∧ Sl W W.heap.size 2 v n (l.flatMap pairC) ∧ (∀ x ∈ l, dI x.1 ∧ dI x.2) ∧ n ≤ cap ∧ cap ≤ maxLen := by
  obtain ⟨a', n', c', rfl⟩ := hs
  obtain ⟨fuel, hf⟩ := h
  rcases open_slice_pairs ht he ce o0 o1 c0 c1 hf with ⟨hc, _⟩ | ⟨a, len, cap, m, k, V0, V1, D0, D1, P0, P1, hc, _, hl, hm, hmm, _, hall⟩
  · simp [Value.cells] at hc
    obtain ⟨rfl, rfl, rfl⟩ := hc
    exact ⟨none, 0, 0, [], rfl, rfl, ⟨none, 0, rfl, by omega, rfl, by simp⟩, by simp, by omega, by simp [maxLen]⟩
  · simp [Value.cells] at hc
    obtain ⟨rfl, rfl, rfl⟩ := hc
    have hlm : n' ≤ m := by rw [hmm]; split <;> omega
    have each : ∀ i, i < n' → ∃ x : Int × Int, V0 i = .int .i64 x.1 ∧ V1 i = .int .i64 x.2 ∧ dI x.1 ∧ dI x.2 := fun i hi => by
      obtain ⟨-, -, h0, h1⟩ := hall i (by omega)
      obtain ⟨x, e0, -, w0⟩ := DataW.trod_int t0 h0
      obtain ⟨y, e1, -, w1⟩ := DataW.trod_int t1 h1
      exact ⟨(x, y), by simpa using e0, by simpa using e1, w0, w1⟩
    obtain ⟨q, hq⟩ := choose_lt each
    refine ⟨some a, n', c', (List.range n').map q, rfl, by simp, Sl.of_each pairC_len (by omega) (by simp) (by unfold maxLen at hm; omega) ?_, ?_, hl, hm⟩
    · intro i x hi j hj
      have hi' : i < n' := by
        have := (List.getElem?_eq_some_iff.1 hi).1
        simpa using this
      simp [hi'] at hi
      subst hi
      obtain ⟨g0, g1, -, -⟩ := hall i (by omega)
      obtain ⟨e0, e1, -, -⟩ := hq i hi'
      match j, hj with
      | 0, _ => simpa [pairC, e0] using g0
      | 1, _ => simpa [pairC, e1] using g1
    · intro x hx
      obtain ⟨i, hi, rfl⟩ := List.mem_map.1 hx
      exact (hq i (List.mem_range.1 hi)).2.2

theorem sl_ints {t e : TypeId} {v : Value} {d : DataW H} {p : List MemPlace} (ht : P.underlying t = some (.slice e)) (he : P.underlying e = some (.int .i64)) (ce : P.cellsOf e = 1)
    (h : DataW.Trod enc P W 0 (fun _ => true) true t v d p) (hs : ∃ a len cap, v = .slice a len cap) :
    ∃ a n cap, ∃ l : List Int, v = .slice a n cap ∧ l.length = n ∧ Sl W W.heap.size 1 v n (l.flatMap intC) ∧ (∀ x ∈ l, dI x) ∧ n ≤ cap ∧ cap ≤ maxLen := by
  obtain ⟨a', n', c', rfl⟩ := hs
  obtain ⟨fuel, hf⟩ := h
  rcases open_ints ht he ce hf with ⟨hc, _⟩ | ⟨a, len, cap, zs, hc, _, hl, hm, hz, _, hcell, hwf⟩
  · simp [Value.cells] at hc
    obtain ⟨rfl, rfl, rfl⟩ := hc
    exact ⟨none, 0, 0, [], rfl, rfl, ⟨none, 0, rfl, by omega, rfl, by simp⟩, by simp, by omega, by simp [maxLen]⟩
  · simp [Value.cells] at hc
    obtain ⟨rfl, rfl, rfl⟩ := hc
    have hz' : zs.length = c' := by rw [hz]; simp
    have hlm : n' ≤ zs.length := by omega
    have hmx : c' ≤ 9223372036854775807 := hm
    have hlt : (zs.take n').length = n' := by rw [List.length_take]; omega
    refine ⟨some a, n', c', zs.take n', rfl, hlt, Sl.of_each (f := intC) (sz := 1) (fun _ => rfl) (by decide) hlt (by omega) ?_, fun x hx => hwf x (List.mem_of_mem_take hx), hl, hm⟩
    intro i x hi j hj
    have hi' : i < n' := by
      have := (List.getElem?_eq_some_iff.1 hi).1
      rw [List.length_take] at this
      omega
    rw [List.getElem?_take, if_pos hi'] at hi
    have := hcell i (by omega)
    match j, hj with
    | 0, _ => simpa [intC, List.getD, hi] using this
end
end Go.Proofs.Ytlmeblhcipkgmaa
