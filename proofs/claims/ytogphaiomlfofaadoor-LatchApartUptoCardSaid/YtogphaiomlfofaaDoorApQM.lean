/- LatchApart: lists of lists of acts in memory: the first ones, one of them emptied. Conditions: those of each theorem, as typed. -/
import Derived.Test.YtogphaiomlfofaaDoorKdsM
set_option linter.unusedVariables false
set_option linter.unusedSimpArgs false
namespace Go.Proofs.YtogphaiomlfofaaDoor
open Go.RowKit Go.Maps
set_option linter.unusedVariables false
set_option linter.unusedSimpArgs false

theorem get_setp {α : Type} {l : List α} {i j : Nat} {x y : α} (h : (l.set i x)[j]? = some y) : (i = j ∧ y = x) ∨ (i ≠ j ∧ l[j]? = some y) := by
  by_cases e : i = j
  · subst e
    have hl : i < l.length := by have := (List.getElem?_eq_some_iff.1 h).1; simpa using this
    rw [List.getElem?_set_self hl] at h
    exact .inl ⟨rfl, (Option.some.inj h).symm⟩
  · rw [List.getElem?_set_ne e] at h; exact .inr ⟨e, h⟩
theorem and_low (z : Int) (k : Nat) (hk : k ≤ 8) : bits .and .i64 z ((2 ^ k - 1 : Nat) : Int) = z % ((2 ^ k : Nat) : Int) := by
  have hp : 0 < 2 ^ k := Nat.pos_of_ne_zero (by simp)
  have hle : 2 ^ k ≤ 2 ^ 8 := Nat.pow_le_pow_right (by omega) hk
  have e1 : (BitVec.ofInt IntKind.i64.bits ((2 ^ k - 1 : Nat) : Int)).toNat = 2 ^ k - 1 := by
    rw [BitVec.toNat_ofInt]
    show (((2 ^ k - 1 : Nat) : Int) % ((2 ^ 64 : Nat) : Int)).toNat = _
    rw [Int.emod_eq_of_lt (by omega) (by omega)]
    omega
  have e2 : (BitVec.ofInt IntKind.i64.bits z).toNat = (z % ((2 ^ 64 : Nat) : Int)).toNat := BitVec.toNat_ofInt ..
  have e3 : ((BitVec.ofInt IntKind.i64.bits z) &&& (BitVec.ofInt IntKind.i64.bits ((2 ^ k - 1 : Nat) : Int))).toNat = (z % ((2 ^ 64 : Nat) : Int)).toNat % 2 ^ k := by
    rw [BitVec.toNat_and, e1, e2, Nat.and_two_pow_sub_one_eq_mod]
  unfold bits
  simp only [e3]
  have e4 : (((z % ((2 ^ 64 : Nat) : Int)).toNat % 2 ^ k : Nat) : Int) = z % ((2 ^ k : Nat) : Int) := by
    rw [Int.natCast_emod, Int.toNat_of_nonneg (Int.emod_nonneg _ (by omega))]
    refine Int.emod_emod_of_dvd _ ?_
    refine Int.natCast_dvd_natCast.2 (Nat.pow_dvd_pow 2 (by omega))
  rw [e4]
  have h5 := Int.emod_nonneg z (b := ((2 ^ k : Nat) : Int)) (by omega)
  have h6 := Int.emod_lt_of_pos z (b := ((2 ^ k : Nat) : Int)) (by omega)
  have h7 : z % ((2 ^ k : Nat) : Int) < 256 := by omega
  generalize z % ((2 ^ k : Nat) : Int) = y at *
  clear e1 e2 e3 e4 hp hle hk
  simp only [IntKind.wrap, IntKind.bits, IntKind.signed]
  simp
  omega
theorem and1 (z : Int) : bits .and .i64 z 1 = z % 2 := and_low z 1 (by omega)
theorem OwnF.slv {α : Type} {f : α → List Value} {e : TypeId} {sz B : Nat} {v : Value} {w : World} {l : List α} (h : OwnF f e sz w B v l) : ∃ a c, v = .slice a l.length c := by
  obtain ⟨a, c, e, -⟩ := OwnF.form2 h; exact ⟨a, c, e⟩
theorem flat_val' (l : List Value) : l.flatMap valC = l := by induction l with | nil => rfl | cons x l ih => simp [valC, ih]
section
variable {w : World} {B n c g m : Nat} {a : Option Addr} {v : Value}
theorem own_val {e : TypeId} {vs : List Value} (h : OwnF valC e 1 w B v vs) : Sl w w.heap.size 1 v vs.length vs := by
  have := OwnF.sl h
  rwa [flat_val'] at this
theorem OwnTxs.isx {l : List (List Ac)} (h : OwnTxs w B v l) : IsTxs w w.heap.size v l := by
  obtain ⟨vs, h1, h2, h3⟩ := h
  exact ⟨vs, by rw [← h2]; exact own_val h1, fun k u x hu hx => OwnF.sl (h3 k u x hu hx)⟩
theorem OwnThr.isx {l : List (List (List Ac))} (h : OwnThr w B v l) : IsThr w w.heap.size v l := by
  obtain ⟨vs, h1, h2, h3⟩ := h
  exact ⟨vs, by rw [← h2]; exact own_val h1, fun k u x hu hx => (h3 k u x hu hx).isx⟩
theorem IsThr.front {l : List (List (List Ac))} (h : IsThr w B (.slice a n c) l) (hm : m ≤ l.length) : IsThr w B (.slice a m c) (l.take m) := by
  obtain ⟨vs, ⟨a', c', hv, hn, hlen, hc⟩, h2⟩ := h
  simp only [Value.slice.injEq] at hv
  obtain ⟨rfl, rfl, rfl⟩ := hv
  have hlm : (l.take m).length = m := by rw [List.length_take]; omega
  refine ⟨vs.take m, ⟨a, c, by rw [hlm], by omega, by rw [List.length_take]; omega, fun h0 => ?_⟩, fun k u x hu hx => ?_⟩
  · obtain ⟨b, off, h3, h4, h5⟩ := hc (by omega)
    refine ⟨b, off, h3, h4, fun j u hj => ?_⟩
    rw [List.getElem?_take] at hj
    split at hj
    · exact h5 j u hj
    · cases hj
  · rw [List.getElem?_take] at hu hx
    split at hu
    · rename_i hk
      rw [if_pos hk] at hx
      exact h2 k u x hu hx
    · cases hu
theorem OwnThr.clear {l : List (List (List Ac))} (h : OwnThr w B (.slice (some ⟨g, 0, none⟩) n c) l) (k : Nat) : OwnThr (w.setCell ⟨g, k, none⟩ (.slice none 0 0)) B (.slice (some ⟨g, 0, none⟩) n c) (l.set k []) := by
  obtain ⟨vs, h1, h2, h3⟩ := h
  obtain ⟨cs, hr⟩ := OwnF.keepObj h1 g rfl
  refine ⟨_, own_set1 h1 (.slice none 0 0) k, by simp [h2], fun j u x hu hx => ?_⟩
  rcases get_setp hu with ⟨rfl, rfl⟩ | ⟨hne, hu⟩
  · rcases get_setp hx with ⟨-, rfl⟩ | ⟨h, -⟩
    · exact ⟨[], OwnF.nil _ _, rfl, fun k u x hu => by simp at hu⟩
    · exact absurd rfl h
  · rcases get_setp hx with ⟨h, -⟩ | ⟨-, hx⟩
    · exact absurd h hne
    · obtain ⟨ws, a1, a2, a3⟩ := h3 j u x hu hx
      exact ⟨ws, OwnF.other a1 (OwnF.neT a1 hr (by decide)) _, a2, fun q u x h1 h2 => OwnF.other (a3 q u x h1 h2) (OwnF.neT (a3 q u x h1 h2) hr (by decide)) _⟩
end
end Go.Proofs.YtogphaiomlfofaaDoor
