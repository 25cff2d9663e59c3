/- Lists of the call's own that are written over in place. Conditions: those of each theorem, as typed. -/
import Derived.Test.YtlmeblhcipkgmaaRelG
import Derived.OneCell
namespace Go.Proofs.Ytlmeblhcipkgmaa
open Go.RowKit

theorem ownsRow_set {w : World} {B sz n g cap : Nat} {e : TypeId} {xs : List Value} (h : w.ownsRow B e sz (.slice (some ⟨g, 0, none⟩) n cap) n xs) (j : Nat) (u : Value) :
    (w.setCell ⟨g, j, none⟩ u).ownsRow B e sz (.slice (some ⟨g, 0, none⟩) n cap) n (xs.set j u) := by
  obtain ⟨h1, h2⟩ := h
  refine ⟨by simpa using h1, ?_⟩
  rcases h2 with ⟨h2, -⟩ | ⟨g', cap', cur, hv, hg, hh, hnc, hcm, hs, ht⟩
  · cases h2
  · simp only [Value.slice.injEq, Option.some.injEq, Addr.mk.injEq, and_true, true_and] at hv
    obtain ⟨rfl, rfl⟩ := hv
    refine .inr ⟨g, cap, cur.setIfInBounds j u, rfl, hg, row_set hh j u, hnc, hcm, by simpa using hs, ?_⟩
    rw [← ht, Array.toList_setIfInBounds, List.take_set]
theorem pairs_set : ∀ (l : List Pr) (j : Nat) (p : Pr), (l.set j p).flatMap pairC = ((l.flatMap pairC).set (j * 2) (.int .i64 p.1)).set (j * 2 + 1) (.int .i64 p.2)
  | [], j, p => by simp
  | x :: l, 0, p => by simp [pairC]
  | x :: l, j + 1, p => by
    have ih := pairs_set l j p
    rw [Nat.add_mul, Nat.one_mul]
    simp [pairC, ih]
section
variable {w : World} {B n g cap j : Nat} {e : TypeId}
theorem OwnI.set {l : List Int} (h : OwnF intC e 1 w B (.slice (some ⟨g, 0, none⟩) n cap) l) (hn : l.length = n) (z : Int) : OwnF intC e 1 (w.setCell ⟨g, j, none⟩ (.int .i64 z)) B (.slice (some ⟨g, 0, none⟩) n cap) (l.set j z) := by
  subst hn
  have := ownsRow_set h j (.int .i64 z)
  unfold OwnF
  rw [flat_int] at this
  rw [List.length_set, flat_int, List.map_set]
  exact this
theorem OwnP.set {l : List Pr} (h : OwnF pairC e 2 w B (.slice (some ⟨g, 0, none⟩) n cap) l) (hn : l.length = n) (p : Pr) :
    OwnF pairC e 2 ((w.setCell ⟨g, j * 2, none⟩ (.int .i64 p.1)).setCell ⟨g, j * 2 + 1, none⟩ (.int .i64 p.2)) B (.slice (some ⟨g, 0, none⟩) n cap) (l.set j p) := by
  subst hn
  have := ownsRow_set (ownsRow_set h (j * 2) (.int .i64 p.1)) (j * 2 + 1) (.int .i64 p.2)
  unfold OwnF
  rw [List.length_set, pairs_set]
  exact this
theorem OwnF.other {α : Type} {f : α → List Value} {sz : Nat} {v : Value} {l : List α} (h : OwnF f e sz w B v l) (hg : v.ownBlock ≠ some g) (u : Value) : OwnF f e sz (w.setCell ⟨g, j, none⟩ u) B v l :=
  ownsRow_setCell_other (a := ⟨g, j, none⟩) h hg u
theorem OwnF.free {α : Type} {f : α → List Value} {sz : Nat} {l : List α} (h : OwnF f e sz w B (.slice (some ⟨g, 0, none⟩) n cap) l) (j : Nat) : w.frozen? ⟨g, j, none⟩ = false := by
  obtain ⟨-, h2⟩ := h
  rcases h2 with ⟨h2, -⟩ | ⟨g', cap', cur, hv, hg, hh, r⟩
  · cases h2
  · simp only [Value.slice.injEq, Option.some.injEq, Addr.mk.injEq, and_true, true_and] at hv
    obtain ⟨rfl, -⟩ := hv
    exact row_free hh j
end
end Go.Proofs.Ytlmeblhcipkgmaa
