/- Words for memory: a slice that shows a list of cells, and what keeps it. On the model alone (no program in sight). Conditions: those of each theorem, as typed. -/
import Derived.Test.YtcombolmacokbaaReg
import Derived.WalkKit
import Derived.ProofKit
import Derived.Deep.Draws
namespace Go.Proofs.Ytcombolmacokbaa
open Go.RowKit

theorem hid {p : Prop} (h : p) : Hid p := h

/-- Where a walk is to stand still. -/
def Stop (p : Prop) : Prop := p
theorem Stop.halt {p : Prop} (h : Stop p) : p := h
theorem Stop.go {p : Prop} (h : p) : Stop p := h

/-- The slice value v has n elements of sz cells each, which are xs; they lie below block B. -/
def Sl (w : World) (B sz : Nat) (v : Value) (n : Nat) (xs : List Value) : Prop :=
  ∃ a cap, v = .slice a n cap ∧ n ≤ 9223372036854775807 ∧ xs.length = n * sz ∧ (0 < n → ∃ b off, a = some ⟨b, off, none⟩ ∧ b < B ∧ ∀ j u, xs[j]? = some u → w.cell? ⟨b, off + j, none⟩ = some u)

section
variable {w w' : World} {B B' sz n : Nat} {v : Value} {xs : List Value}
theorem Sl.ex (h : Sl w B sz v n xs) : ∃ a cap, v = .slice a n cap ∧ n ≤ 9223372036854775807 := let ⟨a, cap, hv, hn, _⟩ := h; ⟨a, cap, hv, hn⟩
theorem Sl.len (h : Sl w B sz v n xs) : xs.length = n * sz := let ⟨_, _, _, _, hl, _⟩ := h; hl
theorem Sl.keep (h : Sl w B sz v n xs) (hk : ∀ b off, b < B → w'.cell? ⟨b, off, none⟩ = w.cell? ⟨b, off, none⟩) : Sl w' B sz v n xs := by
  obtain ⟨a, cap, hv, hn, hl, h⟩ := h
  exact ⟨a, cap, hv, hn, hl, fun h0 => let ⟨b, off, ha, hb, hc⟩ := h h0; ⟨b, off, ha, hb, fun j u hu => (hk b _ hb).trans (hc j u hu)⟩⟩
theorem Sl.more (h : Sl w B sz v n xs) (hB : B ≤ B') : Sl w B' sz v n xs := by
  obtain ⟨a, cap, hv, hn, hl, h⟩ := h
  exact ⟨a, cap, hv, hn, hl, fun h0 => let ⟨b, off, ha, hb, hc⟩ := h h0; ⟨b, off, ha, by omega, hc⟩⟩
theorem Sl.below (h : Sl w B sz v n xs) (hb : Below B w w') : Sl w' B sz v n xs := h.keep fun b off hlt => hb.cell (p := ⟨b, off, none⟩) hlt
theorem Sl.drew (h : Sl w B sz v n xs) : Sl w.drew B sz v n xs := h
theorem Sl.alloc (h : Sl w B sz v n xs) (hB : B ≤ w.heap.size) (o : Obj) : Sl (w.alloc o) B sz v n xs :=
  h.keep fun b off hlt => World.cell?_alloc_lt w o ⟨b, off, none⟩ (by show b < _; omega)
theorem Sl.of_own {e : TypeId} {base : Nat} (h : w.ownsRow base e sz v n xs) : Sl w w.heap.size sz v n xs := by
  obtain ⟨hl, h⟩ := h
  rcases h with ⟨rfl, rfl⟩ | ⟨g, cap, cur, rfl, hg, hh, hnc, hcm, hs, ht⟩
  · exact ⟨none, 0, rfl, by omega, hl, fun h => absurd h (by omega)⟩
  · refine ⟨some ⟨g, 0, none⟩, cap, rfl, by unfold maxLen at hcm; omega, hl, fun _ => ⟨g, 0, rfl, (Array.getElem?_eq_some_iff.1 hh).1, fun j u hu => ?_⟩⟩
    have hj : j < n * sz := by have := (List.getElem?_eq_some_iff.1 hu).1; omega
    rw [← ht, List.getElem?_take, if_pos hj] at hu
    simp only [World.cell?, hh, Option.isSome_none, Bool.false_eq_true, if_false, Nat.zero_add]
    simpa using hu
end

/-! ### Elements of one cell -/
theorem Sl.at1 {w : World} {B n cap : Nat} {a : Option Addr} {xs : List Value} (h : Sl w B 1 (.slice a n cap) n xs) {k : Nat} (hk : k < n) :
    ∃ b off u, a = some ⟨b, off, none⟩ ∧ b < B ∧ xs[k]? = some u ∧ w.cell? ⟨b, off + k, none⟩ = some u := by
  obtain ⟨a', cap', hv, hm, hl, h⟩ := h
  simp only [Value.slice.injEq] at hv
  obtain ⟨rfl, -, rfl⟩ := hv
  obtain ⟨b, off, rfl, hb, hc⟩ := h (by omega)
  have hkl : k < xs.length := by omega
  exact ⟨b, off, xs[k], rfl, hb, List.getElem?_eq_getElem hkl, hc k _ (List.getElem?_eq_getElem hkl)⟩

/-- xs is the list of all cells of a list of things, each of sz cells. -/
theorem flat_get {α : Type} (f : α → List Value) (sz : Nat) (hf : ∀ x, (f x).length = sz) : ∀ (l : List α) (k j : Nat) (x : α), l[k]? = some x → j < sz → (l.flatMap f)[k * sz + j]? = (f x)[j]?
  | [], k, j, x, h, _ => by simp at h
  | y :: l, 0, j, x, h, hj => by
    simp only [List.getElem?_cons_zero, Option.some.injEq] at h
    subst h
    simp only [List.flatMap_cons, Nat.zero_mul, Nat.zero_add]
    rw [List.getElem?_append_left (by rw [hf]; exact hj)]
  | y :: l, k + 1, j, x, h, hj => by
    simp only [List.getElem?_cons_succ] at h
    simp only [List.flatMap_cons]
    rw [List.getElem?_append_right (by rw [hf, Nat.add_mul]; omega), hf, show (k + 1) * sz + j - sz = k * sz + j from by rw [Nat.add_mul]; omega]
    exact flat_get f sz hf l k j x h hj

theorem flat_length {α : Type} (f : α → List Value) (sz : Nat) (hf : ∀ x, (f x).length = sz) (l : List α) : (l.flatMap f).length = l.length * sz := by
  induction l with
  | nil => simp
  | cons x l ih => simp only [List.flatMap_cons, List.length_append, ih, hf, List.length_cons, Nat.add_mul]; omega

/-- The cells of element k of a slice of things of sz cells. -/
theorem Sl.atF {α : Type} {w : World} {B sz n cap : Nat} {a : Option Addr} {f : α → List Value} {l : List α} (hf : ∀ x, (f x).length = sz) (h : Sl w B sz (.slice a n cap) n (l.flatMap f)) (hln : l.length = n) {k : Nat} (hk : k < n) :
    ∃ b off x, a = some ⟨b, off, none⟩ ∧ b < B ∧ l[k]? = some x ∧ ∀ j, j < sz → w.cell? ⟨b, off + k * sz + j, none⟩ = (f x)[j]? := by
  obtain ⟨a', cap', hv, hm, hl, h⟩ := h
  simp only [Value.slice.injEq] at hv
  obtain ⟨rfl, -, rfl⟩ := hv
  obtain ⟨b, off, rfl, hb, hc⟩ := h (by omega)
  have hkl : k < l.length := by omega
  refine ⟨b, off, l[k], rfl, hb, List.getElem?_eq_getElem hkl, fun j hj => ?_⟩
  have h1 := flat_get f sz hf l k j _ (List.getElem?_eq_getElem hkl) hj
  have h2 : j < (f l[k]).length := by rw [hf]; exact hj
  rw [List.getElem?_eq_getElem h2] at h1 ⊢
  rw [Nat.add_assoc]
  exact hc _ _ h1

/-- The same cells as a list. -/
theorem take_snoc_eq {α : Type} {xs ys : List α} {k : Nat} {x y : α} (h : xs.take k = ys.take k) (hx : xs[k]? = some x) (hy : ys[k]? = some y) (e : x = y) : xs.take (k + 1) = ys.take (k + 1) := by
  rw [List.take_add_one, List.take_add_one, h, hx, hy, e]

theorem below_drewN (B : Nat) (w : World) (n : Nat) : Below B w (w.drewN n) := ⟨rfl, rfl, rfl, Nat.le_refl _, fun _ _ => rfl⟩

theorem cell_new (w : World) (cs : Array Value) (t : TypeId) (fz : Nat × Nat) (j : Nat) : (w.alloc (.cells cs t fz)).cell? ⟨w.heap.size, j, none⟩ = cs[j]? := by
  have h : (w.alloc (.cells cs t fz)).heap[w.heap.size]? = some (.cells cs t fz) := heap_alloc_new w _
  simp only [World.cell?, h, Option.isSome_none, Bool.false_eq_true, if_false]
theorem cell_old (w : World) (o : Obj) (b off : Nat) (h : b < w.heap.size) : (w.alloc o).cell? ⟨b, off, none⟩ = w.cell? ⟨b, off, none⟩ :=
  World.cell?_alloc_lt w o ⟨b, off, none⟩ h
theorem cell_new' {w : World} {cs : Array Value} {t : TypeId} {fz : Nat × Nat} {b j : Nat} {v : Value} (hb : b = w.heap.size) (hv : cs[j]? = some v) : (w.alloc (.cells cs t fz)).cell? ⟨b, j, none⟩ = some v := by
  rw [hb, cell_new, hv]
theorem cell_old' {w : World} {o : Obj} {b off : Nat} {v : Value} (h : b < w.heap.size) (hv : w.cell? ⟨b, off, none⟩ = some v) : (w.alloc o).cell? ⟨b, off, none⟩ = some v :=
  (cell_old w o b off h).trans hv
theorem cell_below {B : Nat} {w w' : World} {b off : Nat} {v : Value} (hb : Below B w w') (h : b < B) (hv : w.cell? ⟨b, off, none⟩ = some v) : w'.cell? ⟨b, off, none⟩ = some v :=
  (hb.cell (p := ⟨b, off, none⟩) h).trans hv

/-! ### A list of things that each lie in one cell, by a relation of their own -/
def IsL {α : Type} (R : World → Nat → Value → α → Prop) (w : World) (B : Nat) (v : Value) (l : List α) : Prop :=
  ∃ vs : List Value, Sl w B 1 v l.length vs ∧ ∀ (k : Nat) (u : Value) (x : α), vs[k]? = some u → l[k]? = some x → R w B u x
section
variable {α : Type} {R : World → Nat → Value → α → Prop} {w w' : World} {B B' : Nat} {v : Value} {l : List α}
theorem IsL.below (hR : ∀ u x, R w B u x → R w' B u x) (h : IsL R w B v l) (hb : Below B w w') : IsL R w' B v l :=
  let ⟨vs, h1, h2⟩ := h; ⟨vs, h1.below hb, fun k u x hu hx => hR u x (h2 k u x hu hx)⟩
theorem IsL.more (hR : ∀ u x, R w B u x → R w B' u x) (h : IsL R w B v l) (hB : B ≤ B') : IsL R w B' v l :=
  let ⟨vs, h1, h2⟩ := h; ⟨vs, h1.more hB, fun k u x hu hx => hR u x (h2 k u x hu hx)⟩
theorem IsL.ex (h : IsL R w B v l) : ∃ a cap, v = .slice a l.length cap ∧ l.length ≤ 9223372036854775807 := let ⟨_, h1, _⟩ := h; h1.ex
theorem IsL.at (h : IsL R w B v l) {a : Option Addr} {n cap : Nat} (hv : v = .slice a n cap) {k : Nat} (hk : k < n) :
    ∃ b off u x, a = some ⟨b, off, none⟩ ∧ b < B ∧ l[k]? = some x ∧ w.cell? ⟨b, off + k, none⟩ = some u ∧ R w B u x := by
  obtain ⟨vs, h1, h2⟩ := h
  have hn : l.length = n := by
    obtain ⟨a', cap', e, _⟩ := h1.ex
    rw [hv] at e
    simp only [Value.slice.injEq] at e
    exact e.2.1.symm
  rw [hn, hv] at h1
  obtain ⟨b, off, u, rfl, hb, hu, hc⟩ := h1.at1 hk
  have hx : l[k]? = some l[k] := List.getElem?_eq_getElem (by omega)
  exact ⟨b, off, u, _, rfl, hb, hx, hc, h2 k u _ hu hx⟩
end
end Go.Proofs.Ytcombolmacokbaa
