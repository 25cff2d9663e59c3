/- Lists that are written over in place: what stays of them is their shape. Conditions: those of each theorem, as typed. -/
import Derived.Test.YtcombolmacokbaaCaught
import Derived.Test.YtcombolmacokbaaGet22
namespace Go.Proofs.Ytcombolmacokbaa
open Go.RowKit

/-- Block g holds a list's cells: room for cap things of sz cells each, n of them in the list. -/
structure Shape (w : World) (B : Nat) (e : TypeId) (sz g n cap : Nat) : Prop where
  row : ∃ cur, w.heap[g]? = some (.cells cur e (0, 0)) ∧ cur.size = cap * sz
  le : n ≤ cap
  most : cap ≤ maxLen
  base : B ≤ g

section
variable {α : Type} {f : α → List Value} {e : TypeId} {sz g n cap B : Nat} {w w' : World} {l : List α}
theorem OwnF.shape (h : OwnF f e sz w B (.slice (some ⟨g, 0, none⟩) n cap) l) : Shape w B e sz g n cap := by
  obtain ⟨h1, h2⟩ := h
  rcases h2 with ⟨h2, -⟩ | ⟨g', cap', cur, hv, hg, hh, hnc, hcm, hs, -⟩
  · cases h2
  · simp only [Value.slice.injEq, Option.some.injEq, Addr.mk.injEq, and_true] at hv
    obtain ⟨rfl, rfl, rfl⟩ := hv
    exact ⟨⟨cur, hh, hs⟩, hnc, hcm, hg⟩
theorem Shape.lt (h : Shape w B e sz g n cap) : g < w.heap.size := let ⟨_, h1, _⟩ := h.row; row_lt h1
theorem Shape.set (h : Shape w B e sz g n cap) (g' j : Nat) (v : Value) : Shape (w.setCell ⟨g', j, none⟩ v) B e sz g n cap := by
  obtain ⟨cur, h1, h2⟩ := h.row
  refine ⟨?_, h.le, h.most, h.base⟩
  by_cases hg : g' = g
  · subst hg
    exact ⟨_, row_set h1 j v, by simpa using h2⟩
  · exact ⟨cur, row_other h1 hg, h2⟩
theorem Shape.alloc (h : Shape w B e sz g n cap) (o : Obj) : Shape (w.alloc o) B e sz g n cap := let ⟨cur, h1, h2⟩ := h.row; ⟨⟨cur, row_old h1, h2⟩, h.le, h.most, h.base⟩
theorem Shape.below (h : Shape w B e sz g n cap) (hb : Below w.heap.size w w') : Shape w' B e sz g n cap := let ⟨cur, h1, h2⟩ := h.row; ⟨⟨cur, row_below h1 hb (row_lt h1), h2⟩, h.le, h.most, h.base⟩
theorem Shape.at (h : Shape w B e sz g n cap) {j : Nat} (hj : j < cap * sz) : ∃ u, w.cell? ⟨g, j, none⟩ = some u := by
  obtain ⟨cur, h1, h2⟩ := h.row
  exact ⟨cur[j]'(by omega), by rw [row_cell h1]; exact Array.getElem?_eq_getElem _⟩
theorem Shape.free (h : Shape w B e sz g n cap) (j : Nat) : w.frozen? ⟨g, j, none⟩ = false := let ⟨_, h1, _⟩ := h.row; row_free h1 j
theorem Shape.own (h : Shape w B e 1 g n cap) : ∃ l : List Value, l.length = n ∧ OwnF valC e 1 w B (.slice (some ⟨g, 0, none⟩) n cap) l := by
  obtain ⟨cur, h1, h2⟩ := h.row
  have hl := h.le
  have hlen : (cur.toList.take n).length = n := by simp; omega
  refine ⟨cur.toList.take n, hlen, ?_, .inr ⟨g, cap, cur, by rw [hlen], h.base, h1, by rw [hlen]; exact h.le, h.most, h2, ?_⟩⟩
  · rw [flat_val]; omega
  · rw [flat_val, hlen]; simp
end
/-- A list of texts of the call's own, and its texts' cells. -/
theorem RetS.parts {w w' : World} {l : List ByteArray} {e : Ending} (h : RetS w l e w') (h0 : 0 < l.length) : ∃ g c, e = .returned (.slice (some ⟨g, 0, none⟩) l.length c) ∧ OwnS w' w.heap.size (.slice (some ⟨g, 0, none⟩) l.length c) l ∧ g < w'.heap.size ∧
    (∀ (k : Nat) (s : ByteArray), l[k]? = some s → w'.cell? ⟨g, k, none⟩ = some (.string s)) ∧ Below w.heap.size w w' := by
  obtain ⟨v, rfl, h1, h2⟩ := h
  rcases h1.form with ⟨rfl, rfl⟩ | ⟨g, c, rfl, hg, hl⟩
  · simp at h0
  · refine ⟨g, c, rfl, h1, hl, fun k s hk => ?_, h2⟩
    have h3 := h1.sl
    obtain ⟨a', cap', hv, hm, hln, h⟩ := h3
    simp only [Value.slice.injEq] at hv
    obtain ⟨rfl, -, rfl⟩ := hv
    obtain ⟨b, off, hb, hlt, hc⟩ := h h0
    cases hb
    have := hc k (.string s) (by rw [flat_str, List.getElem?_map, hk]; rfl)
    rwa [Nat.zero_add] at this


theorem Shape.ne {w : World} {B1 B2 : Nat} {e1 e2 : TypeId} {s1 s2 g1 g2 n1 n2 k1 k2 : Nat} (h1 : Shape w B1 e1 s1 g1 n1 k1) (h2 : Shape w B2 e2 s2 g2 n2 k2) (he : e1 ≠ e2) : g1 ≠ g2 := by
  obtain ⟨c1, h1, -⟩ := h1.row
  obtain ⟨c2, h2, -⟩ := h2.row
  rintro rfl
  rw [h1] at h2
  cases h2
  exact he rfl
theorem Shape.grw {w w' : World} {B : Nat} {e : TypeId} {sz g n cap : Nat} {v v' : Value} (h : Shape w B e sz g n cap) (G : Grw w w' v v') (hne : v.ownBlock ≠ some g) : Shape w' B e sz g n cap :=
  let ⟨cur, h1, h2⟩ := h.row; ⟨⟨cur, row_grw h1 G hne, h2⟩, h.le, h.most, h.base⟩

/-- What is alive while the law writes over what it was given. -/
structure Live (B p6 p8 p10 : Nat) (c6 c8 c10 : Array Value) (g5 n5 k5 g6 n6 k6 o6 m6 l6 : Nat) (a8 : Option Addr) (n8 k8 gt nt kt gs ns ks : Nat) (w : World) : Prop where
  r6 : w.heap[p6]? = some (.cells c6 28 (0, 0))
  r8 : w.heap[p8]? = some (.cells c8 28 (0, 0))
  r10 : w.heap[p10]? = some (.cells c10 35 (0, 0))
  s5 : Shape w B 9 1 g5 n5 k5
  s6 : Shape w B 39 8 g6 n6 k6
  t6 : Shape w B 41 2 o6 m6 l6
  s8 : n8 = 0 ∨ ∃ g, a8 = some ⟨g, 0, none⟩ ∧ Shape w B 39 8 g n8 k8
  st : Shape w B 42 1 gt nt kt
  ss : Shape w B 3 1 gs ns ks

section
variable {B p6 p8 p10 : Nat} {c6 c8 c10 : Array Value} {g5 n5 k5 g6 n6 k6 o6 m6 l6 : Nat} {a8 : Option Addr} {n8 k8 gt nt kt gs ns ks : Nat} {w : World}
theorem Live.set (h : Live B p6 p8 p10 c6 c8 c10 g5 n5 k5 g6 n6 k6 o6 m6 l6 a8 n8 k8 gt nt kt gs ns ks w) {B' : Nat} {e : TypeId} {sz g n cap : Nat} (hs : Shape w B' e sz g n cap) (h1 : e ≠ 28) (h2 : e ≠ 35) (j : Nat) (v : Value) :
    Live B p6 p8 p10 c6 c8 c10 g5 n5 k5 g6 n6 k6 o6 m6 l6 a8 n8 k8 gt nt kt gs ns ks (w.setCell ⟨g, j, none⟩ v) := by
  obtain ⟨cur, hr, -⟩ := hs.row
  have hne : ∀ (p : Nat) (c : Array Value) (t : TypeId), e ≠ t → w.heap[p]? = some (.cells c t (0, 0)) → (w.setCell ⟨g, j, none⟩ v).heap[p]? = some (.cells c t (0, 0)) := by
    intro p c t ht hp
    refine row_other hp ?_
    rintro rfl
    rw [hr] at hp
    cases hp
    exact ht rfl
  refine ⟨hne _ _ _ h1 h.r6, hne _ _ _ h1 h.r8, hne _ _ _ h2 h.r10, h.s5.set _ _ _, h.s6.set _ _ _, h.t6.set _ _ _, ?_, h.st.set _ _ _, h.ss.set _ _ _⟩
  rcases h.s8 with h | ⟨g, h, h'⟩
  · exact .inl h
  · exact .inr ⟨g, h, h'.set _ _ _⟩
end
theorem infoS : (Try.prog.info? 9).map (fun i => (i.zero, i.size, i.bytes)) = some (some (.string ⟨#[]⟩), 1, 16) := by kernel_rfl
theorem infoI : (Try.prog.info? 3).map (fun i => (i.zero, i.size, i.bytes)) = some (some (.int .i64 0), 1, 8) := by kernel_rfl

/-- A history that is not empty. -/
theorem RetHB.parts {w w' : World} {r : List Ob × List Ev × Bool} {e : Ending} (h : RetHB w r e w') (h1 : 0 < r.1.length) (h2 : 0 < r.2.1.length) : ∃ go co ge ce, e = .returned (.tuple #[.agg #[.slice (some ⟨go, 0, none⟩) r.1.length co, .slice (some ⟨ge, 0, none⟩) r.2.1.length ce], .bool r.2.2]) ∧
    Shape w' w.heap.size 41 2 go r.1.length co ∧ Shape w' w.heap.size 39 8 ge r.2.1.length ce ∧ Below w.heap.size w w' := by
  obtain ⟨ov, ev, rfl, h3, h4, h5⟩ := h
  rcases h3.form with ⟨-, e⟩ | ⟨go, co, rfl, -, -⟩
  · rw [e] at h1; simp at h1
  rcases h4.form with ⟨-, e⟩ | ⟨ge, ce, rfl, -, -⟩
  · rw [e] at h2; simp at h2
  exact ⟨go, co, ge, ce, rfl, h3.shape, h4.shape, h5⟩
/-- The events of a history, which may be empty. -/
theorem RetHB.maybe {w w' : World} {r : List Ob × List Ev × Bool} {e : Ending} (h : RetHB w r e w') : ∃ ao co ae ce, e = .returned (.tuple #[.agg #[.slice ao r.1.length co, .slice ae r.2.1.length ce], .bool r.2.2]) ∧
    (r.2.1.length = 0 ∨ ∃ g, ae = some ⟨g, 0, none⟩ ∧ Shape w' w.heap.size 39 8 g r.2.1.length ce) ∧ r.2.1.length ≤ 9223372036854775807 ∧ Below w.heap.size w w' := by
  obtain ⟨ov, ev, rfl, h3, h4, h5⟩ := h
  obtain ⟨ao, co, rfl, -⟩ := h3.sl.ex
  have hm := h4.sl.ex
  rcases h4.form with ⟨rfl, e⟩ | ⟨ge, ce, rfl, -, -⟩
  · rw [e]
    exact ⟨ao, co, none, 0, rfl, .inl rfl, by simp, h5⟩
  · obtain ⟨_, _, _, hm⟩ := hm
    exact ⟨ao, co, _, ce, rfl, .inr ⟨ge, rfl, h4.shape⟩, hm, h5⟩
/-- A program and its stands. -/
theorem RetP.parts {w w' : World} {e : Ending} (h : RetP w e w') : ∃ ac kc gt kt gs ks, e = .returned (.tuple #[.agg #[.slice ac 2 kc, .slice (some ⟨gt, 0, none⟩) 2 kt], .slice (some ⟨gs, 0, none⟩) 13 ks]) ∧
    Shape w' w.heap.size 42 1 gt 2 kt ∧ Shape w' w.heap.size 3 1 gs 13 ks ∧ Sl w' w'.heap.size 1 (.slice ac 2 kc) 2 ([0, 0].map (.int .i64)) ∧ IsThr w' w'.heap.size (.slice (some ⟨gt, 0, none⟩) 2 kt) caughtT ∧
    Sl w' w'.heap.size 1 (.slice (some ⟨gs, 0, none⟩) 13 ks) 13 (caughtS.map (.int .i64)) ∧ Below w.heap.size w w' := by
  obtain ⟨c, t, s, vs, rfl, h1, h2, h3, h4, h5, h6⟩ := h
  have hs1 := h1.sl
  rw [flat_int] at hs1
  have hs5 := h5.sl
  rw [flat_int] at hs5
  obtain ⟨ac, kc, rfl, -⟩ := hs1.ex
  rcases h2.form with ⟨-, e⟩ | ⟨gt, kt, rfl, -, -⟩
  · rw [e] at h3; cases h3
  rcases h5.form with ⟨-, e⟩ | ⟨gs, ks, rfl, -, -⟩
  · cases e
  rw [h3] at h2 h4 ⊢
  exact ⟨ac, kc, gt, kt, gs, ks, rfl, h2.shape, h5.shape, hs1, h4, hs5, h6⟩
end Go.Proofs.Ytcombolmacokbaa
