/- What the law asks of a circle. Plain lists and numbers. Conditions: those of each theorem, as typed. -/
import Derived.Test.YtlmeblhcipkgmaaGrE
namespace Go.Proofs.Ytlmeblhcipkgmaa

section
variable {P : List Pr} {k a : Int}
/-- One step more at the end. -/
theorem wk_snoc_iff : ∀ {n : Nat} {a c : Int}, Wk P c (n + 1) a ↔ ∃ b, Wk P b n a ∧ (b, c) ∈ P
  | 0, a, c => by
    constructor
    · rintro ⟨b, hb, e⟩
      have e : b = c := e
      subst e
      exact ⟨a, rfl, hb⟩
    · rintro ⟨b, e, hb⟩
      have e : a = b := e
      subst e
      exact ⟨c, hb, rfl⟩
  | n + 1, a, c => by
    constructor
    · rintro ⟨d, hd, h⟩
      obtain ⟨b, hb, hp⟩ := wk_snoc_iff.1 h
      exact ⟨b, ⟨d, hd, hb⟩, hp⟩
    · rintro ⟨b, ⟨d, hd, hb⟩, hp⟩
      exact ⟨d, hd, wk_snoc_iff.2 ⟨b, hb, hp⟩⟩
theorem chain_dist : ∀ {n : Nat} {a : Int} {l : List Int}, Dist P k n a → Chain P k n a l → ∀ (i : Nat) (x : Int), (a :: l)[i]? = some x → i < n ∧ Dist P k (n - i) x
  | 0, a, l, hd, _, _, _, _ => absurd hd.1 (by omega)
  | 1, a, l, hd, hc, i, x, hx => by
    unfold Chain at hc
    subst hc
    cases i with
    | zero => simp at hx; subst hx; exact ⟨by omega, hd⟩
    | succ i => simp at hx
  | n + 2, a, l, hd, ⟨b, r, e, h1, h2, h3, h4, h5⟩, i, x, hx => by
    subst e
    cases i with
    | zero => simp at hx; subst hx; exact ⟨by omega, hd⟩
    | succ i =>
      obtain ⟨h6, h7⟩ := chain_dist h3 h5 i x (by simpa using hx)
      exact ⟨by omega, by rw [show n + 2 - (i + 1) = n + 1 - i by omega]; exact h7⟩
theorem chain_next : ∀ {n : Nat} {a : Int} {l : List Int}, Chain P k n a l → ∀ (i : Nat) (x y : Int), (a :: l)[i]? = some x → (a :: l)[i + 1]? = some y → (x, y) ∈ P
  | 0, a, l, hc, i, x, y, hx, hy => by unfold Chain at hc; subst hc; simp at hy
  | 1, a, l, hc, i, x, y, hx, hy => by unfold Chain at hc; subst hc; simp at hy
  | n + 2, a, l, ⟨b, r, e, h1, h2, h3, h4, h5⟩, i, x, y, hx, hy => by
    subst e
    cases i with
    | zero => simp at hx hy; subst hx hy; exact h1
    | succ i => exact chain_next h5 i x y (by simpa using hx) (by simpa using hy)
theorem chain_len : ∀ {n : Nat} {a : Int} {l : List Int}, 1 ≤ n → Chain P k n a l → (a :: l).length = n
  | 0, _, _, h, _ => absurd h (by omega)
  | n + 1, a, l, _, hc => by rw [List.length_cons, hc.length]
/-- What the circle is. -/
structure Ring (P : List Pr) (N : List Int) (c : List Int) : Prop where
  head : ∃ k r, c = k :: r
  least : ∀ k r, c = k :: r → k ∈ N ∧ (∀ j ∈ N, j < k → ¬ Tc P j j) ∧ Dist P k c.length k
  next : ∀ (i : Nat) (x y : Int), c[i]? = some x → c[(i + 1) % c.length]? = some y → (x, y) ∈ P
  nodup : c.Nodup
  sub : ∀ x ∈ c, x ∈ N
  both : ∀ k r, c = k :: r → ∀ x ∈ c, Mut P k x
theorem IsCyc.ring {N c : List Int} (h : IsCyc P N c) (hP : ∀ a b, (a, b) ∈ P → a ∈ N ∧ b ∈ N) : c = [] ∨ Ring P N c := by
  rcases h with ⟨rfl, -⟩ | ⟨k, n, l, h1, h2, h3, h4, rfl⟩
  · exact .inl rfl
  · refine .inr ?_
    have hlen := chain_len h3.1 h4
    have hdist := chain_dist h3 h4
    have hnd : (k :: l).Nodup := by
      unfold List.Nodup
      rw [List.pairwise_iff_getElem]
      intro i j hi hj hij e
      have q1 := hdist i _ (List.getElem?_eq_getElem hi)
      have q2 := hdist j _ (List.getElem?_eq_getElem hj)
      rw [e] at q1
      have := q1.2.uniq q2.2
      omega
    have hnext : ∀ (i : Nat) (x y : Int), (k :: l)[i]? = some x → (k :: l)[(i + 1) % (k :: l).length]? = some y → (x, y) ∈ P := by
      intro i x y hx hy
      have hi := (List.getElem?_eq_some_iff.1 hx).1
      by_cases hl : i + 1 = (k :: l).length
      · rw [hl, Nat.mod_self] at hy
        simp at hy
        subst hy
        obtain ⟨-, hd⟩ := hdist i x hx
        rw [show n - i = 1 by omega] at hd
        exact dist_one.1 hd
      · rw [Nat.mod_eq_of_lt (by omega)] at hy
        exact chain_next h4 i x y hx hy
    have htc : ∀ x ∈ k :: l, Tc P x k := fun x hx => by
      obtain ⟨i, hi⟩ := List.mem_iff_getElem?.1 hx
      exact tc_iff_dist.2 ⟨_, (hdist i x hi).2⟩
    have hfwd : ∀ (i : Nat) (x : Int), (k :: l)[i]? = some x → k = x ∨ Tc P k x := by
      intro i
      induction i with
      | zero => intro x hx; simp at hx; exact .inl hx
      | succ i ih =>
        intro x hx
        have hi := (List.getElem?_eq_some_iff.1 hx).1
        obtain ⟨y, hy⟩ : ∃ y, (k :: l)[i]? = some y := ⟨_, List.getElem?_eq_getElem (by omega)⟩
        have hp := chain_next h4 i y x hy hx
        rcases ih y hy with rfl | ht
        · exact .inr (.one hp)
        · exact .inr (.more ht hp)
    refine ⟨⟨k, l, rfl⟩, ?_, hnext, hnd, fun x hx => ?_, ?_⟩
    · rintro k' r e
      simp only [List.cons.injEq] at e
      obtain ⟨rfl, rfl⟩ := e
      rw [hlen]
      exact ⟨h1, h2, h3⟩
    · obtain ⟨z, hz⟩ := (htc x hx).head
      exact (hP _ _ hz).1
    · rintro k' r e x hx
      simp only [List.cons.injEq] at e
      obtain ⟨rfl, rfl⟩ := e
      obtain ⟨i, hi⟩ := List.mem_iff_getElem?.1 hx
      rcases hfwd i x hi with e | ht
      · exact .inl e
      · exact .inr ⟨ht, htc x hx⟩
theorem Ring.place {N c : List Int} (h : Ring P N c) {i : Nat} {x z : Int} (hx : c[i]? = some x) (hz : PlcIs c x z) : z = i := by
  rcases hz with ⟨-, hz⟩ | ⟨j, rfl, hj⟩
  · exact absurd (List.mem_of_getElem? hx) hz
  · obtain ⟨hi', ei⟩ := List.getElem?_eq_some_iff.1 hx
    obtain ⟨hj', ej⟩ := List.getElem?_eq_some_iff.1 hj
    rw [(List.getElem_inj h.nodup).1 (ej.trans ei.symm)]
/-- Those that are met behind n steps. -/
def Met (P : List Pr) (k : Int) (n : Nat) (t : List Int) : Prop := t.Nodup ∧ ∀ x, x ∈ t ↔ Wk P x n k
theorem Met.zero (P : List Pr) (k : Int) : Met P k 0 [k] := ⟨by simp, fun x => by
  rw [List.mem_singleton]
  exact ⟨fun h => h.symm, fun h => Eq.symm h⟩⟩
/-- As far as the rows of the first i have been looked at. -/
def Part (P : List Pr) (at' : List Int) (i : Nat) (to : List Int) : Prop := to.Nodup ∧ ∀ x, x ∈ to ↔ ∃ y ∈ at'.take i, (y, x) ∈ P
theorem Part.zero (P : List Pr) (at' : List Int) : Part P at' 0 [] := ⟨by simp, fun x => by simp⟩
theorem Part.done {at' to : List Int} {n : Nat} (h : Part P at' at'.length to) (hm : Met P k n at') : Met P k (n + 1) to := ⟨h.1, fun x => by
  rw [h.2, List.take_length, wk_snoc_iff]
  constructor
  · rintro ⟨y, hy, hp⟩; exact ⟨y, (hm.2 y).1 hy, hp⟩
  · rintro ⟨y, hy, hp⟩; exact ⟨y, (hm.2 y).2 hy, hp⟩⟩
/-- As far as the first j of a row have been looked at. -/
def Step (to0 o : List Int) (j : Nat) (to : List Int) : Prop := to.Nodup ∧ ∀ x, x ∈ to ↔ x ∈ to0 ∨ x ∈ o.take j
theorem Step.zero {to0 : List Int} (h : to0.Nodup) (o : List Int) : Step to0 o 0 to0 := ⟨h, fun x => by simp⟩
theorem Step.skip {to0 o to : List Int} {j : Nat} {x : Int} (h : Step to0 o j to) (hx : o[j]? = some x) (hm : x ∈ to) : Step to0 o (j + 1) to := ⟨h.1, fun y => by
  rw [mem_take_step hx, h.2]
  constructor
  · rintro (h1 | h1)
    · exact .inl h1
    · exact .inr (.inl h1)
  · rintro (h1 | h1 | rfl)
    · exact .inl h1
    · exact .inr h1
    · exact (h.2 y).1 hm⟩
theorem Step.add {to0 o to : List Int} {j : Nat} {x : Int} (h : Step to0 o j to) (hx : o[j]? = some x) (hm : x ∉ to) : Step to0 o (j + 1) (to ++ [x]) := ⟨List.nodup_append.2 ⟨h.1, by simp, fun a ha b hb => by simp at hb; subst hb; rintro rfl; exact hm ha⟩, fun y => by
  rw [mem_take_step hx, List.mem_append, List.mem_singleton, h.2]
  constructor
  · rintro ((h1 | h1) | h1)
    · exact .inl h1
    · exact .inr (.inl h1)
    · exact .inr (.inr h1)
  · rintro (h1 | h1 | h1)
    · exact .inl (.inl h1)
    · exact .inl (.inr h1)
    · exact .inr h1⟩
theorem Step.done {at' to0 to : List Int} {i : Nat} {y : Int} (hp : Part P at' i to0) (hy : at'[i]? = some y) (h : Step to0 (row P y) (row P y).length to) : Part P at' (i + 1) to := ⟨h.1, fun x => by
  rw [h.2, List.take_length, hp.2, mem_row]
  constructor
  · rintro (⟨z, hz, hp⟩ | hp)
    · exact ⟨z, (mem_take_step hy).2 (.inl hz), hp⟩
    · exact ⟨y, (mem_take_step hy).2 (.inr rfl), hp⟩
  · rintro ⟨z, hz, hp⟩
    rcases (mem_take_step hy).1 hz with hz | rfl
    · exact .inl ⟨z, hz, hp⟩
    · exact .inr hp⟩
/-- Behind n steps, 1 ≤ n ≤ the circle's length, the head is met, or it is not. -/
theorem Ring.met {N c r : List Int} (h : Ring P N c) (hc : c = k :: r) {n : Nat} {t : List Int} (hm : Met P k n t) (h1 : 1 ≤ n) (h2 : n ≤ c.length) : k ∈ t ↔ n = c.length := by
  obtain ⟨-, -, hd⟩ := h.least k r hc
  rw [hm.2]
  constructor
  · intro hw
    apply Classical.byContradiction
    intro hne
    exact hd.2.2 n h1 (by omega) hw
  · rintro rfl
    exact hd.2.1
end
end Go.Proofs.Ytlmeblhcipkgmaa
