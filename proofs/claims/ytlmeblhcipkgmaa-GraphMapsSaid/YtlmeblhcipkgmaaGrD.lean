/- How far it is along pairs; the least of the shortest circles. Plain lists and numbers. Conditions: those of each theorem, as typed. -/
import Derived.Test.YtlmeblhcipkgmaaGrM
namespace Go.Proofs.Ytlmeblhcipkgmaa

/-- n steps lead from a to k. -/
def Wk (P : List Pr) (k : Int) : Nat → Int → Prop
  | 0, a => a = k
  | n + 1, a => ∃ b, (a, b) ∈ P ∧ Wk P k n b
/-- n steps, and no fewer, but for none. -/
def Dist (P : List Pr) (k : Int) (n : Nat) (a : Int) : Prop := 1 ≤ n ∧ Wk P k n a ∧ ∀ m, 1 ≤ m → m < n → ¬ Wk P k m a
section
variable {P : List Pr} {k a b : Int} {n m : Nat}
theorem Wk.tc : ∀ {n : Nat} {a : Int}, Wk P k (n + 1) a → Tc P a k
  | 0, a, ⟨b, h, e⟩ => by
    have e : b = k := e
    subst e
    exact .one h
  | n + 1, a, ⟨b, h, h2⟩ => by
    have := Wk.tc h2
    exact (Tc.one h).trans this
theorem Wk.snoc : ∀ {n : Nat} {a b c : Int}, Wk P b n a → (b, c) ∈ P → Wk P c (n + 1) a
  | 0, a, b, c, h, hc => by
    have h : a = b := h
    subst h
    exact ⟨c, hc, rfl⟩
  | n + 1, a, b, c, ⟨d, hd, h⟩, hc => ⟨d, hd, Wk.snoc h hc⟩
theorem wk_of_tc {a k : Int} (h : Tc P a k) : ∃ n, 1 ≤ n ∧ Wk P k n a := by
  induction h with
  | one h => exact ⟨1, Nat.le_refl _, _, h, rfl⟩
  | more _ h ih =>
    obtain ⟨n, hn, hw⟩ := ih
    exact ⟨n + 1, by omega, hw.snoc h⟩
theorem tc_iff_wk : Tc P a k ↔ ∃ n, 1 ≤ n ∧ Wk P k n a := by
  refine ⟨wk_of_tc, ?_⟩
  rintro ⟨n, hn, hw⟩
  obtain ⟨m, rfl⟩ : ∃ m, n = m + 1 := ⟨n - 1, by omega⟩
  exact hw.tc
theorem dist_of_wk (hn : 1 ≤ n) (h : Wk P k n a) : ∃ m, m ≤ n ∧ Dist P k m a := by
  induction n using Nat.strongRecOn with
  | ind n ih =>
    by_cases hm : ∃ m, 1 ≤ m ∧ m < n ∧ Wk P k m a
    · obtain ⟨m, h1, h2, h3⟩ := hm
      obtain ⟨q, hq, hd⟩ := ih m h2 h1 h3
      exact ⟨q, by omega, hd⟩
    · exact ⟨n, Nat.le_refl _, hn, h, fun m h1 h2 h3 => hm ⟨m, h1, h2, h3⟩⟩
theorem tc_iff_dist : Tc P a k ↔ ∃ n, Dist P k n a := by
  rw [tc_iff_wk]
  constructor
  · rintro ⟨n, hn, hw⟩
    obtain ⟨m, -, hd⟩ := dist_of_wk hn hw
    exact ⟨m, hd⟩
  · rintro ⟨n, hd⟩
    exact ⟨n, hd.1, hd.2.1⟩
theorem Dist.uniq (h : Dist P k n a) (h' : Dist P k m a) : n = m := by
  rcases Nat.lt_trichotomy n m with hl | hl | hl
  · exact absurd h.2.1 (h'.2.2 n h.1 hl)
  · exact hl
  · exact absurd h'.2.1 (h.2.2 m h'.1 hl)
theorem dist_one : Dist P k 1 a ↔ (a, k) ∈ P := by
  constructor
  · rintro ⟨-, ⟨b, h, e⟩, -⟩
    have e : b = k := e
    subst e
    exact h
  · exact fun h => ⟨Nat.le_refl _, ⟨k, h, rfl⟩, fun m h1 h2 => by omega⟩
/-- One step further: a step leads to something that is so far, and the thing itself is no nearer. -/
theorem dist_succ (hn : 1 ≤ n) : Dist P k (n + 1) a ↔ (∃ b, (a, b) ∈ P ∧ b ≠ k ∧ Dist P k n b) ∧ ∀ m, 1 ≤ m → m ≤ n → ¬ Dist P k m a := by
  constructor
  · rintro ⟨h1, ⟨b, hb, hw⟩, h2⟩
    have h3 : ∀ m, 1 ≤ m → m ≤ n → ¬ Dist P k m a := fun m hm hmn hd => h2 m hm (by omega) hd.2.1
    have hbk : b ≠ k := by
      rintro rfl
      exact h2 1 (Nat.le_refl _) (by omega) ⟨b, hb, rfl⟩
    refine ⟨⟨b, hb, hbk, hn, hw, fun m hm hmn hwm => ?_⟩, h3⟩
    exact h2 (m + 1) (by omega) (by omega) ⟨b, hb, hwm⟩
  · rintro ⟨⟨b, hb, -, hd⟩, h⟩
    refine ⟨by omega, ⟨b, hb, hd.2.1⟩, fun m hm hmn hw => ?_⟩
    obtain ⟨q, hq, hq2⟩ := dist_of_wk hm hw
    exact h q hq2.1 (by omega) hq2
theorem Dist.next (h : Dist P k (n + 1) a) (hn : 1 ≤ n) : ∃ b, (a, b) ∈ P ∧ b ≠ k ∧ Dist P k n b := ((dist_succ hn).1 h).1
theorem Dist.head (h : Dist P k n a) : ∃ b, (a, b) ∈ P := by
  obtain ⟨m, rfl⟩ : ∃ m, n = m + 1 := ⟨n - 1, by have := h.1; omega⟩
  obtain ⟨b, hb, -⟩ := h.2.1
  exact ⟨b, hb⟩
/-- As far as there are nodes, and no further. -/
theorem dist_path : ∀ {n : Nat} {a : Int}, Dist P k n a → ∃ l : List Int, l.length = n ∧ l.Nodup ∧ (∀ x ∈ l, ∃ b, (x, b) ∈ P) ∧ ∀ x ∈ l, ∃ m, m ≤ n ∧ Dist P k m x
  | 0, a, h => absurd h.1 (by omega)
  | 1, a, h => ⟨[a], rfl, by simp, fun x hx => by simp at hx; subst hx; exact h.head, fun x hx => by simp at hx; subst hx; exact ⟨1, Nat.le_refl _, h⟩⟩
  | n + 2, a, h => by
    obtain ⟨b, hb, hbk, hd⟩ := h.next (by omega)
    obtain ⟨l, h1, h2, h3, h4⟩ := dist_path hd
    refine ⟨a :: l, by simp [h1], List.nodup_cons.2 ⟨fun ha => ?_, h2⟩, fun x hx => ?_, fun x hx => ?_⟩
    · obtain ⟨m, hm, hdm⟩ := h4 a ha
      have := h.uniq hdm
      omega
    · rcases List.mem_cons.1 hx with rfl | hx
      · exact ⟨b, hb⟩
      · exact h3 x hx
    · rcases List.mem_cons.1 hx with rfl | hx
      · exact ⟨n + 2, Nat.le_refl _, h⟩
      · obtain ⟨m, hm, hdm⟩ := h4 x hx
        exact ⟨m, by omega, hdm⟩
theorem Dist.le {N : List Int} (h : Dist P k n a) (hN : ∀ x ∈ P, x.1 ∈ N) : n ≤ N.length := by
  obtain ⟨l, h1, h2, h3, -⟩ := dist_path h
  rw [← h1]
  exact nodup_le h2 fun x hx => by
    obtain ⟨b, hb⟩ := h3 x hx
    exact hN _ hb
end

/-- The way on, from a, that is n steps from k: each time the least of those that are one step nearer. -/
def Chain (P : List Pr) (k : Int) : Nat → Int → List Int → Prop
  | 0, _, l => l = []
  | 1, _, l => l = []
  | n + 2, a, l => ∃ b r, l = b :: r ∧ (a, b) ∈ P ∧ b ≠ k ∧ Dist P k (n + 1) b ∧ (∀ c, c < b → (a, c) ∈ P → ¬ (c ≠ k ∧ Dist P k (n + 1) c)) ∧ Chain P k (n + 1) b r
theorem Chain.uniq {P : List Pr} {k : Int} : ∀ {n : Nat} {a : Int} {l l' : List Int}, Chain P k n a l → Chain P k n a l' → l = l'
  | 0, _, _, _, h, h' => by unfold Chain at h h'; rw [h, h']
  | 1, _, _, _, h, h' => by unfold Chain at h h'; rw [h, h']
  | n + 2, a, _, _, ⟨b, r, e, h1, h2, h3, h4, h5⟩, ⟨b', r', e', h1', h2', h3', h4', h5'⟩ => by
    have hb : b = b' := by
      rcases Int.lt_trichotomy b b' with hl | hl | hl
      · exact absurd ⟨h2, h3⟩ (h4' b hl h1)
      · exact hl
      · exact absurd ⟨h2', h3'⟩ (h4 b' hl h1')
    subst hb
    rw [e, e', h5.uniq h5']
theorem Chain.length {P : List Pr} {k : Int} : ∀ {n : Nat} {a : Int} {l : List Int}, Chain P k (n + 1) a l → l.length = n
  | 0, _, _, h => by unfold Chain at h; rw [h]; rfl
  | n + 1, a, _, ⟨b, r, e, _, _, _, _, h5⟩ => by rw [e, List.length_cons, h5.length]
/-- The chapter's circle. -/
def IsCyc (P : List Pr) (N : List Int) (c : List Int) : Prop :=
  (c = [] ∧ ∀ k ∈ N, ¬ Tc P k k) ∨ ∃ k n l, k ∈ N ∧ (∀ j ∈ N, j < k → ¬ Tc P j j) ∧ Dist P k n k ∧ Chain P k n k l ∧ c = k :: l
theorem IsCyc.uniq {P : List Pr} {N c c' : List Int} (h : IsCyc P N c) (h' : IsCyc P N c') : c = c' := by
  rcases h with ⟨rfl, h⟩ | ⟨k, n, l, h1, h2, h3, h4, rfl⟩
  · rcases h' with ⟨rfl, -⟩ | ⟨k, n, l, h1, h2, h3, h4, rfl⟩
    · rfl
    · exact absurd (tc_iff_dist.2 ⟨n, h3⟩) (h k h1)
  · rcases h' with ⟨rfl, h⟩ | ⟨k', n', l', h1', h2', h3', h4', rfl⟩
    · exact absurd (tc_iff_dist.2 ⟨n, h3⟩) (h k h1)
    · have hk : k = k' := by
        rcases Int.lt_trichotomy k k' with hl | hl | hl
        · exact absurd (tc_iff_dist.2 ⟨n, h3⟩) (h2' k h1 hl)
        · exact hl
        · exact absurd (tc_iff_dist.2 ⟨n', h3'⟩) (h2 k' h1' hl)
      subst hk
      have hn := h3.uniq h3'
      subst hn
      rw [h4.uniq h4']
theorem IsCyc.nil_iff {P : List Pr} {N c : List Int} (h : IsCyc P N c) : c = [] ↔ ∀ k ∈ N, ¬ Tc P k k := by
  rcases h with ⟨rfl, h⟩ | ⟨k, n, l, h1, h2, h3, h4, rfl⟩
  · exact ⟨fun _ => h, fun _ => rfl⟩
  · simp only [reduceCtorEq, false_iff]
    exact fun h => h k h1 (tc_iff_dist.2 ⟨n, h3⟩)
end Go.Proofs.Ytlmeblhcipkgmaa
