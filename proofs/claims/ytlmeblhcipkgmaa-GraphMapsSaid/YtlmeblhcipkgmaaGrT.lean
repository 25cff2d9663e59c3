/- The least order of a graph's nodes. Plain lists and numbers. Conditions: those of each theorem, as typed. -/
import Derived.Test.YtlmeblhcipkgmaaGrM
import Derived.Test.YtlmeblhcipkgmaaKeysI
namespace Go.Proofs.Ytlmeblhcipkgmaa

/-- All that lead to x stand in the list. -/
def freeB (P : List Pr) (out : List Int) (x : Int) : Bool := P.all fun q => q.2 != x || out.contains q.1
theorem freeB_iff {P : List Pr} {out : List Int} {x : Int} : freeB P out x = true ↔ ∀ a, (a, x) ∈ P → a ∈ out := by
  unfold freeB
  simp only [List.all_eq_true, Bool.or_eq_true, bne_iff_ne, List.contains_eq_mem, decide_eq_true_eq]
  constructor
  · intro h a ha
    rcases h _ ha with h | h
    · exact absurd rfl h
    · exact h
  · rintro h ⟨a, y⟩ hq
    by_cases e : y = x
    · subst e; exact .inr (h a hq)
    · exact .inl e
def okB (P : List Pr) (out : List Int) (x : Int) : Bool := !out.contains x && freeB P out x
theorem okB_iff {P : List Pr} {out : List Int} {x : Int} : okB P out x = true ↔ x ∉ out ∧ ∀ a, (a, x) ∈ P → a ∈ out := by
  unfold okB
  rw [Bool.and_eq_true, freeB_iff]
  simp
def nextF (P : List Pr) (N out : List Int) : Option Int := N.find? (okB P out)
def topoGo (P : List Pr) (N : List Int) : Nat → List Int → Option (List Int)
  | 0, out => some out
  | m + 1, out => match nextF P N out with
    | none => none
    | some x => topoGo P N m (out ++ [x])
def topoF (P : List Pr) (N : List Int) : Option (List Int) := topoGo P N N.length []
theorem topoGo_none {P : List Pr} {N out : List Int} {m : Nat} (h : nextF P N out = none) : topoGo P N (m + 1) out = none := by simp [topoGo, h]
theorem topoGo_some {P : List Pr} {N out : List Int} {m : Nat} {x : Int} (h : nextF P N out = some x) : topoGo P N (m + 1) out = topoGo P N m (out ++ [x]) := by simp [topoGo, h]
/-- What is left. -/
def leftF (N out : List Int) : List Int := N.filter fun x => !out.contains x
theorem mem_left {N out : List Int} {x : Int} : x ∈ leftF N out ↔ x ∈ N ∧ x ∉ out := by unfold leftF; simp
theorem left_nil (N : List Int) : leftF N [] = N := by unfold leftF; simp
theorem next_left {P : List Pr} {N out : List Int} : nextF P N out = (leftF N out).find? (freeB P out) := by
  unfold nextF leftF
  rw [List.find?_filter]
  congr 1
  funext a
  unfold okB
  cases (!out.contains a) <;> cases freeB P out a <;> rfl
theorem srt_left {N : List Int} (h : SrtI N) (out : List Int) : SrtI (leftF N out) := List.Pairwise.filter _ h
theorem left_erase {N out : List Int} {i : Nat} {x : Int} (h : SrtI N) (hx : (leftF N out)[i]? = some x) : (leftF N out).eraseIdx i = leftF N (out ++ [x]) := by
  have hs := srt_left h out
  refine SrtI.ext (List.Pairwise.sublist (List.eraseIdx_sublist _ _) hs) (srt_left h _) fun y => ?_
  rw [mem_left, List.mem_append, List.mem_singleton]
  have hi := (List.getElem?_eq_some_iff.1 hx).1
  have hxi : (leftF N out)[i] = x := (List.getElem?_eq_some_iff.1 hx).2
  rw [List.mem_eraseIdx_iff_getElem]
  constructor
  · rintro ⟨j, hj, hne, rfl⟩
    have hm := mem_left.1 (List.getElem_mem hj)
    refine ⟨hm.1, ?_⟩
    rintro (h1 | h1)
    · exact hm.2 h1
    · have hnd := (SrtI.nodup hs)
      exact hne ((List.getElem_inj hnd).1 (h1.trans hxi.symm))
  · rintro ⟨h1, h2⟩
    have hm : y ∈ leftF N out := mem_left.2 ⟨h1, fun h => h2 (.inl h)⟩
    obtain ⟨j, hj, e⟩ := List.getElem_of_mem hm
    refine ⟨j, hj, ?_, e⟩
    rintro rfl
    exact h2 (.inr (by rw [← e, ← hxi]))
theorem left_length {N out : List Int} {i : Nat} {x : Int} (h : SrtI N) (hx : (leftF N out)[i]? = some x) : (leftF N (out ++ [x])).length + 1 = (leftF N out).length := by
  rw [← left_erase h hx]
  have hi := (List.getElem?_eq_some_iff.1 hx).1
  rw [List.length_eraseIdx, if_pos hi]
  omega
/-- The first of a list of which it is so. -/
theorem find_at {l : List Int} {p : Int → Bool} {i : Nat} {x : Int} (hx : l[i]? = some x) (hp : p x = true) (hn : ∀ y ∈ l.take i, p y = false) : l.find? p = some x := by
  have h : l = l.take i ++ x :: l.drop (i + 1) := by
    have hi := (List.getElem?_eq_some_iff.1 hx).1
    have := (List.getElem?_eq_some_iff.1 hx).2
    rw [← this, ← List.drop_eq_getElem_cons hi, List.take_append_drop]
  rw [h, List.find?_append, List.find?_eq_none.2 fun y hy => by rw [hn y hy]; simp]
  simp [hp]
theorem find_none {l : List Int} {p : Int → Bool} (hn : ∀ y ∈ l, p y = false) : l.find? p = none := List.find?_eq_none.2 fun y hy => by rw [hn y hy]; simp

/-! ### how many lead to something -/
def indeg (P : List Pr) (p : Int → Bool) (x : Int) : Nat := (P.filter fun q => q.2 == x && p q.1).length
theorem indeg_none (P : List Pr) (p : Int → Bool) (x : Int) (h : ∀ a, p a = false) : indeg P p x = 0 := by
  unfold indeg
  rw [List.filter_eq_nil_iff.2 fun q _ => by simp [h q.1], List.length_nil]
theorem indeg_le (P : List Pr) (p : Int → Bool) (x : Int) : indeg P p x ≤ P.length := List.length_filter_le _ _
theorem indeg_congr {P : List Pr} {p p' : Int → Bool} {x : Int} (h : ∀ a, (a, x) ∈ P → p a = p' a) : indeg P p x = indeg P p' x := by
  unfold indeg
  congr 1
  refine List.filter_congr fun q hq => ?_
  by_cases e : q.2 = x
  · rw [h q.1 (by rw [← e]; exact hq)]
  · have : (q.2 == x) = false := by simpa using e
    simp [this]
theorem indeg_zero {P : List Pr} {p : Int → Bool} {x : Int} : indeg P p x = 0 ↔ ∀ a, (a, x) ∈ P → p a = false := by
  unfold indeg
  rw [List.length_eq_zero_iff, List.filter_eq_nil_iff]
  constructor
  · intro h a ha
    have := h _ ha
    simpa using this
  · rintro h ⟨a, y⟩ hq
    simp only [Bool.and_eq_true, beq_iff_eq, not_and]
    rintro rfl
    rw [h a hq]
    simp
theorem indeg_one {P : List Pr} (hP : P.Nodup) {p p' : Int → Bool} (a x : Int) (ha : p a = false) (h : ∀ z, p' z = (p z || z == a)) : indeg P p' x = indeg P p x + if (a, x) ∈ P then 1 else 0 := by
  induction P with
  | nil => simp [indeg]
  | cons q P ih =>
    obtain ⟨hq, hP⟩ := List.nodup_cons.1 hP
    have ih := ih hP
    have e : ∀ p : Int → Bool, indeg (q :: P) p x = (if (q.2 == x && p q.1) = true then 1 else 0) + indeg P p x := fun p => by
      unfold indeg
      cases hc : (q.2 == x && p q.1) <;> simp [List.filter_cons, hc]; omega
    rw [e, e, ih, h]
    obtain ⟨q1, q2⟩ := q
    by_cases e1 : q2 = x
    · subst e1
      by_cases e2 : q1 = a
      · subst e2
        simp only [List.mem_cons, true_or, if_true, ha, beq_self_eq_true, Bool.and_false, Bool.false_or, Bool.and_true]
        rw [if_neg hq]
        simp; omega
      · have e3 : (q1 == a) = false := by simpa using e2
        have e4 : ((a, q2) ∈ (q1, q2) :: P) ↔ (a, q2) ∈ P := by simp [Ne.symm e2]
        simp only [e3, Bool.or_false, e4]
        omega
    · have e3 : (q2 == x) = false := by simpa using e1
      have e4 : ((a, x) ∈ (q1, q2) :: P) ↔ (a, x) ∈ P := by simp [Ne.symm e1]
      simp only [e3, Bool.false_and, e4]
      simp
theorem indeg_less {P : List Pr} (hP : P.Nodup) {p p' : Int → Bool} (a x : Int) (ha : p a = true) (h : ∀ z, p' z = (p z && !(z == a))) : indeg P p x = indeg P p' x + if (a, x) ∈ P then 1 else 0 :=
  indeg_one hP a x (by rw [h]; simp) fun z => by
    rw [h]
    by_cases e : z = a
    · subst e; simp [ha]
    · have : (z == a) = false := by simpa using e
      simp [this]

/-- A list of how many. -/
structure DegIs (N : List Int) (D : List (Int × Int)) (c : Int → Nat) : Prop where
  srt : KSrt D
  keys : ∀ q ∈ D, q.1 ∈ N
  at' : ∀ x, (fnd x D).getD 0 = (c x : Int)
theorem DegIs.nil (N : List Int) (c : Int → Nat) (h : ∀ x, c x = 0) : DegIs N [] c := ⟨List.Pairwise.nil, fun _ h => by simp at h, fun x => by simp [fnd, h]⟩
theorem DegIs.congr {N : List Int} {D : List (Int × Int)} {c c' : Int → Nat} (h : DegIs N D c) (hc : ∀ x, c' x = c x) : DegIs N D c' := ⟨h.srt, h.keys, fun x => by rw [h.at', hc]⟩
theorem DegIs.put {N : List Int} {D : List (Int × Int)} {c c' : Int → Nat} (h : DegIs N D c) {b : Int} (hb : b ∈ N) {v : Int} (hv : v = (c' b : Int)) (hc : ∀ x, x ≠ b → c' x = c x) : DegIs N (upd b v D) c' := by
  refine ⟨srt_upd h.srt, fun q hq => ?_, fun x => ?_⟩
  · rcases (mem_upd h.srt).1 hq with e | ⟨hq, -⟩
    · rw [e]; exact hb
    · exact h.keys q hq
  · by_cases e : x = b
    · subst e; rw [fnd_upd_same h.srt, hv]; rfl
    · rw [fnd_upd_other h.srt e, h.at', hc x e]
theorem DegIs.length {N : List Int} {D : List (Int × Int)} {c : Int → Nat} (h : DegIs N D c) : D.length ≤ N.length := by
  have h1 : (D.map (·.1)).length ≤ N.length := nodup_le h.srt.keys.nodup fun z hz => by
    obtain ⟨q, hq, rfl⟩ := List.mem_map.1 hz
    exact h.keys q hq
  simpa using h1
end Go.Proofs.Ytlmeblhcipkgmaa
