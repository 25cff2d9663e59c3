/- An order, or a circle: what the laws ask of a graph. Plain lists and numbers. Conditions: those of each theorem, as typed. -/
import Derived.Test.YtlmeblhcipkgmaaGrT
import Derived.Test.YtlmeblhcipkgmaaGrQ
import Derived.Test.YtlmeblhcipkgmaaGrD
namespace Go.Proofs.Ytlmeblhcipkgmaa

section
variable {P : List Pr} {N l : List Int}
/-- A list that the order has made. -/
def TopoIs (P : List Pr) (N l : List Int) : Prop := l.length = N.length ∧ ∀ (i : Nat) (x : Int), l[i]? = some x → nextF P N (l.take i) = some x
theorem topoGo_is : ∀ {m : Nat} {out : List Int}, topoGo P N m out = some l → ∃ r, l = out ++ r ∧ r.length = m ∧ ∀ (i : Nat) (x : Int), r[i]? = some x → nextF P N (out ++ r.take i) = some x
  | 0, out, h => ⟨[], by simpa [topoGo] using h.symm, rfl, fun i x hx => by simp at hx⟩
  | m + 1, out, h => by
    unfold topoGo at h
    cases hn : nextF P N out with
    | none => rw [hn] at h; cases h
    | some x =>
      rw [hn] at h
      obtain ⟨r, h1, h2, h3⟩ := topoGo_is h
      refine ⟨x :: r, by rw [h1]; simp, by simp [h2], fun i y hy => ?_⟩
      cases i with
      | zero =>
        simp only [List.getElem?_cons_zero, Option.some.injEq] at hy
        subst hy
        simpa using hn
      | succ i =>
        have := h3 i y (by simpa using hy)
        simpa using this
theorem topoF_is (h : topoF P N = some l) : TopoIs P N l := by
  obtain ⟨r, h1, h2, h3⟩ := topoGo_is h
  simp only [List.nil_append] at h1 h3
  subst h1
  exact ⟨h2, h3⟩
theorem next_yes {out : List Int} {x : Int} (h : nextF P N out = some x) : x ∈ N ∧ x ∉ out ∧ ∀ a, (a, x) ∈ P → a ∈ out :=
  ⟨List.mem_of_find?_eq_some h, okB_iff.1 (List.find?_some h)⟩
theorem next_least {out : List Int} {x y : Int} (h : nextF P N out = some x) (hs : SrtI N) (hy : y ∈ N) (hlt : y < x) : okB P out y = false := by
  obtain ⟨-, l1, l2, rfl, hno⟩ := List.find?_eq_some_iff_append.1 h
  have hs' := List.pairwise_append.1 hs
  rcases List.mem_append.1 hy with hy | hy
  · simpa using hno y hy
  · exfalso
    rcases List.mem_cons.1 hy with rfl | hy
    · omega
    · have := (List.pairwise_cons.1 hs'.2.1).1 y hy
      omega
theorem TopoIs.nodup (h : TopoIs P N l) : l.Nodup := by
  unfold List.Nodup
  rw [List.pairwise_iff_getElem]
  intro i j hi hj hij e
  have hx := List.getElem?_eq_getElem hi
  have h1 := next_yes (h.2 j _ ((List.getElem?_eq_getElem hj).trans (congrArg some e.symm)))
  exact h1.2.1 (List.mem_iff_getElem?.2 ⟨i, by rw [List.getElem?_take_of_lt hij, hx]⟩)
theorem TopoIs.sub (h : TopoIs P N l) : ∀ x ∈ l, x ∈ N := fun x hx => by
  obtain ⟨i, hi⟩ := List.mem_iff_getElem?.1 hx
  exact (next_yes (h.2 i x hi)).1
/-- A list without a thing twice, as long as another that holds all of it, holds all of that one. -/
theorem all_of_len {l m : List Int} (h : l.Nodup) (hs : ∀ x ∈ l, x ∈ m) (hl : m.length ≤ l.length) : ∀ x ∈ m, x ∈ l := fun x hx => by
  by_cases hxl : x ∈ l
  · exact hxl
  · exfalso
    have := nodup_le (l := x :: l) (m := m) (List.nodup_cons.2 ⟨hxl, h⟩) fun y hy => by
      rcases List.mem_cons.1 hy with rfl | hy
      · exact hx
      · exact hs y hy
    simp at this
    omega
theorem TopoIs.all (h : TopoIs P N l) : ∀ x ∈ N, x ∈ l := all_of_len h.nodup h.sub (by rw [h.1]; exact Nat.le_refl _)
/-- Each edge leads on. -/
theorem TopoIs.lead (h : TopoIs P N l) {a x : Int} {i : Nat} (hx : l[i]? = some x) (hp : (a, x) ∈ P) : ∃ j, j < i ∧ l[j]? = some a := by
  have := (next_yes (h.2 i x hx)).2.2 a hp
  obtain ⟨j, hj⟩ := List.mem_iff_getElem?.1 this
  rw [List.getElem?_take] at hj
  by_cases hji : j < i
  · exact ⟨j, hji, by simpa [hji] using hj⟩
  · simp [hji] at hj
theorem TopoIs.tc (h : TopoIs P N l) {a x : Int} (ht : Tc P a x) : ∀ i : Nat, l[i]? = some x → ∃ j : Nat, j < i ∧ l[j]? = some a := by
  induction ht with
  | one hp => exact fun i hx => h.lead hx hp
  | more _ hp ih =>
    intro i hx
    obtain ⟨j, hj, hy⟩ := h.lead hx hp
    obtain ⟨q, hq, hz⟩ := ih j hy
    exact ⟨q, by omega, hz⟩
theorem TopoIs.same (h : TopoIs P N l) {i j : Nat} {x : Int} (hi : l[i]? = some x) (hj : l[j]? = some x) : i = j := by
  obtain ⟨hi', ei⟩ := List.getElem?_eq_some_iff.1 hi
  obtain ⟨hj', ej⟩ := List.getElem?_eq_some_iff.1 hj
  exact (List.getElem_inj h.nodup).1 (ei.trans ej.symm)
/-- A greater one ahead of a lesser one: an edge leads to the lesser one from the greater, or from behind it. -/
theorem TopoIs.held (h : TopoIs P N l) (hs : SrtI N) {k i : Nat} {x y : Int} (hki : k < i) (hx : l[k]? = some x) (hy : l[i]? = some y) (hlt : y < x) : ∃ j z, k ≤ j ∧ j < i ∧ l[j]? = some z ∧ (z, y) ∈ P := by
  have h1 := next_least (h.2 k x hx) hs (next_yes (h.2 i y hy)).1 hlt
  have hno : y ∉ l.take k := fun hm => by
    obtain ⟨j, hj⟩ := List.mem_iff_getElem?.1 hm
    rw [List.getElem?_take] at hj
    by_cases hjk : j < k
    · have := h.same (by simpa [hjk] using hj) hy
      omega
    · simp [hjk] at hj
  have hex : ∃ a, (a, y) ∈ P ∧ a ∉ l.take k := by
    apply Classical.byContradiction
    intro hne
    have : okB P (l.take k) y = true := okB_iff.2 ⟨hno, fun a ha => Classical.byContradiction fun hm => hne ⟨a, ha, hm⟩⟩
    rw [h1] at this
    cases this
  obtain ⟨a, ha, hm⟩ := hex
  obtain ⟨j, hj, hz⟩ := h.lead hy ha
  refine ⟨j, a, ?_, hj, hz, ha⟩
  by_cases hjk : k ≤ j
  · exact hjk
  · exact absurd (List.mem_iff_getElem?.2 ⟨j, by rw [List.getElem?_take_of_lt (by omega), hz]⟩) hm

/-- The least along something that has no circle. -/
theorem least_of {R : Int → Int → Prop} (hir : ∀ a, ¬ R a a) (htr : ∀ a b c, R a b → R b c → R a c) : ∀ l : List Int, l ≠ [] → ∃ m ∈ l, ∀ a ∈ l, ¬ R a m
  | [], h => absurd rfl h
  | [x], _ => ⟨x, by simp, fun a ha => by simp at ha; subst ha; exact hir a⟩
  | x :: y :: l, _ => by
    obtain ⟨m, hm, hno⟩ := least_of hir htr (y :: l) (by simp)
    by_cases hxm : R x m
    · refine ⟨x, by simp, fun a ha hax => ?_⟩
      rcases List.mem_cons.1 ha with rfl | ha
      · exact hir _ hax
      · exact hno a ha (htr a x m hax hxm)
    · refine ⟨m, List.mem_cons.2 (.inr hm), fun a ha => ?_⟩
      rcases List.mem_cons.1 ha with rfl | ha
      · exact hxm
      · exact hno a ha
theorem stuck_tc {out : List Int} (hP : ∀ a b, (a, b) ∈ P → a ∈ N) (hn : nextF P N out = none) (hne : leftF N out ≠ []) : ∃ k ∈ N, Tc P k k := by
  apply Classical.byContradiction
  intro hno
  have hir : ∀ a, ¬ Tc P a a := fun a h => by
    obtain ⟨c, hc⟩ := h.head
    exact hno ⟨a, hP _ _ hc, h⟩
  obtain ⟨m, hm, hmin⟩ := least_of hir (fun a b c h k => h.trans k) (leftF N out) hne
  have h1 := List.find?_eq_none.1 hn m (mem_left.1 hm).1
  refine h1 (okB_iff.2 ⟨(mem_left.1 hm).2, fun a ha => ?_⟩)
  apply Classical.byContradiction
  intro hao
  exact hmin a (mem_left.2 ⟨hP _ _ ha, hao⟩) (.one ha)
theorem topoGo_none_tc (hs : SrtI N) (hP : ∀ a b, (a, b) ∈ P → a ∈ N) : ∀ {m : Nat} {out : List Int}, out.length + m = N.length → topoGo P N m out = none → ∃ k ∈ N, Tc P k k
  | 0, out, _, h => by simp [topoGo] at h
  | m + 1, out, hl, h => by
    unfold topoGo at h
    cases hn : nextF P N out with
    | none =>
      refine stuck_tc hP hn fun e => ?_
      have := nodup_le (SrtI.nodup hs) (m := out) fun x hx => Classical.byContradiction fun hxo => by
        have := mem_left.2 ⟨hx, hxo⟩
        rw [e] at this
        simp at this
      omega
    | some x =>
      rw [hn] at h
      exact topoGo_none_tc hs hP (by simp; omega) h
theorem topo_none (hs : SrtI N) (hP : ∀ a b, (a, b) ∈ P → a ∈ N) : topoF P N = none ↔ ∃ k ∈ N, Tc P k k := by
  refine ⟨topoGo_none_tc hs hP (by simp), ?_⟩
  rintro ⟨k, hk, ht⟩
  cases h : topoF P N with
  | none => rfl
  | some l =>
    have hl := topoF_is h
    obtain ⟨i, hi⟩ := List.mem_iff_getElem?.1 (hl.all k hk)
    obtain ⟨j, hj, hz⟩ := hl.tc ht i hi
    have := hl.same hi hz
    omega
theorem topo_some (hs : SrtI N) (hP : ∀ a b, (a, b) ∈ P → a ∈ N) : (topoF P N).isSome = true ↔ ∀ k ∈ N, ¬ Tc P k k := by
  have := topo_none hs hP
  cases h : topoF P N with
  | none =>
    obtain ⟨k, hk, ht⟩ := this.1 h
    simp only [Option.isSome_none, Bool.false_eq_true, false_iff]
    exact fun hn => hn k hk ht
  | some l =>
    simp only [Option.isSome_some, true_iff]
    intro k hk ht
    rw [h] at this
    have := this.2 ⟨k, hk, ht⟩
    cases this

/-! ### the parts -/
theorem partsGo_mem : ∀ {r d : List Int} {q : List Int}, q ∈ partsGo P N r d → ∃ a ∈ r, q = partOf P N a
  | [], d, q, h => by simp [partsGo] at h
  | b :: r, d, q, h => by
    by_cases hb : b ∈ d
    · rw [partsGo_in hb] at h
      obtain ⟨a, ha, e⟩ := partsGo_mem h
      exact ⟨a, List.mem_cons.2 (.inr ha), e⟩
    · rw [partsGo_out hb] at h
      rcases List.mem_cons.1 h with h | h
      · exact ⟨b, by simp, h⟩
      · obtain ⟨a, ha, e⟩ := partsGo_mem h
        exact ⟨a, List.mem_cons.2 (.inr ha), e⟩
theorem parts_mem {q : List Int} (h : q ∈ partsF P N) : ∃ a ∈ N, q = partOf P N a := partsGo_mem h
theorem partsGo_has : ∀ {r d : List Int} {a : Int}, a ∈ r → a ∈ N → a ∈ d ∨ ∃ q ∈ partsGo P N r d, a ∈ q
  | [], d, a, h, _ => by simp at h
  | b :: r, d, a, h, hN => by
    by_cases hb : b ∈ d
    · rw [partsGo_in hb]
      rcases List.mem_cons.1 h with rfl | h
      · exact .inl hb
      · exact partsGo_has h hN
    · rw [partsGo_out hb]
      by_cases hab : a ∈ partOf P N b
      · exact .inr ⟨_, by simp, hab⟩
      · rcases List.mem_cons.1 h with rfl | h
        · exact absurd (mem_partOf.2 ⟨hN, Mut.refl P a⟩) hab
        · rcases partsGo_has (d := d ++ partOf P N b) h hN with h | ⟨q, hq, haq⟩
          · rcases List.mem_append.1 h with h | h
            · exact .inl h
            · exact absurd h hab
          · exact .inr ⟨q, List.mem_cons.2 (.inr hq), haq⟩
theorem parts_has {a : Int} (h : a ∈ N) : ∃ q ∈ partsF P N, a ∈ q := by
  rcases partsGo_has (P := P) (d := []) h h with h | h
  · simp at h
  · exact h
theorem tc_back {k : Int} (h : Tc P k k) : ∃ b, (k, b) ∈ P ∧ Tc P b k ∨ (k, k) ∈ P := by
  have : ∀ {a b : Int}, Tc P a b → (∃ c, (a, c) ∈ P ∧ Tc P c b) ∨ (a, b) ∈ P := by
    intro a b h
    induction h with
    | one h => exact .inr h
    | more _ h ih =>
      rcases ih with ⟨c, hc, ht⟩ | hp
      · exact .inl ⟨c, hc, .more ht h⟩
      · exact .inl ⟨_, hp, .one h⟩
  rcases this h with ⟨c, hc⟩ | h
  · exact ⟨c, .inl hc⟩
  · exact ⟨k, .inr h⟩
/-- One alone, that does not lead to itself. -/
def oneB (E : List Tr) (q : List Int) : Bool := q.length == 1 && (kindsOf E (q.headD 0) (q.headD 0)).length == 0
theorem kinds_zero {E : List Tr} {a b : Int} : (kindsOf E a b).length = 0 ↔ (a, b) ∉ prs E := by
  rw [List.length_eq_zero_iff, List.eq_nil_iff_forall_not_mem]
  constructor
  · intro h hp
    obtain ⟨k, hk⟩ := mem_prs.1 hp
    exact h k (mem_kindsOf.2 hk)
  · exact fun h k hk => h (mem_prs.2 ⟨k, mem_kindsOf.1 hk⟩)
theorem single_iff {E : List Tr} (hok : GrOk N E) : (partsF (prs E) N).all (oneB E) = true ↔ ∀ k ∈ N, ¬ Tc (prs E) k k := by
  rw [List.all_eq_true]
  constructor
  · intro h k hk ht
    obtain ⟨q, hq, hkq⟩ := parts_has (P := prs E) hk
    have h1 := h q hq
    unfold oneB at h1
    simp only [Bool.and_eq_true, beq_iff_eq] at h1
    obtain ⟨a, ha, rfl⟩ := parts_mem hq
    obtain ⟨z, hz⟩ := List.length_eq_one_iff.1 h1.1
    rw [hz] at hkq h1
    obtain rfl : k = z := by simpa using hkq
    have h2 := kinds_zero.1 h1.2
    obtain ⟨b, ⟨hb, hbk⟩ | hkk⟩ := tc_back ht
    · have hbm : b ∈ partOf (prs E) N a := by
        have hka : k ∈ partOf (prs E) N a := by rw [hz]; simp
        exact mem_partOf.2 ⟨(hok.pair hb).2, (mem_partOf.1 hka).2.trans (.inr ⟨.one hb, hbk⟩)⟩
      rw [hz] at hbm
      obtain rfl : b = k := by simpa using hbm
      exact h2 hb
    · exact h2 hkk
  · intro h q hq
    obtain ⟨a, ha, rfl⟩ := parts_mem hq
    have e : partOf (prs E) N a = [a] := by
      refine SrtI.ext (List.Pairwise.filter _ hok.srtN) (by unfold SrtI; simp) fun x => ?_
      rw [mem_partOf, List.mem_singleton]
      constructor
      · rintro ⟨-, rfl | hm⟩
        · rfl
        · exact absurd (hm.1.trans hm.2) (h a ha)
      · rintro rfl
        exact ⟨ha, Mut.refl _ _⟩
    unfold oneB
    rw [e]
    simp only [List.length_singleton, beq_self_eq_true, List.headD_cons, Bool.true_and, beq_iff_eq]
    exact kinds_zero.2 fun hp => h a ha (.one hp)

/-- Where it stands. -/
def PlcIs (l : List Int) (n z : Int) : Prop := (z = -1 ∧ n ∉ l) ∨ ∃ i : Nat, z = i ∧ l[i]? = some n
theorem PlcIs.pos {l : List Int} {n z : Int} (h : PlcIs l n z) : 0 ≤ z ↔ n ∈ l := by
  rcases h with ⟨rfl, h⟩ | ⟨i, rfl, h⟩
  · simp [h]
  · simp [List.mem_of_getElem? h]
theorem PlcIs.low {l : List Int} {n z : Int} (h : PlcIs l n z) (hl : l.length ≤ 1000000) : -1 ≤ z ∧ z ≤ 1000000 := by
  rcases h with ⟨rfl, h⟩ | ⟨i, rfl, h⟩
  · omega
  · have := (List.getElem?_eq_some_iff.1 h).1
    omega
theorem TopoIs.plc (h : TopoIs P N l) {a b : Int} (ha : a ∈ N) (hb : b ∈ N) (hp : (a, b) ∈ P) {y z : Int} (hy : PlcIs l a y) (hz : PlcIs l b z) : y < z := by
  rcases hz with ⟨-, hz⟩ | ⟨i, rfl, hi⟩
  · exact absurd (h.all b hb) hz
  · rcases hy with ⟨-, hy⟩ | ⟨j, rfl, hj⟩
    · exact absurd (h.all a ha) hy
    · obtain ⟨q, hq, hz⟩ := h.lead hi hp
      have := h.same hj hz
      omega
end
/-! ### what the edges and nodes have made -/
theorem mem_gE {l : List Tr} {x : Tr} : x ∈ (l.foldl (fun (g : List Int × List Tr) e => (insI e.2.1 (insI e.1 g.1), insT e g.2)) ([], [])).2 ↔ x ∈ l := by
  have h : ∀ (l : List Tr) (g : List Int × List Tr), x ∈ (l.foldl (fun (g : List Int × List Tr) e => (insI e.2.1 (insI e.1 g.1), insT e g.2)) g).2 ↔ x ∈ l ∨ x ∈ g.2 := by
    intro l
    induction l with
    | nil => intro g; simp
    | cons e l ih =>
      intro g
      rw [List.foldl_cons, ih]
      simp only [mem_insT, List.mem_cons]
      constructor
      · rintro (h | h | h)
        · exact .inl (.inr h)
        · exact .inl (.inl h)
        · exact .inr h
      · rintro ((h | h) | h)
        · exact .inr (.inl h)
        · exact .inl h
        · exact .inr (.inr h)
  have := h l ([], [])
  simpa using this
end Go.Proofs.Ytlmeblhcipkgmaa
