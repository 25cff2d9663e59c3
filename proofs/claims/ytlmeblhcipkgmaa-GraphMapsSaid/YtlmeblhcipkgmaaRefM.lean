/- The document's search along pairs: what it finds. Plain lists and numbers. Conditions: those of each theorem, as typed. -/
import Derived.Test.YtlmeblhcipkgmaaRelQ
namespace Go.Proofs.Ytlmeblhcipkgmaa

/-- R is what a leads to. -/
def IsReach (L : List Pr) (a : Int) (R : List Int) : Prop := SrtI R ∧ ∀ b, b ∈ R ↔ Tc L a b
theorem IsReach.row {L C : List Pr} (h : IsClo L C) {a : Int} {R : List Int} (k : IsReach L a R) : R = row C a := k.1.ext (srt_row h.srt a) fun b => by rw [k.2, mem_row, h.mem]

structure RInv (L : List Pr) (a : Int) (R T : List Int) (k i : Nat) : Prop where
  srt : SrtI R
  head : T[0]? = some a
  tc : ∀ y ∈ R, Tc L a y
  inT : ∀ y ∈ R, y ∈ T
  fromT : ∀ j y, 0 < j → T[j]? = some y → y ∈ R
  len : T.length = R.length + 1
  done : ∀ j y c, j < k → T[j]? = some y → (y, c) ∈ L → c ∈ R
  part : ∀ i' x, i' < i → L[i']? = some x → T[k]? = some x.1 → x.2 ∈ R
section
variable {L : List Pr} {a : Int} {R T : List Int} {k i : Nat}
theorem RInv.start (L : List Pr) (a : Int) : RInv L a [] [a] 0 0 where
  srt := List.Pairwise.nil
  head := rfl
  tc _ h := by simp at h
  inT _ h := by simp at h
  fromT j y hj h := by
    have := (List.getElem?_eq_some_iff.1 h).1
    simp at this
    omega
  len := rfl
  done _ _ _ h := by omega
  part _ _ h := by omega
theorem RInv.le (h : RInv L a R T k i) : R.length ≤ (tails L).length := nodup_le h.srt.nodup fun y hy => (h.tc y hy).ends.2
theorem RInv.skip (h : RInv L a R T k i) {x : Int × Int} {t : Int} (hx : L[i]? = some x) (ht : T[k]? = some t) (hne : x.1 ≠ t) : RInv L a R T k (i + 1) := by
  refine ⟨h.srt, h.head, h.tc, h.inT, h.fromT, h.len, h.done, fun i' z hi hz hT => ?_⟩
  by_cases e : i' = i
  · subst e
    rw [hx] at hz
    cases hz
    rw [ht] at hT
    exact absurd (Option.some.inj hT).symm hne
  · exact h.part i' z (by omega) hz hT
theorem RInv.tcx (h : RInv L a R T k i) {x : Int × Int} (hx : L[i]? = some x) (ht : T[k]? = some x.1) : Tc L a x.2 := by
  have hm : (x.1, x.2) ∈ L := List.mem_of_getElem? hx
  by_cases hk : k = 0
  · subst hk
    rw [h.head] at ht
    rw [Option.some.inj ht]
    exact .one hm
  · exact (h.tc _ (h.fromT k _ (by omega) ht)).more hm
theorem RInv.old (h : RInv L a R T k i) {x : Int × Int} (hx : L[i]? = some x) (ht : T[k]? = some x.1) (hin : x.2 ∈ R) : RInv L a R T k (i + 1) := by
  refine ⟨h.srt, h.head, h.tc, h.inT, h.fromT, h.len, h.done, fun i' z hi hz hT => ?_⟩
  by_cases e : i' = i
  · subst e
    rw [hx] at hz
    cases hz
    exact hin
  · exact h.part i' z (by omega) hz hT
theorem RInv.new (h : RInv L a R T k i) {x : Int × Int} (hx : L[i]? = some x) (ht : T[k]? = some x.1) (hin : x.2 ∉ R) : RInv L a (insI x.2 R) (T ++ [x.2]) k (i + 1) := by
  have hkT : k < T.length := (List.getElem?_eq_some_iff.1 ht).1
  have hold : ∀ j, j < T.length → (T ++ [x.2])[j]? = T[j]? := fun j hj => List.getElem?_append_left hj
  have h0 : 0 < T.length := by omega
  refine ⟨srt_insI h.srt, by rw [hold 0 h0]; exact h.head, fun y hy => ?_, fun y hy => ?_, fun j y hj hy => ?_, ?_, fun j y c hj hy hc => ?_, fun i' z hi hz hT => ?_⟩
  · rcases mem_insI.1 hy with rfl | hy
    · exact h.tcx hx ht
    · exact h.tc y hy
  · rcases mem_insI.1 hy with rfl | hy
    · simp
    · exact List.mem_append.2 (.inl (h.inT y hy))
  · by_cases hjl : j < T.length
    · rw [hold j hjl] at hy
      exact mem_insI.2 (.inr (h.fromT j y hj hy))
    · rw [List.getElem?_append_right (by omega)] at hy
      have := List.mem_of_getElem? hy
      simp at this
      exact mem_insI.2 (.inl this)
  · rw [length_insI_new hin, List.length_append, h.len]; rfl
  · rw [hold j (by omega)] at hy
    exact mem_insI.2 (.inr (h.done j y c hj hy hc))
  · rw [hold k hkT] at hT
    by_cases e : i' = i
    · subst e
      rw [hx] at hz
      cases hz
      exact mem_insI.2 (.inl rfl)
    · exact mem_insI.2 (.inr (h.part i' z (by omega) hz hT))
theorem RInv.next (h : RInv L a R T k i) (hi : L.length ≤ i) : RInv L a R T (k + 1) 0 := by
  refine ⟨h.srt, h.head, h.tc, h.inT, h.fromT, h.len, fun j y c hj hy hc => ?_, fun _ _ h => by omega⟩
  by_cases e : j = k
  · subst e
    obtain ⟨q, hq, eq⟩ := List.getElem_of_mem hc
    exact h.part q (y, c) (by omega) (by rw [List.getElem?_eq_getElem hq, eq]) hy
  · exact h.done j y c (by omega) hy hc
theorem RInv.reach (h : RInv L a R T k i) (hk : T.length ≤ k) : IsReach L a R := by
  refine ⟨h.srt, fun b => ⟨h.tc b, fun hb => hb.closed (O := fun b => b ∈ R) (fun c hc => h.done 0 a c (by have := (List.getElem?_eq_some_iff.1 h.head).1; omega) h.head hc) fun y hy c hc => ?_⟩⟩
  obtain ⟨j, hj, ej⟩ := List.getElem_of_mem (h.inT y hy)
  exact h.done j y c (by omega) (by rw [List.getElem?_eq_getElem hj, ej]) hc
end

open Classical in
theorem exists_clo (L : List Pr) : ∃ C, IsClo L C := by
  refine ⟨((heads L).flatMap fun a => (tails L).map fun b => (a, b)).filter fun p => decide (Tc L p.1 p.2), ?_, fun a b => ?_⟩
  · refine List.Pairwise.filter _ ?_
    rw [List.pairwise_flatMap]
    refine ⟨fun a _ => ?_, (srt_heads L).imp fun {a a'} hlt x hx y hy => ?_⟩
    · rw [List.pairwise_map]
      exact (srt_tails L).imp fun hlt => .inr ⟨rfl, hlt⟩
    · obtain ⟨b, _, rfl⟩ := List.mem_map.1 hx
      obtain ⟨b', _, rfl⟩ := List.mem_map.1 hy
      exact .inl hlt
  · rw [List.mem_filter]
    simp only [decide_eq_true_eq]
    constructor
    · exact And.right
    · exact fun h => ⟨List.mem_flatMap.2 ⟨a, h.ends.1, List.mem_map.2 ⟨b, h.ends.2, rfl⟩⟩, h⟩
theorem clo_le {L C : List Pr} (h : IsClo L C) : C.length ≤ area L := length_area h.srt fun x z hz => ((h.mem x z).1 hz).ends

/-! ### the closure, head by head -/
/-- The pairs of the closure whose heads are among the first i pairs'. -/
def cloUp (L C : List Pr) (i : Nat) : List Pr := C.filter fun p => (L.take i).any fun q => q.1 == p.1
theorem cloUp_zero (L C : List Pr) : cloUp L C 0 = [] := by simp [cloUp]
theorem cloUp_all {L C : List Pr} (h : IsClo L C) : cloUp L C L.length = C := by
  unfold cloUp
  rw [List.take_length]
  refine List.filter_eq_self.2 fun p hp => ?_
  obtain ⟨b, hb⟩ := ((h.mem p.1 p.2).1 hp).head
  exact List.any_eq_true.2 ⟨_, hb, by simp⟩
theorem cloUp_same {L C : List Pr} {i : Nat} {x y : Pr} (hx : L[i]? = some x) (hy : L[i + 1]? = some y) (e : y.1 = x.1) : cloUp L C (i + 1 + 1) = cloUp L C (i + 1) := by
  unfold cloUp
  refine List.filter_congr fun p _ => ?_
  rw [List.take_add_one (i := i + 1), List.any_append, hy]
  rw [List.take_add_one (i := i), List.any_append, hx]
  simp only [Option.toList_some, List.any_cons, List.any_nil, Bool.or_false, e]
  cases (L.take i).any fun q => q.1 == p.1 <;> cases (x.1 == p.1) <;> rfl
/-- A new head. -/
theorem cloUp_new {L C : List Pr} (hL : Srt L) (hC : Srt C) {i : Nat} {y : Pr} (hy : L[i]? = some y) (hn : ∀ j x, j < i → L[j]? = some x → x.1 < y.1) : cloUp L C (i + 1) = cloUp L C i ++ (row C y.1).map fun b => (y.1, b) := by
  have hlt : ∀ p, ((L.take i).any fun q => q.1 == p) = true → p < y.1 := fun p hp => by
    obtain ⟨q, hq, e⟩ := List.any_eq_true.1 hp
    simp only [beq_iff_eq] at e
    obtain ⟨j, hj, ej⟩ := List.getElem_of_mem hq
    rw [List.length_take] at hj
    have := hn j q (by omega) (by rw [← ej, List.getElem_take]; exact List.getElem?_eq_getElem (by omega))
    omega
  refine Srt.ext (hC.filter _) ?_ fun p => ?_
  · refine List.pairwise_append.2 ⟨hC.filter _, ?_, fun p hp q hq => ?_⟩
    · rw [List.pairwise_map]
      exact (srt_row hC y.1).imp fun h => .inr ⟨rfl, h⟩
    · obtain ⟨b, _, rfl⟩ := List.mem_map.1 hq
      exact .inl (hlt p.1 (List.mem_filter.1 hp).2)
  · obtain ⟨a, b⟩ := p
    unfold cloUp
    rw [List.mem_append, List.mem_filter, List.mem_filter, List.take_add_one, List.any_append, hy]
    simp only [Option.toList_some, List.any_cons, List.any_nil, Bool.or_false, Bool.or_eq_true, beq_iff_eq, List.mem_map, mem_row, Prod.mk.injEq]
    constructor
    · rintro ⟨h1, h2 | rfl⟩
      · exact .inl ⟨h1, h2⟩
      · exact .inr ⟨b, h1, rfl, rfl⟩
    · rintro (⟨h1, h2⟩ | ⟨c, h1, rfl, rfl⟩)
      · exact ⟨h1, .inl h2⟩
      · exact ⟨h1, .inr rfl⟩
theorem cloUp_le {L C : List Pr} (i : Nat) : (cloUp L C i).length ≤ C.length := List.length_filter_le _ _
/-- In a list that rises, a head that is not the one ahead of it is a new one. -/
theorem head_new {L : List Pr} (hL : Srt L) {i : Nat} {x y : Pr} (hx : L[i]? = some x) (hy : L[i + 1]? = some y) (e : y.1 ≠ x.1) : ∀ j z, j < i + 1 → L[j]? = some z → z.1 < y.1 := by
  intro j z hj hz
  have key : ∀ {p q : Nat} {u v : Pr}, p < q → L[p]? = some u → L[q]? = some v → plt u v := fun {p q u v} hpq hu hv => by
    obtain ⟨hp, rfl⟩ := List.getElem?_eq_some_iff.1 hu
    obtain ⟨hq, rfl⟩ := List.getElem?_eq_some_iff.1 hv
    exact List.pairwise_iff_getElem.1 hL p q hp hq hpq
  have h1 := key (Nat.lt_succ_self i) hx hy
  have h1' : x.1 < y.1 := by unfold plt at h1; omega
  by_cases ej : j = i
  · subst ej; rw [hx] at hz; cases hz; exact h1'
  · have h2 := key (show j < i by omega) hz hx
    unfold plt at h2
    omega
end Go.Proofs.Ytlmeblhcipkgmaa
