/- The parts of a graph. Plain lists and numbers. Conditions: those of each theorem, as typed. -/
import Derived.Test.YtlmeblhcipkgmaaGrM
import Derived.Test.YtlmeblhcipkgmaaRefB
namespace Go.Proofs.Ytlmeblhcipkgmaa

/-- Both ways, or the same. -/
def Mut (P : List Pr) (a b : Int) : Prop := a = b ∨ (Tc P a b ∧ Tc P b a)
theorem Mut.refl (P : List Pr) (a : Int) : Mut P a a := .inl rfl
theorem Mut.symm {P : List Pr} {a b : Int} (h : Mut P a b) : Mut P b a := by
  rcases h with rfl | ⟨h, k⟩
  · exact .inl rfl
  · exact .inr ⟨k, h⟩
theorem Mut.trans {P : List Pr} {a b c : Int} (h : Mut P a b) (k : Mut P b c) : Mut P a c := by
  rcases h with rfl | ⟨h, h'⟩
  · exact k
  · rcases k with rfl | ⟨k, k'⟩
    · exact .inr ⟨h, h'⟩
    · exact .inr ⟨h.trans k, k'.trans h'⟩
open Classical in
noncomputable def partOf (P : List Pr) (N : List Int) (a : Int) : List Int := N.filter fun b => decide (Mut P a b)
theorem mem_partOf {P : List Pr} {N : List Int} {a b : Int} : b ∈ partOf P N a ↔ b ∈ N ∧ Mut P a b := by unfold partOf; simp
theorem partOf_yes {P : List Pr} {N : List Int} {a b : Int} {j : Nat} (hb : N[j]? = some b) (h : Mut P a b) : partOf P (N.take (j + 1)) a = partOf P (N.take j) a ++ [b] := by
  unfold partOf
  rw [List.take_add_one, hb, List.filter_append]
  simp [h]
theorem partOf_no {P : List Pr} {N : List Int} {a b : Int} {j : Nat} (hb : N[j]? = some b) (h : ¬ Mut P a b) : partOf P (N.take (j + 1)) a = partOf P (N.take j) a := by
  unfold partOf
  rw [List.take_add_one, hb, List.filter_append]
  simp [h]
open Classical in
noncomputable def partsGo (P : List Pr) (N : List Int) : List Int → List Int → List (List Int)
  | [], _ => []
  | a :: r, done => if a ∈ done then partsGo P N r done else partOf P N a :: partsGo P N r (done ++ partOf P N a)
noncomputable def partsF (P : List Pr) (N : List Int) : List (List Int) := partsGo P N N []
theorem partsGo_congr {P : List Pr} {N : List Int} : ∀ {r d d' : List Int}, (∀ x, x ∈ d ↔ x ∈ d') → partsGo P N r d = partsGo P N r d'
  | [], _, _, _ => rfl
  | a :: r, d, d', h => by
    unfold partsGo
    by_cases ha : a ∈ d
    · rw [if_pos ha, if_pos ((h a).1 ha)]
      exact partsGo_congr h
    · rw [if_neg ha, if_neg fun hd => ha ((h a).2 hd)]
      rw [partsGo_congr (d' := d' ++ partOf P N a)]
      intro x
      rw [List.mem_append, List.mem_append, h x]
theorem partsGo_in {P : List Pr} {N r d : List Int} {a : Int} (h : a ∈ d) : partsGo P N (a :: r) d = partsGo P N r d := by
  conv => lhs; unfold partsGo
  rw [if_pos h]
theorem partsGo_out {P : List Pr} {N r d : List Int} {a : Int} (h : a ∉ d) : partsGo P N (a :: r) d = partOf P N a :: partsGo P N r (d ++ partOf P N a) := by
  conv => lhs; unfold partsGo
  rw [if_neg h]
theorem drop_step {l : List Int} {j : Nat} {x : Int} (h : l[j]? = some x) : l.drop j = x :: l.drop (j + 1) := by
  have hj := (List.getElem?_eq_some_iff.1 h).1
  have := (List.getElem?_eq_some_iff.1 h).2
  rw [← this]
  exact List.drop_eq_getElem_cons hj
/-- How it stands when j nodes have been looked at. -/
structure PInv (P : List Pr) (N : List Int) (j : Nat) (Q : List (List Int)) (d : List Int) : Prop where
  all : partsF P N = Q ++ partsGo P N (N.drop j) d
  seen : ∀ x ∈ N.take j, x ∈ d
  shut : ∀ x y, x ∈ d → y ∈ N → Mut P x y → y ∈ d
  sub : ∀ x ∈ d, x ∈ N
  fit : ∀ l ∈ Q, 0 < l.length ∧ l.length ≤ N.length
  len : Q.length ≤ j
section
variable {P : List Pr} {N : List Int} {j : Nat} {Q : List (List Int)} {d : List Int} {a : Int}
theorem PInv.start (P : List Pr) (N : List Int) : PInv P N 0 [] [] := ⟨by simp [partsF], fun x h => by simp at h, fun x y h => by simp at h, fun x h => by simp at h, fun l h => by simp at h, Nat.le_refl _⟩
theorem PInv.skip (h : PInv P N j Q d) (ha : N[j]? = some a) (hd : a ∈ d) : PInv P N (j + 1) Q d := by
  refine ⟨?_, fun x hx => ?_, h.shut, h.sub, h.fit, by have := h.len; omega⟩
  · rw [h.all, drop_step ha, partsGo_in hd]
  · rcases (mem_take_step ha).1 hx with hx | rfl
    · exact h.seen x hx
    · exact hd
theorem PInv.step (h : PInv P N j Q d) (ha : N[j]? = some a) (hd : a ∉ d) {d' : List Int} (hd' : ∀ x, x ∈ d' ↔ x ∈ d ∨ x ∈ partOf P N a) : PInv P N (j + 1) (Q ++ [partOf P N a]) d' := by
  have haN := List.mem_of_getElem? ha
  refine ⟨?_, fun x hx => ?_, fun x y hx hy hm => ?_, fun x hx => ?_, fun l hl => ?_, by have := h.len; simp; omega⟩
  · rw [h.all, drop_step ha, partsGo_out hd, List.append_assoc]
    rw [partsGo_congr (d' := d') fun x => by rw [List.mem_append, hd']]
    rfl
  · rcases (mem_take_step ha).1 hx with hx | rfl
    · exact (hd' x).2 (.inl (h.seen x hx))
    · exact (hd' x).2 (.inr (mem_partOf.2 ⟨haN, Mut.refl P x⟩))
  · rcases (hd' x).1 hx with hx | hx
    · exact (hd' y).2 (.inl (h.shut x y hx hy hm))
    · exact (hd' y).2 (.inr (mem_partOf.2 ⟨hy, (mem_partOf.1 hx).2.trans hm⟩))
  · rcases (hd' x).1 hx with hx | hx
    · exact h.sub x hx
    · exact (mem_partOf.1 hx).1
  · rcases List.mem_append.1 hl with hl | hl
    · exact h.fit l hl
    · simp only [List.mem_singleton] at hl
      subst hl
      exact ⟨List.length_pos_of_mem (mem_partOf.2 ⟨haN, Mut.refl P a⟩), List.length_filter_le _ _⟩
theorem PInv.done (h : PInv P N N.length Q d) : Q = partsF P N := by
  rw [h.all, List.drop_length]
  simp [partsGo]
/-- Those of its part that come up first: no one ahead of a. -/
theorem PInv.ahead (h : PInv P N j Q d) (ha : N[j]? = some a) (hd : a ∉ d) : ∀ x ∈ N.take j, ¬ Mut P a x := fun x hx hm => hd (h.shut x a (h.seen x hx) (List.mem_of_getElem? ha) hm.symm)
end

section
variable {P : List Pr} {N : List Int}
theorem partsGo_apart : ∀ {r d : List Int}, (∀ x ∈ r, x ∈ N) → (∀ x y, x ∈ d → y ∈ N → Mut P x y → y ∈ d) →
    (∀ q ∈ partsGo P N r d, ∀ x ∈ q, x ∉ d) ∧ (partsGo P N r d).Pairwise fun q q' => ∀ x ∈ q, x ∉ q'
  | [], d, _, _ => by simp [partsGo]
  | a :: r, d, hr, hd => by
    by_cases ha : a ∈ d
    · rw [partsGo_in ha]
      exact partsGo_apart (fun x hx => hr x (by simp [hx])) hd
    · rw [partsGo_out ha]
      have haN := hr a (by simp)
      obtain ⟨h1, h2⟩ := partsGo_apart (r := r) (d := d ++ partOf P N a) (fun x hx => hr x (by simp [hx])) fun x y hx hy hm => by
        rcases List.mem_append.1 hx with hx | hx
        · exact List.mem_append.2 (.inl (hd x y hx hy hm))
        · exact List.mem_append.2 (.inr (mem_partOf.2 ⟨hy, (mem_partOf.1 hx).2.trans hm⟩))
      refine ⟨fun q hq x hx hxd => ?_, List.pairwise_cons.2 ⟨fun q' hq' x hx hx' => ?_, h2⟩⟩
      · rcases List.mem_cons.1 hq with rfl | hq
        · exact ha (hd x a hxd haN (mem_partOf.1 hx).2.symm)
        · exact h1 q hq x hx (List.mem_append.2 (.inl hxd))
      · exact h1 q' hq' x hx' (List.mem_append.2 (.inr hx))
theorem parts_apart : (partsF P N).Pairwise fun q q' => ∀ x ∈ q, x ∉ q' := (partsGo_apart (fun _ h => h) fun x y h => by simp at h).2
end
end Go.Proofs.Ytlmeblhcipkgmaa
