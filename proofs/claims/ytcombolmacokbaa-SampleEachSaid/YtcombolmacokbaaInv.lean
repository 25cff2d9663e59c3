/- A region that draws its order of evaluation, by an invariant over what has come up: a theorem on the calculus alone. Conditions: those of each theorem, as typed. -/
import Derived.Test.YtcombolmacokbaaReg
namespace Go.Proofs.Ytcombolmacokbaa
open Go.RowKit

theorem filter_less {p p' : Nat → Bool} {i : Nat} (hp : ∀ x, p' x = true → p x = true) (h1 : p i = true) (h2 : p' i = false) : ∀ (l : List Nat), i ∈ l → (l.filter p').length + 1 ≤ (l.filter p).length
  | [], h => by cases h
  | x :: l, h => by
    have hle : ∀ l : List Nat, (l.filter p').length ≤ (l.filter p).length := by
      intro l
      induction l with
      | nil => simp
      | cons y l ih =>
        cases hy : p' y with
        | true => simp [List.filter_cons, hy, hp y hy]; exact ih
        | false => cases hy2 : p y <;> simp [List.filter_cons, hy, hy2] <;> omega
    by_cases hx : x = i
    · subst hx
      simp [List.filter_cons, h1, h2]
      exact hle l
    · have hm : i ∈ l := by
        rcases List.mem_cons.1 h with h | h
        · exact absurd h.symm hx
        · exact h
      have ih := filter_less hp h1 h2 l hm
      cases hy : p' x with
      | true => simp [List.filter_cons, hy, hp x hy]; omega
      | false => cases hy2 : p x <;> simp [List.filter_cons, hy, hy2] <;> omega

section
variable {P : Program} {Q : Exit → Act → World → Prop}
theorem wpAny_inv {ops : Array Oper} {md : Region.Mode} (Inv : Array Bool → Act → World → Prop)
    (hstep : ∀ listed a w i, Inv listed a w → i ∈ Region.ready md ops listed → wpOp P ops Q i (Inv (listed.setIfInBounds i true)) a w)
    (hend : ∀ listed a w, Inv listed a w → Region.ready md ops listed = [] → Q .normal a w) :
    ∀ (fuel : Nat) (listed : Array Bool) (a : Act) (w : World), ((List.range ops.size).filter fun i => !listed.getD i true).length ≤ fuel → Inv listed a w → wpAny P md ops Q fuel listed a w
  | 0, listed, a, w, hf, h => by
    have hr : Region.ready md ops listed = [] := by
      refine List.eq_nil_iff_forall_not_mem.2 fun j hj => ?_
      obtain ⟨h1, o, ho, _⟩ := mem_ready.1 hj
      have hlt := (Array.getElem?_eq_some_iff.1 ho).1
      have h2 : j ∈ (List.range ops.size).filter fun i => !listed.getD i true := List.mem_filter.2 ⟨List.mem_range.2 hlt, by rw [h1]; rfl⟩
      have h3 := List.length_pos_of_mem h2
      omega
    exact ⟨hr, hend _ _ _ h hr⟩
  | fuel + 1, listed, a, w, hf, h => by
    refine ⟨fun hr => hend _ _ _ h hr, fun i hi => wpOp_mono (fun a' w' h' => wpAny_inv Inv hstep hend fuel _ a' w' ?_ h') (hstep _ _ _ _ h hi)⟩
    obtain ⟨h1, o, ho, _⟩ := mem_ready.1 hi
    have hlt := (Array.getElem?_eq_some_iff.1 ho).1
    have hsz : i < listed.size := by
      rcases Nat.lt_or_ge i listed.size with h' | h'
      · exact h'
      · simp [Array.getElem?_eq_none h'] at h1
    have := filter_less (p := fun i => !listed.getD i true) (p' := fun j => !(listed.setIfInBounds i true).getD j true) (i := i) (fun x hx => by
      by_cases hxi : i = x
      · subst hxi; simp [hsz] at hx
      · rw [getD_set_ne true hxi] at hx; exact hx) (by simp only [h1]; rfl) (by simp [hsz]) (List.range ops.size) (List.mem_range.2 hlt)
    omega

theorem wp_region_inv {id : Nat} {l : List Oper} {a : Act} {w : World} (Inv : Array Bool → Act → World → Prop) (hm : P.follows .mixedOrders = true)
    (h0 : Inv (Array.replicate l.length false) a w.drew)
    (hstep : ∀ listed a w i, Inv listed a w → i ∈ Region.ready .any l.toArray listed → wpOp P l.toArray Q i (Inv (listed.setIfInBounds i true)) a w)
    (hend : ∀ listed a w, Inv listed a w → Region.ready .any l.toArray listed = [] → Q .normal a w) : (Code.region id l.toArray true).wp P Q a w := by
  refine wp_region_any hm (wpAny_inv Inv hstep hend _ _ _ _ ?_ (by simpa using h0))
  refine Nat.le_trans (List.length_filter_le _ _) ?_
  simp
end
end Go.Proofs.Ytcombolmacokbaa
