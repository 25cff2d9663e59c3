/- A region that draws its order of evaluation, walked along a tree of orders; what is asked of an operation is that it keeps the blocks below N. Programs that may be: valid, Valid. make and append in the calculus: a new list; a copy of a list. Conditions: those of each theorem, as typed. Merged by program out of 3 texts. -/
import Derived.Test.YtogphaiomlfofaaDoorQD03
import Derived.Test.YtogphaiomlfofaaDoorQD02
import Derived.Laws.MakeOwn
import Derived.OwnWalk
import Derived.Laws.EntriesVeiled
set_option linter.unusedVariables false
set_option linter.unusedSimpArgs false
namespace Go.Proofs.YtogphaiomlfofaaDoor.RN
open Go.RowKit

def KeepsN (N : Nat) (w w' : World) : Prop := w.heap.size ≤ w'.heap.size ∧ ∀ k, k < N → w'.heap[k]? = w.heap[k]?
theorem KeepsN.refl (N : Nat) (w : World) : KeepsN N w w := ⟨Nat.le_refl _, fun _ _ => rfl⟩
theorem KeepsN.trans {N : Nat} {a b c : World} (h : KeepsN N a b) (k : KeepsN N b c) : KeepsN N a c := ⟨Nat.le_trans h.1 k.1, fun i hi => (k.2 i hi).trans (h.2 i hi)⟩
theorem KeepsN.cell {N : Nat} {w w' : World} (h : KeepsN N w w') (b off : Nat) (hb : b < N) : w'.cell? ⟨b, off, none⟩ = w.cell? ⟨b, off, none⟩ := by
  simp only [World.cell?, h.2 b hb]
theorem KeepsN.alloc {N : Nat} (w : World) (o : Obj) (hN : N ≤ w.heap.size) : KeepsN N w (w.alloc o) := ⟨by simp, fun k hk => by
  show (w.heap.push o)[k]? = _
  rw [Array.getElem?_push, if_neg (by omega)]⟩
theorem KeepsN.of_below {N : Nat} {w w' : World} (h : Below N w w') : KeepsN N w w' := ⟨h.size, h.block⟩
theorem KeepsN.set {N : Nat} (w : World) (a : Addr) (v : Value) (h : N ≤ a.block) : KeepsN N w (w.setCell a v) := ⟨by simp, fun k hk => Below.heap_setCell _ _ _ _ (by omega)⟩

section
variable {N : Nat} {P : Program} {ops : Array Oper} {Q Q' : Exit → Act → World → Prop} {md : Region.Mode} {kd : Nat → Nat} {C : World → Prop}

def wpOpX (N : Nat) (P : Program) (ops : Array Oper) (kd : Nat → Nat) (Q : Exit → Act → World → Prop) (i : Nat) (K : Act → World → Prop) (a : Act) (w : World) : Prop :=
  match ops[i]? with
  | none => K a w
  | some o =>
    if Region.wanted o (yielded ops a.tmps) then
      (kd i = 0 → ∃ v, (∀ w', (execOp a.eval o).run P w' = .ok (.value v) w') ∧ K (a.put o.dst v) w) ∧
      (kd i = 1 → ∃ v, (∀ w', KeepsN N w w' → (execOp a.eval o).run P w' = .ok (.value v) w') ∧ K (a.put o.dst v) w) ∧
      (kd i = 2 → o.wp P a w K (Only Q)) ∧
      (3 ≤ kd i → o.wp P a w (fun a' w' => KeepsN N w w' ∧ K a' w') (Only Q))
    else K (a.put o.dst undef) w

theorem wpOpX_mono {i : Nat} {a : Act} {w : World} {K K' : Act → World → Prop} (h : ∀ a w, K a w → K' a w)
    (hh : wpOpX N P ops kd Q i K a w) : wpOpX N P ops kd Q i K' a w := by
  unfold wpOpX at *
  split
  · exact h _ _ (by simpa [*] using hh)
  · rename_i o ho
    simp only [ho] at hh
    split
    · rename_i hw
      simp only [hw, if_true] at hh
      exact ⟨fun hk => let ⟨v, h1, h2⟩ := hh.1 hk; ⟨v, h1, h _ _ h2⟩, fun hk => let ⟨v, h1, h2⟩ := hh.2.1 hk; ⟨v, h1, h _ _ h2⟩, fun hk => Oper.wp_mono h (hh.2.2.1 hk), fun hk => Oper.wp_mono (fun a w h' => ⟨h'.1, h a w h'.2⟩) (hh.2.2.2 hk)⟩
    · rename_i hw; simp only [hw] at hh; exact h _ _ hh

theorem wpOp_of_wpOpX {i : Nat} {a : Act} {w : World} {K K' : Act → World → Prop} (h : ∀ a w, K a w → K' a w)
    (hh : wpOpX N P ops kd Q i K a w) : wpOp P ops Q i K' a w := by
  unfold wpOpX at hh
  unfold wpOp
  split
  · exact h _ _ (by simpa [*] using hh)
  · rename_i o ho
    simp only [ho] at hh
    split
    · rename_i hw
      simp only [hw, if_true] at hh
      refine .inl ?_
      rcases Nat.lt_or_ge (kd i) 2 with hk | hk
      · rcases Nat.lt_or_ge (kd i) 1 with hk' | hk'
        · obtain ⟨v, h1, h2⟩ := hh.1 (by omega)
          simp only [Oper.wp, h1 w, Oper.upon]
          exact h _ _ h2
        · obtain ⟨v, h1, h2⟩ := hh.2.1 (by omega)
          simp only [Oper.wp, h1 w (KeepsN.refl N w), Oper.upon]
          exact h _ _ h2
      · rcases Nat.lt_or_ge (kd i) 3 with hk' | hk'
        · exact wp_only h (hh.2.2.1 (by omega))
        · exact wp_only (fun a w h' => h a w h'.2) (hh.2.2.2 hk')
    · rename_i hw; simp only [hw] at hh; exact h _ _ hh

def wpAnyX (N : Nat) (P : Program) (md : Region.Mode) (ops : Array Oper) (kd : Nat → Nat) (Q : Exit → Act → World → Prop) : Nat → Array Bool → Act → World → Prop
  | 0, listed, a, w => Region.ready md ops listed = [] ∧ Q .normal a w
  | fuel + 1, listed, a, w =>
    (Region.ready md ops listed = [] → Q .normal a w) ∧
    ∀ i ∈ Region.ready md ops listed, wpOpX N P ops kd Q i (wpAnyX N P md ops kd Q fuel (listed.setIfInBounds i true)) a w

theorem wpAny_of_X : ∀ (fuel : Nat) (listed : Array Bool) (a : Act) (w : World), wpAnyX N P md ops kd Q fuel listed a w → wpAny P md ops Q fuel listed a w
  | 0, _, _, _, h => h
  | fuel + 1, _, _, _, h => ⟨h.1, fun i hi => wpOp_of_wpOpX (fun a w => wpAny_of_X fuel _ a w) (h.2 i hi)⟩

theorem wpOpX_put {j : Nat} {oi oj : Oper} {v : Value} (hj : ops[j]? = some oj) (hap : oi.apart ops oj = true)
    (hsi : ∀ cs b, oi.op ≠ .select cs b) (hsj : ∀ cs b, oj.op ≠ .select cs b) (hCk : ∀ w w', C w → KeepsN N w w' → C w') (hE : kd j ≠ 2 ∨ ∀ w, C w)
    {K : Act → World → Prop} {a : Act} {w : World} (hC : C w)
    (hy : YieldsX P ops C oi v a) (h : wpOpX N P ops kd Q j K (a.put oi.dst v) w) :
    wpOpX N P ops kd Q j (fun a' w' => C w' ∧ YieldsX P ops C oi v a' ∧ K (a'.put oi.dst v) w') a w := by
  obtain ⟨h1, h2, h3⟩ := Oper.apart_spec hap
  have keep : ∀ (a : Act), YieldsX P ops C oi v a → ∀ u, YieldsX P ops C oi v (a.put oj.dst u) := fun a hy u =>
    hy.of_same (execOp_put oi hsi a oj.dst u h3) (wanted_put oi a oj.dst u h3)
  have keepD : ∀ d, YieldsX P ops C oi v { a with defers := d :: a.defers } := fun d => hy.of_same rfl rfl
  unfold wpOpX at *
  simp only [hj] at *
  rw [wanted_put oj a oi.dst v h1, execOp_put oj hsj a oi.dst v h1] at h
  split
  · rename_i hw
    simp only [hw, if_true] at h
    refine ⟨fun hk => ?_, fun hk => ?_, fun hk => ?_, fun hk => ?_⟩
    · obtain ⟨u, h4, h5⟩ := h.1 hk
      exact ⟨u, h4, hC, keep a hy u, by rw [← Act.put_comm a v u h2]; exact h5⟩
    · obtain ⟨u, h4, h5⟩ := h.2.1 hk
      exact ⟨u, h4, hC, keep a hy u, by rw [← Act.put_comm a v u h2]; exact h5⟩
    · have hall : ∀ w, C w := hE.resolve_left (fun h => h hk)
      replace h := h.2.2.1 hk
      unfold Oper.wp at *
      rw [execOp_put oj hsj a oi.dst v h1] at h
      generalize (execOp a.eval oj).run P w = r at *
      cases r with
      | ok n w' =>
        cases n <;> simp only [Oper.upon] at h ⊢
        case value u => exact ⟨hall _, keep a hy u, by rw [← Act.put_comm a v u h2]; exact h⟩
        case skip => exact ⟨hall _, keep a hy _, by rw [← Act.put_comm a v undef h2]; exact h⟩
        case defer d =>
          refine ⟨hall _, keep _ (keepD d) _, ?_⟩
          rw [← Act.put_comm _ v undef h2, ← Act.put_defers]
          exact h
        case enter f args =>
          refine Calls.mono h fun e w'' he => ?_
          cases e with
          | returned u => exact ⟨hall _, keep a hy u, by rw [← Act.put_comm a v u h2]; exact he⟩
          | panicked c => exact (he : False).elim
          | outgrown => exact (not_letsOut_only he).elim
        case row row args => exact Rows.mono h fun u w'' he => ⟨hall _, keep a hy u, by rw [← Act.put_comm a v u h2]; exact he⟩
      | halt x w' =>
        cases x <;> simp only [Oper.upon] at h ⊢
        case panic u => exact (h : False).elim
    · replace h := h.2.2.2 hk
      unfold Oper.wp at *
      rw [execOp_put oj hsj a oi.dst v h1] at h
      generalize (execOp a.eval oj).run P w = r at *
      cases r with
      | ok n w' =>
        cases n <;> simp only [Oper.upon] at h ⊢
        case value u => exact ⟨h.1, hCk _ _ hC h.1, keep a hy u, by rw [← Act.put_comm a v u h2]; exact h.2⟩
        case skip => exact ⟨h.1, hCk _ _ hC h.1, keep a hy _, by rw [← Act.put_comm a v undef h2]; exact h.2⟩
        case defer d =>
          refine ⟨h.1, hCk _ _ hC h.1, keep _ (keepD d) _, ?_⟩
          rw [← Act.put_comm _ v undef h2, ← Act.put_defers]
          exact h.2
        case enter f args =>
          refine Calls.mono h fun e w'' he => ?_
          cases e with
          | returned u => exact ⟨he.1, hCk _ _ hC he.1, keep a hy u, by rw [← Act.put_comm a v u h2]; exact he.2⟩
          | panicked c => exact (he : False).elim
          | outgrown => exact (not_letsOut_only he).elim
        case row row args => exact Rows.mono h fun u w'' he => ⟨he.1, hCk _ _ hC he.1, keep a hy u, by rw [← Act.put_comm a v u h2]; exact he.2⟩
      | halt x w' =>
        cases x <;> simp only [Oper.upon] at h ⊢
        case panic u => exact (h : False).elim
  · rename_i hw
    simp only [hw] at h
    exact ⟨hC, keep a hy _, by rw [← Act.put_comm a v undef h2]; exact h⟩

theorem wpAnyX_first {i : Nat} {oi : Oper} {v : Value} (hi : ops[i]? = some oi) (hsel : ∀ (j : Nat) (o : Oper) cs b, ops[j]? = some o → o.op ≠ .select cs b) (hki : kd i ≤ 1)
    (hCk : ∀ w w', C w → KeepsN N w w' → C w')
    (hput : ∀ (a : Act) (w : World) K, C w → YieldsX P ops C oi v a → K (a.put oi.dst v) w → wpOpX N P ops kd Q i K a w) :
    ∀ (fuel : Nat) (listed : Array Bool) (a : Act) (w : World), Closed md ops listed → C w →
      (∀ j oj, ops[j]? = some oj → j ≠ i → listed.getD j true = false → ¬ (∃ n, waits md ops n j i = true) → oi.apart ops oj = true ∧ (kd j ≠ 2 ∨ ∀ w, C w)) →
      i ∈ Region.ready md ops listed → YieldsX P ops C oi v a →
      wpAnyX N P md ops kd Q fuel (listed.setIfInBounds i true) (a.put oi.dst v) w → wpAnyX N P md ops kd Q (fuel + 1) listed a w := by
  intro fuel
  induction fuel with
  | zero =>
    intro listed a w _ hC _ hr hy H
    refine ⟨fun h => (by rw [h] at hr; cases hr), fun j hj => ?_⟩
    by_cases hji : j = i
    · subst hji; exact hput a w _ hC hy H
    · have := ready_mono hj hji
      rw [H.1] at this
      cases this
  | succ fuel ih =>
    intro listed a w hcl hC hfree hr hy H
    refine ⟨fun h => (by rw [h] at hr; cases hr), fun j hj => ?_⟩
    by_cases hji : j = i
    · subst hji; exact hput a w _ hC hy H
    · have h1 := H.2 j (ready_mono hj hji)
      obtain ⟨hjun, oj, hoj, hall⟩ := mem_ready.1 hj
      have hiun := getD_false_of_true (mem_ready.1 hr).1
      have hnw : ¬ (∃ n, waits md ops n j i = true) := fun ⟨n, hw⟩ => absurd hj (waits_not_ready hcl hiun n j hw).2
      obtain ⟨hap, hE⟩ := hfree j oj hoj hji hjun hnw
      have h2 := wpOpX_put hoj hap (fun cs b => hsel i oi cs b hi) (fun cs b => hsel j oj cs b hoj) hCk hE hC hy h1
      have hfree' : ∀ k ok, ops[k]? = some ok → k ≠ i → (listed.setIfInBounds j true).getD k true = false → ¬ (∃ n, waits md ops n k i = true) → oi.apart ops ok = true ∧ (kd k ≠ 2 ∨ ∀ w, C w) := fun k ok hk hki hun hno => by
        refine hfree k ok hk hki ?_ hno
        by_cases hjk : j = k
        · subst hjk; exact hjun
        · rw [getD_set_ne true hjk] at hun; exact hun
      refine wpOpX_mono (fun a' w' h3 => ih (listed.setIfInBounds j true) a' w' (hcl.put hj) h3.1 hfree' (ready_mono hr (Ne.symm hji)) h3.2.1 ?_) h2
      rw [Array.setIfInBounds_comm _ _ hji]
      exact h3.2.2

def wpX (N : Nat) (P : Program) (ops : Array Oper) (kd : Nat → Nat) (Q : Exit → Act → World → Prop) : List Nat → Act → World → Prop
  | [], a, w => Q .normal a w
  | i :: l, a, w => wpOpX N P ops kd Q i (wpX N P ops kd Q l) a w

def wpK (N : Nat) (P : Program) (Q : Exit → Act → World → Prop) (k : Nat) (g : Option (Option Tmp × Bool)) (o : Oper) (K : Act → World → Prop) (a : Act) (w : World) : Prop :=
  if wantedAt g a.tmps then
    (k = 0 → ∃ v, (∀ w', (execOp a.eval o).run P w' = .ok (.value v) w') ∧ K (a.put o.dst v) w) ∧
    (k = 1 → ∃ v, (∀ w', KeepsN N w w' → (execOp a.eval o).run P w' = .ok (.value v) w') ∧ K (a.put o.dst v) w) ∧
    (k = 2 → o.wp P a w K (Only Q)) ∧
    (3 ≤ k → o.wp P a w (fun a' w' => KeepsN N w w' ∧ K a' w') (Only Q))
  else K (a.put o.dst undef) w

def wpL (N : Nat) (P : Program) (Q : Exit → Act → World → Prop) : List XOp → Act → World → Prop
  | [], a, w => Q .normal a w
  | x :: l, a, w => wpK N P Q x.kind x.guard x.oper (wpL N P Q l) a w

theorem wpX_of_wpL {ks : List Nat} {l : List Oper} : ∀ (σ : List Nat) (a : Act) (w : World), wpL N P Q (selX ks l σ) a w → wpX N P l.toArray (fun i => ks.getD i 2) Q σ a w
  | [], _, _, h => h
  | i :: σ, a, w, h => by
    simp only [wpX]
    unfold wpOpX
    simp only [List.getElem?_toArray]
    simp only [selX] at h
    cases ho : l[i]? with
    | none => simp only [ho] at h; exact wpX_of_wpL σ a w h
    | some o =>
      simp only [ho, wpL, wpK, wantedAt_eq] at h
      simp only
      split
      · rename_i hw
        simp only [hw, if_true] at h
        exact ⟨fun hk => let ⟨v, h1, h2⟩ := h.1 hk; ⟨v, h1, wpX_of_wpL σ _ _ h2⟩, fun hk => let ⟨v, h1, h2⟩ := h.2.1 hk; ⟨v, h1, wpX_of_wpL σ _ _ h2⟩,
          fun hk => Oper.wp_mono (fun a w h' => wpX_of_wpL σ a w h') (h.2.2.1 hk), fun hk => Oper.wp_mono (fun a w h' => ⟨h'.1, wpX_of_wpL σ a w h'.2⟩) (h.2.2.2 hk)⟩
      · rename_i hw
        simp only [hw] at h
        exact wpX_of_wpL σ _ _ h

theorem wpOpX_monoQ {i : Nat} {a : Act} {w : World} {K K' : Act → World → Prop} (h : ∀ a w, K a w → K' a w) (hh : wpOpX N P ops kd Q' i K a w) : wpOpX N P ops kd Q i K' a w := by
  unfold wpOpX at *
  cases ho : ops[i]? with
  | none => simp only [ho] at hh ⊢; exact h _ _ hh
  | some o =>
    simp only [ho] at hh ⊢
    split
    · rename_i hw
      simp only [hw, if_true] at hh
      exact ⟨fun hk => let ⟨v, h1, h2⟩ := hh.1 hk; ⟨v, h1, h _ _ h2⟩, fun hk => let ⟨v, h1, h2⟩ := hh.2.1 hk; ⟨v, h1, h _ _ h2⟩, fun hk => wp_onlyA h (hh.2.2.1 hk), fun hk => wp_onlyA (fun a w h' => ⟨h'.1, h a w h'.2⟩) (hh.2.2.2 hk)⟩
    · rename_i hw; simp only [hw] at hh; exact h _ _ hh

theorem wpAnyX_of_pre {bf : Array Nat} (hbf : ∀ j i, (bf.getD j 0).testBit i = true → ∃ n, waits md ops n j i = true) (hs : Region.noSelect ops = true) (n : Nat) : ∀ (l : List Nat) (listed : Array Bool) (a : Act) (w : World), Closed md ops listed →
    checkP md ops bf kd l listed = true → (Closed md ops (after l listed) → ∀ a w, Q' .normal a w → wpAnyX N P md ops kd Q n (after l listed) a w) → wpX N P ops kd Q' l a w → wpAnyX N P md ops kd Q (l.length + n) listed a w
  | [], listed, a, w, hcl, _, hE, h => by rw [show ([] : List Nat).length + n = n from Nat.zero_add n]; exact hE hcl a w h
  | i :: l, listed, a, w, hcl, hB, hE, h => by
    rw [show (i :: l).length + n = (l.length + n) + 1 by simp only [List.length_cons]; omega]
    simp only [checkP, Bool.and_eq_true] at hB
    obtain ⟨hB, hB'⟩ := hB
    have hsel := Region.noSelect_spec hs
    by_cases hk : kd i ≤ 1
    · rw [if_pos hk] at hB
      simp only [Bool.and_eq_true] at hB
      obtain ⟨hr, hf⟩ := hB
      have hr : i ∈ Region.ready md ops listed := by simpa using hr
      split at hf
      · cases hf
      · rename_i oi hoi
        have hfree : ∀ j oj, ops[j]? = some oj → j ≠ i → listed.getD j true = false → ¬ (∃ n, waits md ops n j i = true) → oi.apart ops oj = true ∧ (kd i = 0 ∨ kd j ≠ 2) := by
          intro j oj hoj hji hun hnw
          simp only [List.all_eq_true, List.mem_range] at hf
          have h1 := hf j (Array.getElem?_eq_some_iff.1 hoj).1
          have hnb : ¬ (bf.getD j 0).testBit i = true := fun h => hnw (hbf j i h)
          simp only [hoj, Bool.or_eq_true, beq_iff_eq, hji, false_or, hun, hnb, Bool.false_eq_true, Bool.and_eq_true, bne_iff_ne, ne_eq] at h1
          exact h1
        have hcl' := hcl.put hr
        have ht := fun (a' : Act) (w' : World) => wpAnyX_of_pre hbf hs n l (listed.setIfInBounds i true) a' w' hcl' hB' hE
        simp only [wpX] at h
        unfold wpOpX at h
        simp only [hoi] at h
        by_cases hw : Region.wanted oi (yielded ops a.tmps) = true
        · simp only [hw, if_true] at h
          rcases Nat.lt_or_ge (kd i) 1 with hk0 | hk1
          · have hk0 : kd i = 0 := by omega
            obtain ⟨v, h1, h2⟩ := h.1 hk0
            refine wpAnyX_first (C := fun _ => True) hoi hsel hk (fun _ _ h _ => h) ?_ (l.length + n) listed a w hcl trivial (fun j oj a1 a2 a3 a4 => ⟨(hfree j oj a1 a2 a3 a4).1, .inr fun _ => trivial⟩) hr (.inl ⟨hw, fun w' _ => h1 w'⟩) (ht _ _ h2)
            intro a w K _ hy hK
            unfold wpOpX
            simp only [hoi]
            rcases hy with ⟨hw, hv⟩ | ⟨hw, rfl⟩
            · simp only [hw, if_true]
              exact ⟨fun _ => ⟨v, fun w' => hv w' trivial, hK⟩, fun hk => by omega, fun hk => by omega, fun hk => by omega⟩
            · simp only [hw, Bool.false_eq_true, if_false]; exact hK
          · have hk1 : kd i = 1 := by omega
            obtain ⟨v, h1, h2⟩ := h.2.1 hk1
            refine wpAnyX_first (C := fun w' => KeepsN N w w') hoi hsel hk (fun _ _ h h' => h.trans h') ?_ (l.length + n) listed a w hcl (KeepsN.refl N w) (fun j oj a1 a2 a3 a4 => ⟨(hfree j oj a1 a2 a3 a4).1, .inl ((hfree j oj a1 a2 a3 a4).2.resolve_left (by omega))⟩) hr (.inl ⟨hw, fun w' hw' => h1 w' hw'⟩) (ht _ _ h2)
            intro a' w' K hC hy hK
            unfold wpOpX
            simp only [hoi]
            rcases hy with ⟨hw, hv⟩ | ⟨hw, rfl⟩
            · simp only [hw, if_true]
              exact ⟨fun hk => by omega, fun _ => ⟨v, fun w2 hk2 => hv w2 (KeepsN.trans hC hk2), hK⟩, fun hk => by omega, fun hk => by omega⟩
            · simp only [hw, Bool.false_eq_true, if_false]; exact hK
        · simp only [hw] at h
          have hw' : Region.wanted oi (yielded ops a.tmps) = false := by simpa using hw
          by_cases hk0 : kd i = 0
          · refine wpAnyX_first (C := fun _ => True) hoi hsel hk (fun _ _ h _ => h) ?_ (l.length + n) listed a w hcl trivial (fun j oj a1 a2 a3 a4 => ⟨(hfree j oj a1 a2 a3 a4).1, .inr fun _ => trivial⟩) hr (.inr ⟨hw', rfl⟩) (ht _ _ h)
            intro a w K _ hy hK
            unfold wpOpX
            simp only [hoi]
            rcases hy with ⟨hw, hv⟩ | ⟨hw, hv⟩
            · simp only [hw, if_true]
              exact ⟨fun _ => ⟨_, fun w' => hv w' trivial, hK⟩, fun hk => by omega, fun hk => by omega, fun hk => by omega⟩
            · simp only [hw, Bool.false_eq_true, if_false]; exact hK
          · refine wpAnyX_first (C := fun w' => KeepsN N w w') hoi hsel hk (fun _ _ h h' => h.trans h') ?_ (l.length + n) listed a w hcl (KeepsN.refl N w) (fun j oj a1 a2 a3 a4 => ⟨(hfree j oj a1 a2 a3 a4).1, .inl ((hfree j oj a1 a2 a3 a4).2.resolve_left hk0)⟩) hr (.inr ⟨hw', rfl⟩) (ht _ _ h)
            intro a' w' K hC hy hK
            unfold wpOpX
            simp only [hoi]
            rcases hy with ⟨hw, hv⟩ | ⟨hw, hv⟩
            · simp only [hw, if_true]
              exact ⟨fun hk => by omega, fun _ => ⟨_, fun w2 hk2 => hv w2 (KeepsN.trans hC hk2), hK⟩, fun hk => by omega, fun hk => by omega⟩
            · simp only [hw, Bool.false_eq_true, if_false]; exact hK
    · rw [if_neg hk] at hB
      have hr : Region.ready md ops listed = [i] := by simpa using hB
      refine ⟨fun h0 => (by rw [hr] at h0; cases h0), fun j hj => ?_⟩
      rw [hr] at hj
      obtain rfl : j = i := by simpa using hj
      exact wpOpX_monoQ (fun a' w' h' => wpAnyX_of_pre hbf hs n l _ a' w' (hcl.put (by rw [hr]; simp)) hB' hE h') h

end

inductive Tr where
  | fin (σ : List Nat)
  | frk (σ : List Nat) (a b : Tr)
def Tr.len : Tr → Nat
  | .fin σ => σ.length
  | .frk σ a _ => σ.length + a.len
def Tr.head : Tr → Nat
  | .fin σ => σ.headD 0
  | .frk σ _ _ => σ.headD 0
def Tr.one : Tr → Bool
  | .fin σ => !σ.isEmpty
  | .frk σ _ _ => !σ.isEmpty
def checkT (l : List Oper) (ks : List Nat) : Tr → Array Bool → Bool
  | .fin σ, s => checkP .any l.toArray (Region.before l.toArray) (fun i => ks.getD i 2) σ s && (Region.ready .any l.toArray (after σ s)).isEmpty
  | .frk σ a b, s => checkP .any l.toArray (Region.before l.toArray) (fun i => ks.getD i 2) σ s && (Region.ready .any l.toArray (after σ s) == [a.head, b.head]) && a.one && b.one && (a.len == b.len) &&
      checkU l ks a (after σ s) && checkU l ks b (after σ s)
where
  /-- The same, where the first operation is one of two. -/
  checkU (l : List Oper) (ks : List Nat) : Tr → Array Bool → Bool
  | .fin σ, s => checkP .any l.toArray (Region.before l.toArray) (fun i => ks.getD i 2) σ.tail (s.setIfInBounds (σ.headD 0) true) && (Region.ready .any l.toArray (after σ s)).isEmpty
  | .frk σ a b, s => checkP .any l.toArray (Region.before l.toArray) (fun i => ks.getD i 2) σ.tail (s.setIfInBounds (σ.headD 0) true) && (Region.ready .any l.toArray (after σ s) == [a.head, b.head]) && a.one && b.one && (a.len == b.len) &&
      checkU l ks a (after σ s) && checkU l ks b (after σ s)
def End (Q : Exit → Act → World → Prop) (p : Act → World → Prop) : Exit → Act → World → Prop
  | .normal, a, w => p a w
  | e, a, w => Q e a w
def wpT (N : Nat) (P : Program) (Q : Exit → Act → World → Prop) (l : List Oper) (ks : List Nat) : Tr → Act → World → Prop
  | .fin σ, a, w => wpL N P Q (selX ks l σ) a w
  | .frk σ x y, a, w => wpL N P (End Q fun a w => wpT N P Q l ks x a w ∧ wpT N P Q l ks y a w) (selX ks l σ) a w
section
variable {N : Nat} {P : Program} {Q : Exit → Act → World → Prop} {l : List Oper} {ks : List Nat}
theorem after_cons (i : Nat) (σ : List Nat) (s : Array Bool) : after (i :: σ) s = after σ (s.setIfInBounds i true) := rfl
theorem wpT_u (hs : Region.noSelect l.toArray = true) : ∀ (t : Tr) (s : Array Bool) (a : Act) (w : World), Closed .any l.toArray s → t.one = true → t.head ∈ Region.ready .any l.toArray s → checkT.checkU l ks t s = true → wpT N P Q l ks t a w →
    ∃ n, n + 1 = t.len ∧ wpOpX N P l.toArray (fun i => ks.getD i 2) Q t.head (wpAnyX N P .any l.toArray (fun i => ks.getD i 2) Q n (s.setIfInBounds t.head true)) a w
  | .fin [], _, _, _, _, h, _, _, _ => by simp [Tr.one] at h
  | .fin (i :: σ), s, a, w, hcl, _, hr, hc, h => by
    simp only [checkT.checkU, List.tail_cons, List.headD_cons, Bool.and_eq_true, List.isEmpty_iff] at hc
    have h' := wpX_of_wpL (i :: σ) a w h
    simp only [wpX] at h'
    refine ⟨σ.length, rfl, wpOpX_mono (fun a' w' hk => ?_) h'⟩
    exact wpAnyX_of_pre (Q' := Q) (fun _ _ => before_waits) hs 0 σ _ a' w' (hcl.put hr) hc.1 (fun _ a w hq => ⟨by have := hc.2; rwa [after_cons] at this, hq⟩) hk
  | .frk [] _ _, _, _, _, _, h, _, _, _ => by simp [Tr.one] at h
  | .frk (i :: σ) x y, s, a, w, hcl, _, hr, hc, h => by
    simp only [checkT.checkU, List.tail_cons, List.headD_cons, Bool.and_eq_true, beq_iff_eq] at hc
    obtain ⟨⟨⟨⟨⟨⟨c1, c2⟩, c3⟩, c4⟩, c5⟩, c6⟩, c7⟩ := hc
    rw [after_cons] at c2 c6 c7
    have h' := wpX_of_wpL (i :: σ) a w h
    simp only [wpX] at h'
    obtain ⟨m, hm⟩ : ∃ m, m + 1 = x.len := by
      cases x with
      | fin τ => cases τ with
        | nil => simp [Tr.one] at c3
        | cons j τ => exact ⟨τ.length, rfl⟩
      | frk τ u v => cases τ with
        | nil => simp [Tr.one] at c3
        | cons j τ => exact ⟨τ.length + u.len, by simp only [Tr.len, List.length_cons]; omega⟩
    refine ⟨σ.length + (m + 1), by simp only [Tr.len, List.length_cons]; omega, wpOpX_monoQ (fun a' w' hk => ?_) h'⟩
    show wpAnyX N P .any l.toArray (fun i => ks.getD i 2) Q (σ.length + (m + 1)) (s.setIfInBounds i true) a' w'
    refine wpAnyX_of_pre (fun _ _ => before_waits) hs (m + 1) σ _ a' w' (hcl.put hr) c1 (fun hcl2 a w hq => ?_) hk
    obtain ⟨q1, q2⟩ := hq
    refine ⟨fun h0 => (by rw [c2] at h0; cases h0), fun j hj => ?_⟩
    have hj0 := hj
    rw [c2] at hj
    simp only [List.mem_cons, List.not_mem_nil, or_false] at hj
    rcases hj with rfl | rfl
    · obtain ⟨n, hn, r⟩ := wpT_u hs x _ a w hcl2 c3 hj0 c6 q1
      obtain rfl : n = m := by omega
      exact r
    · obtain ⟨n, hn, r⟩ := wpT_u hs y _ a w hcl2 c4 hj0 c7 q2
      obtain rfl : n = m := by omega
      exact r
theorem wpT_any (hs : Region.noSelect l.toArray = true) : ∀ (t : Tr) (s : Array Bool) (a : Act) (w : World), Closed .any l.toArray s → checkT l ks t s = true → wpT N P Q l ks t a w → wpAnyX N P .any l.toArray (fun i => ks.getD i 2) Q t.len s a w
  | .fin σ, s, a, w, hcl, hc, h => by
    simp only [checkT, Bool.and_eq_true, List.isEmpty_iff] at hc
    exact wpAnyX_of_pre (Q' := Q) (fun _ _ => before_waits) hs 0 σ s a w hcl hc.1 (fun _ a w hq => ⟨hc.2, hq⟩) (wpX_of_wpL σ a w h)
  | .frk σ x y, s, a, w, hcl, hc, h => by
    simp only [checkT, Bool.and_eq_true, beq_iff_eq] at hc
    obtain ⟨⟨⟨⟨⟨⟨c1, c2⟩, c3⟩, c4⟩, c5⟩, c6⟩, c7⟩ := hc
    refine wpAnyX_of_pre (fun _ _ => before_waits) hs x.len σ s a w hcl c1 (fun hcl2 a w hq => ?_) (wpX_of_wpL σ a w h)
    obtain ⟨q1, q2⟩ := hq
    obtain ⟨m, hm⟩ : ∃ m, m + 1 = x.len := by
      cases x with
      | fin τ => cases τ with
        | nil => simp [Tr.one] at c3
        | cons j τ => exact ⟨τ.length, rfl⟩
      | frk τ u v => cases τ with
        | nil => simp [Tr.one] at c3
        | cons j τ => exact ⟨τ.length + u.len, by simp only [Tr.len, List.length_cons]; omega⟩
    rw [← hm]
    refine ⟨fun h0 => (by rw [c2] at h0; cases h0), fun j hj => ?_⟩
    have hj0 := hj
    rw [c2] at hj
    simp only [List.mem_cons, List.not_mem_nil, or_false] at hj
    rcases hj with rfl | rfl
    · obtain ⟨n, hn, r⟩ := wpT_u hs x _ a w hcl2 c3 hj0 c6 q1
      obtain rfl : n = m := by omega
      exact r
    · obtain ⟨n, hn, r⟩ := wpT_u hs y _ a w hcl2 c4 hj0 c7 q2
      obtain rfl : n = m := by omega
      exact r
theorem wp_region_t {id : Nat} {a : Act} {w : World} (N : Nat) (ks : List Nat) (t : Tr) (hm : P.follows .mixedOrders = true) (hs : Region.noSelect l.toArray = true)
    (hn : t.len = l.length) (hB : checkT l ks t (Array.replicate l.length false) = true) (h : wpT N P Q l ks t a w.drew) : (Code.region id l.toArray true).wp P Q a w := by
  refine wp_region_any hm (wpAny_of_X (N := N) (kd := fun i => ks.getD i 2) _ _ _ _ ?_)
  have := wpT_any hs t (Array.replicate l.length false) a _ (closed_none _) hB h
  rw [hn] at this
  simpa using this
end

/-! ### The steps -/
section
variable {N : Nat} {P : Program} {Q : Exit → Act → World → Prop} {l : List XOp} {o : Oper} {a : Act} {w : World}
theorem wpL_nil (h : Q .normal a w) : wpL N P Q [] a w := h

theorem wpL_p (h : ∀ K : Act → World → Prop, (∀ a w, wpL N P Q l a w → K a w) → ∃ v, (∀ w', (execOp a.eval o).run P w' = .ok (.value v) w') ∧ K (a.put o.dst v) w) :
    wpL N P Q (⟨0, none, o⟩ :: l) a w := by
  simp only [wpL, wpK, wantedAt, if_true]
  exact ⟨fun _ => h _ (fun _ _ h => h), fun hk => by omega, fun hk => by omega, fun hk => by omega⟩

theorem wpL_r (h : ∀ K : Act → World → Prop, (∀ a w, wpL N P Q l a w → K a w) → ∃ v, (∀ w', KeepsN N w w' → (execOp a.eval o).run P w' = .ok (.value v) w') ∧ K (a.put o.dst v) w) :
    wpL N P Q (⟨1, none, o⟩ :: l) a w := by
  simp only [wpL, wpK, wantedAt, if_true]
  exact ⟨fun hk => by omega, fun _ => h _ (fun _ _ h => h), fun hk => by omega, fun hk => by omega⟩

theorem wpL_s {v : Value} (h1 : ∀ w', KeepsN N w w' → (execOp a.eval o).run P w' = .ok (.value v) w') (h2 : wpL N P Q l (a.put o.dst v) w) : wpL N P Q (⟨1, none, o⟩ :: l) a w := wpL_r fun K hK => ⟨v, h1, hK _ _ h2⟩
theorem wpL_e (h : ∀ K : Act → World → Prop, (∀ a w, wpL N P Q l a w → K a w) → o.wp P a w K (Only Q)) :
    wpL N P Q (⟨2, none, o⟩ :: l) a w := by
  simp only [wpL, wpK, wantedAt, if_true]
  exact ⟨fun hk => by omega, fun hk => by omega, fun _ => h _ (fun _ _ h => h), fun hk => by omega⟩

theorem wpL_k (h : ∀ K : Act → World → Prop, (∀ a w', KeepsN N w w' → wpL N P Q l a w' → K a w') → o.wp P a w K (Only Q)) :
    wpL N P Q (⟨3, none, o⟩ :: l) a w := by
  simp only [wpL, wpK, wantedAt, if_true]
  exact ⟨fun hk => by omega, fun hk => by omega, fun hk => by omega, fun _ => h _ (fun _ _ h h' => ⟨h, h'⟩)⟩

theorem wpL_no {k t : Nat} {want b : Bool} (hy : a.tmps[t]? = some (.bool b)) (hb : (b == want) = false)
    (h : ∀ K : Act → World → Prop, (∀ a w, wpL N P Q l a w → K a w) → K (a.put o.dst undef) w) : wpL N P Q (⟨k, some (some t, want), o⟩ :: l) a w := by
  have hw : wantedAt (some (some t, want)) a.tmps = false := by simp only [wantedAt, Option.bind_some, hy]; simpa using hb
  simp only [wpL, wpK, hw, Bool.false_eq_true, if_false]
  exact h _ (fun _ _ h => h)

theorem wpL_yes {k t : Nat} {want b : Bool} (hy : a.tmps[t]? = some (.bool b)) (hb : (b == want) = true)
    (h : wpL N P Q (⟨k, none, o⟩ :: l) a w) : wpL N P Q (⟨k, some (some t, want), o⟩ :: l) a w := by
  have hw : wantedAt (some (some t, want)) a.tmps = true := by simp only [wantedAt, Option.bind_some, hy]; simpa using hb
  simp only [wpL, wpK, hw, if_true]
  simp only [wpL, wpK, wantedAt, if_true] at h
  exact h

end
end Go.Proofs.YtogphaiomlfofaaDoor.RN
namespace Go.Proofs.YtogphaiomlfofaaDoor
open Go.RowKit
set_option linter.unusedVariables false
set_option linter.unusedSimpArgs false
attribute [local irreducible] wpL

abbrev acVal (a : Ac) : Value := .agg #[.int .i64 a.kind, .int .i64 a.cell, .int .i64 a.val]
def numsOf (k : Int) : Int := if k = 1 then 1 else if k = 2 ∨ k = 3 then 2 else 0
theorem p_numbers (k : Int) (w : World) : Calls Tryd.prog 24 #[.int .i64 k] w fun e w' => e = .returned (.int .i64 (numsOf k)) ∧ w' = w := by
  go_enter Tryd.func24, Tryd.ntmps24
  by_cases h1 : k = 1
  · subst h1
    go_wp2
    go_ret
    exact ⟨rfl, rfl⟩
  · by_cases h2 : k = 2
    · subst h2
      go_wp2
      go_ret
      exact ⟨rfl, rfl⟩
    · by_cases h3 : k = 3
      · subst h3
        go_wp2
        go_ret
        exact ⟨rfl, rfl⟩
      · have e1 : (k == 1) = false := by simpa using h1
        have e2 : (k == 2) = false := by simpa using h2
        have e3 : (k == 3) = false := by simpa using h3
        have hn : numsOf k = 0 := by unfold numsOf; rw [if_neg h1, if_neg (by omega)]
        rw [hn]
        clear hn h1 h2 h3
        go_wp2
        go_ret
        exact ⟨rfl, rfl⟩
def actOk (a : Ac) (n : Int) (last : Bool) : Bool :=
  if numsOf a.kind = 0 then (a.kind == 4) && last && (a.cell == 0) && (a.val == 0)
  else if numsOf a.kind = 1 ∧ a.val ≠ 0 then false
  else decide (0 ≤ a.cell) && decide (a.cell < n) && decide (-1000 ≤ a.val) && decide (a.val ≤ 1000)
theorem p_valid (a : Ac) (n : Int) (last : Bool) (w : World) : Calls Tryd.prog 15 #[acVal a, .int .i64 n, .bool last] w fun e w' => e = .returned (.bool (actOk a n last)) ∧ Below w.heap.size w w' := by
  obtain ⟨ak, al, av⟩ := a
  go_enter Tryd.func15, Tryd.ntmps15
  go_wp2_with fail
  refine (p_numbers _ _).mono ?_
  rintro e w1 ⟨rfl, rfl⟩
  have hB := (Below.refl w.heap.size w).alloc (Nat.le_refl _) (.cells #[.int .i64 ak, .int .i64 al, .int .i64 av] 35)
  have HB := hid hB
  clear hB
  by_cases h0 : numsOf ak = 0
  · rw [h0]
    cases last <;>
    · go_wp2
      all_goals
        go_ret
        exact ⟨by simp_all [actOk]; try omega, (Below.refl _ _).alloc (Nat.le_refl _) _⟩
  · by_cases h1 : numsOf ak = 1
    · rw [h1]
      go_wp2
      all_goals
        go_ret
        exact ⟨by simp_all [actOk]; try omega, (Below.refl _ _).alloc (Nat.le_refl _) _⟩
    · have e0 : (numsOf ak == 0) = false := by simpa using h0
      have e1 : (numsOf ak == 1) = false := by simpa using h1
      go_wp2
      all_goals
        go_ret
        exact ⟨by simp_all [actOk]; try omega, (Below.refl _ _).alloc (Nat.le_refl _) _⟩
structure ValidIs (P : Pg) : Prop where
  nums : 1 ≤ P.cells.length ∧ P.cells.length ≤ 4 ∧ 1 ≤ P.threads.length ∧ P.threads.length ≤ 4
  cell : ∀ (k : Nat) (c : Int), P.cells[k]? = some c → -1000000 ≤ c ∧ c ≤ 1000000
  txs : ∀ (i : Nat) (t : List (List Ac)), P.threads[i]? = some t → t.length ≤ 3
  acts : ∀ (i : Nat) (t : List (List Ac)), P.threads[i]? = some t → ∀ (k : Nat) (l : List Ac), t[k]? = some l → 1 ≤ l.length ∧ l.length ≤ 6
  act : ∀ (i : Nat) (t : List (List Ac)), P.threads[i]? = some t → ∀ (k : Nat) (l : List Ac), t[k]? = some l → ∀ (j : Nat) (a : Ac), l[j]? = some a → actOk a P.cells.length ((j : Int) == (l.length : Int) - 1) = true
theorem actOk_iff (a : Ac) (n : Nat) (last : Bool) : actOk a n last = true ↔ (a.kind = 4 ∧ last = true ∧ a.cell = 0 ∧ a.val = 0) ∨ ((a.kind = 1 ∧ a.val = 0 ∨ a.kind = 2 ∨ a.kind = 3) ∧ 0 ≤ a.cell ∧ a.cell < n ∧ -1000 ≤ a.val ∧ a.val ≤ 1000) := by
  unfold actOk numsOf
  by_cases h1 : a.kind = 1
  · simp [h1]; omega
  · by_cases h2 : a.kind = 2
    · simp [h2]; omega
    · by_cases h3 : a.kind = 3
      · simp [h3]; omega
      · cases last <;> simp [h1, h2, h3] <;> (try omega)
theorem ValidIs.ok {P : Pg} (h : ValidIs P) : PgOk P := by
  obtain ⟨n1, n2, n3, n4⟩ := h.nums
  refine ⟨⟨n1, n2⟩, fun c hc => ?_, ⟨n3, n4⟩, fun t ht => ?_, fun t ht l hl => ?_, fun t ht l hl k a ha => ?_⟩
  · obtain ⟨k, hk, e⟩ := List.mem_iff_getElem.1 hc
    exact h.cell k c (by rw [← e]; exact List.getElem?_eq_getElem hk)
  · obtain ⟨k, hk, e⟩ := List.mem_iff_getElem.1 ht
    exact h.txs k t (by rw [← e]; exact List.getElem?_eq_getElem hk)
  · obtain ⟨i, hi, e⟩ := List.mem_iff_getElem.1 ht
    obtain ⟨k, hk, e2⟩ := List.mem_iff_getElem.1 hl
    exact h.acts i t (by rw [← e]; exact List.getElem?_eq_getElem hi) k l (by rw [← e2]; exact List.getElem?_eq_getElem hk)
  · obtain ⟨i, hi, e⟩ := List.mem_iff_getElem.1 ht
    obtain ⟨j, hj, e2⟩ := List.mem_iff_getElem.1 hl
    have h1 := (actOk_iff _ _ _).1 (h.act i t (by rw [← e]; exact List.getElem?_eq_getElem hi) j l (by rw [← e2]; exact List.getElem?_eq_getElem hj) k a ha)
    rcases h1 with ⟨h1, h2, h3⟩ | h1
    · refine .inl ⟨h1, ?_, h3⟩
      have := (List.getElem?_eq_some_iff.1 ha).1
      have h4 : (k : Int) = (l.length : Int) - 1 := by simpa using h2
      omega
    · exact .inr h1
structure PgIs (w : World) (B : Nat) (vc vt : Value) (P : Pg) : Prop where
  cells : Sl w B 1 vc P.cells.length (P.cells.map (.int .i64))
  thr : IsThr w B vt P.threads
theorem PgIs.below {w w' : World} {B : Nat} {vc vt : Value} {P : Pg} (h : PgIs w B vc vt P) (hb : Below B w w') : PgIs w' B vc vt P := ⟨h.cells.below hb, h.thr.below hb⟩
theorem PgIs.more {w : World} {B B' : Nat} {vc vt : Value} {P : Pg} (h : PgIs w B vc vt P) (hb : B ≤ B') : PgIs w B' vc vt P := ⟨h.cells.more hb, h.thr.more hb⟩
def ValidPost (P : Pg) (ev : Value) (w : World) (e : Ending) (w' : World) : Prop := (ValidIs P ∧ e = .returned .nilIface ∨ ¬ ValidIs P ∧ e = .returned ev) ∧ Below w.heap.size w w'
theorem ValidPost.no {P : Pg} {ev : Value} {w w' : World} {e : Ending} (h : ¬ ValidIs P) (he : e = .returned ev) (hb : Below w.heap.size w w') : ValidPost P ev w e w' := ⟨.inr ⟨h, he⟩, hb⟩
theorem ValidPost.yes {P : Pg} {ev : Value} {w w' : World} {e : Ending} (h : ValidIs P) (he : e = .returned .nilIface) (hb : Below w.heap.size w w') : ValidPost P ev w e w' := ⟨.inl ⟨h, he⟩, hb⟩
def LOk (n : Nat) (l : List Ac) : Prop := (1 ≤ l.length ∧ l.length ≤ 6) ∧ ∀ (j : Nat) (a : Ac), l[j]? = some a → actOk a n ((j : Int) == (l.length : Int) - 1) = true
def TOk (n : Nat) (t : List (List Ac)) : Prop := t.length ≤ 3 ∧ ∀ (k : Nat) (l : List Ac), t[k]? = some l → LOk n l
theorem ValidIs.tok {P : Pg} (h : ValidIs P) {i : Nat} {t : List (List Ac)} (ht : P.threads[i]? = some t) : TOk P.cells.length t := ⟨h.txs i t ht, fun k l hl => ⟨h.acts i t ht k l hl, h.act i t ht k l hl⟩⟩
theorem Sl.intAt {w : World} {B n cap : Nat} {a : Option Addr} {l : List Int} (h : Sl w B 1 (.slice a n cap) n (l.map (.int .i64))) {k : Nat} (hk : k < n) : ∃ b off c, a = some ⟨b, off, none⟩ ∧ b < B ∧ l[k]? = some c ∧ w.cell? ⟨b, off + k, none⟩ = some (.int .i64 c) := by
  obtain ⟨b, off, u, rfl, hb, hu, hc⟩ := h.at1 hk
  rw [List.getElem?_map] at hu
  cases hl : l[k]? with
  | none => rw [hl] at hu; simp at hu
  | some c => rw [hl] at hu; simp at hu; subst hu; exact ⟨b, off, c, rfl, hb, rfl, hc⟩
set_option maxRecDepth 100000 in
set_option maxHeartbeats 4000000 in
theorem p_Valid (vc vt : Value) (P : Pg) (w : World) (h : PgIs w w.heap.size vc vt P) (ev : Value) (hev : w.cell? ⟨0, 0, none⟩ = some ev) (h10 : 0 < w.heap.size) :
    Calls Tryd.prog 6 #[.agg #[vc, vt]] w (ValidPost P ev w) := by
  obtain ⟨ac, cc, rfl, mc⟩ := h.cells.ex
  obtain ⟨at', ct, rfl, mt⟩ := h.thr.ex
  have H := hid h
  clear h
  have hB0 := (Below.refl w.heap.size w).alloc (Nat.le_refl _) (.cells #[.slice ac P.cells.length cc, .slice at' P.threads.length ct] 25)
  have HB0 := hid hB0
  have hev := cell_below hB0 h10 hev
  clear hB0
  by_cases h1 : 1 ≤ P.cells.length ∧ P.cells.length ≤ 4 ∧ 1 ≤ P.threads.length ∧ P.threads.length ≤ 4
  case neg =>
    have hn : ¬ ValidIs P := fun h => h1 h.nums
    have HN := hid hn
    clear hn
    generalize hnc : P.cells.length = n at *
    generalize hnt : P.threads.length = m at *
    go_enter Tryd.func6, Tryd.ntmps6
    by_cases a1 : 1 ≤ n
    · by_cases a2 : n ≤ 4
      · by_cases a3 : 1 ≤ m
        · have a4 : ¬ m ≤ 4 := by omega
          go_wp2
          go_ret
          exact ValidPost.no HN.out rfl HB0.out
        · go_wp2
          go_ret
          exact ValidPost.no HN.out rfl HB0.out
      · go_wp2
        go_ret
        exact ValidPost.no HN.out rfl HB0.out
    · go_wp2
      go_ret
      exact ValidPost.no HN.out rfl HB0.out
  case pos =>
    have h1' := hid h1
    obtain ⟨n1, n2, n3, n4⟩ := h1
    go_enter Tryd.func6, Tryd.ntmps6
    go_wp2_with fail
    have r0 := row_new w (.cells #[.slice ac P.cells.length cc, .slice at' P.threads.length ct] 25)
    have z0 : w.heap.size < (w.alloc (.cells #[.slice ac P.cells.length cc, .slice at' P.threads.length ct] 25)).heap.size := by simp
    have H0 := hid ((H.out.below HB0.out).more (Nat.le_of_lt z0))
    generalize w.alloc (.cells #[.slice ac P.cells.length cc, .slice at' P.threads.length ct] 25) = W0 at *
    have d0 : W0.cell? ⟨w.heap.size, 0, none⟩ = some (.slice ac P.cells.length cc) := row_cell r0 0
    have d1 : W0.cell? ⟨w.heap.size, 1, none⟩ = some (.slice at' P.threads.length ct) := row_cell r0 1
    clear r0 H
    go_loop [37] (fun i => ∃ k : Nat, k ≤ P.cells.length ∧ i = .int .i64 k ∧ ∀ (j : Nat) (c : Int), j < k → P.cells[j]? = some c → -1000000 ≤ c ∧ c ≤ 1000000) (fun i => P.cells.length - (intOf i).toNat)
    case atStart => exact ⟨0, by omega, by go_num, fun j c hj => absurd hj (by omega)⟩
    case round =>
      obtain ⟨k, hk, rfl, hok⟩ := hrel
      have HOK := hid hok
      clear hok
      by_cases hlt : k < P.cells.length
      · obtain ⟨b, off, c, rfl, hb, hc, hcc⟩ := H0.out.cells.intAt hlt
        have HC := hid hc
        clear hc
        by_cases c1 : -1000000 ≤ c
        · by_cases c2 : c ≤ 1000000
          · go_wp2_with fail
            go_round
            case rel =>
              refine ⟨k + 1, by omega, by go_num, fun j c' hj hc' => ?_⟩
              rcases Nat.lt_or_eq_of_le (Nat.lt_succ_iff.1 hj) with h | rfl
              · exact HOK.out j c' h hc'
              · rw [HC.out] at hc'; cases hc'; exact ⟨c1, c2⟩
            case measure => simp [intOf]; omega
          · go_wp2
            go_ret
            exact ValidPost.no (fun h => by have := (h.cell k c HC.out).2; omega) rfl HB0.out
        · go_wp2
          go_ret
          exact ValidPost.no (fun h => by have := (h.cell k c HC.out).1; omega) rfl HB0.out
      · obtain rfl : k = P.cells.length := by omega
        go_wp2_with fail
        have d0' := hid d0
        have hev' := hid hev
        clear d0 d1 hev
        go_loopw [52] (fun p wr => ∃ i : Nat, i ≤ P.threads.length ∧ p = .int .i64 i ∧ Below W0.heap.size W0 wr ∧ ∀ (j : Nat) (t : List (List Ac)), j < i → P.threads[j]? = some t → TOk P.cells.length t) (fun p _ => P.threads.length - (intOf p).toNat)
        case atStart => exact ⟨0, by omega, by go_num, Below.refl _ _, fun j t hj => absurd hj (by omega)⟩
        case round =>
          obtain ⟨i, hi, rfl, hbw, htk⟩ := hrel
          have HBW := hid hbw
          have HTK := hid htk
          clear hbw htk
          by_cases hlt : i < P.threads.length
          · obtain ⟨b, off, u, t, hat, hb, ht, hu, hut⟩ := H0.out.thr.at rfl hlt
            obtain ⟨au, cu, rfl, mu⟩ := hut.ex
            have hu := cell_below HBW.out hb hu
            have hev := cell_below HBW.out (by omega) hev'.out
            have h10' : 0 < wr.heap.size := by have := HBW.out.size; omega
            have hbz : b < wr.heap.size := by have := HBW.out.size; omega
            have HT := hid ht
            have HUT := hid hut
            subst hat
            clear ht hut
            by_cases c3 : t.length ≤ 3
            · go_wp2_with fail
              clear hu hev
              go_loopw [62] (fun p ws => ∃ k : Nat, k ≤ t.length ∧ p = .int .i64 k ∧ Below W0.heap.size W0 ws ∧ ∀ (j : Nat) (l : List Ac), j < k → t[j]? = some l → LOk P.cells.length l) (fun p _ => t.length - (intOf p).toNat)
              case atStart => exact ⟨0, by omega, by go_num, HBW.out, fun j t hj => absurd hj (by omega)⟩
              case round =>
                obtain ⟨k, hk, rfl, hbw, hlk⟩ := hrel
                have HBX := hid hbw
                have HLK := hid hlk
                clear hbw hlk
                by_cases hlk : k < t.length
                · obtain ⟨b', off', u', l, hal, hb', hl, hu', hul⟩ := HUT.out.at rfl hlk
                  obtain ⟨al, cl, rfl, ml⟩ := Sl.ex (show Sl W0 W0.heap.size 3 u' l.length (l.flatMap Ac.cells) from hul)
                  have hu' := cell_below HBX.out hb' hu'
                  have hev := cell_below HBX.out (by omega) hev'.out
                  have h10'' : 0 < wr.heap.size := by have := HBX.out.size; omega
                  have hbz' : b' < wr.heap.size := by have := HBX.out.size; omega
                  have HL := hid hl
                  have HUL := hid (show Sl W0 W0.heap.size 3 (.slice al l.length cl) l.length (l.flatMap Ac.cells) from hul)
                  subst hal
                  clear hl hul
                  by_cases c4 : 1 ≤ l.length
                  · by_cases c5 : l.length ≤ 6
                    · go_wp2_with fail
                      clear hu' hev
                      go_loopw [77] (fun p wt => ∃ j : Nat, j ≤ l.length ∧ p = .int .i64 j ∧ Below W0.heap.size W0 wt ∧ ∀ (q : Nat) (a : Ac), q < j → l[q]? = some a → actOk a P.cells.length ((q : Int) == (l.length : Int) - 1) = true) (fun p _ => l.length - (intOf p).toNat)
                      case atStart => exact ⟨0, by omega, by go_num, HBX.out, fun j t hj => absurd hj (by omega)⟩
                      case round =>
                        obtain ⟨j, hj, rfl, hbw, hact⟩ := hrel
                        have HBY := hid hbw
                        have HAC := hid hact
                        clear hbw hact
                        by_cases hlj : j < l.length
                        · obtain ⟨b3, o3, a, hal, hb3, ha, hc⟩ := HUL.out.atF Ac.len rfl hlj
                          have q0 : wr.cell? ⟨b3, o3 + j * 3, none⟩ = some (.int .i64 a.kind) := cell_below HBY.out hb3 (hc 0 (by decide))
                          have q1 : wr.cell? ⟨b3, o3 + j * 3 + 1, none⟩ = some (.int .i64 a.cell) := cell_below HBY.out hb3 (hc 1 (by decide))
                          have q2 : wr.cell? ⟨b3, o3 + j * 3 + 2, none⟩ = some (.int .i64 a.val) := cell_below HBY.out hb3 (hc 2 (by decide))
                          have e0 := cell_below HBY.out z0 d0'.out
                          have hev := cell_below HBY.out (by omega) hev'.out
                          have h10t : 0 < wr.heap.size := by have := HBY.out.size; omega
                          have hb3z : b3 < wr.heap.size := by have := HBY.out.size; omega
                          have hz0t : w.heap.size < wr.heap.size := by have := HBY.out.size; omega
                          have HA := hid ha
                          have hwr : wrap64 ((l.length : Int) - 1) = (l.length : Int) - 1 := IntWalk.wrap64_in _ (by omega)
                          subst hal
                          clear hc ha
                          go_wp2_with fail
                          refine (p_valid a _ _ _).mono ?_
                          rintro e w5 ⟨rfl, q5⟩
                          have qz : wr.heap.size + 1 ≤ w5.heap.size := by have := q5.size; simpa using this
                          have Q5 := hid ((HBY.out.alloc HBY.out.size (.cells #[.int .i64 a.kind, .int .i64 a.cell, .int .i64 a.val] 35)).trans (q5.mono (by have := HBY.out.size; simp; omega)))
                          have hev := cell_below Q5.out (by omega) hev'.out
                          have h10t : 0 < w5.heap.size := by have := Q5.out.size; omega
                          clear q5 q0 q1 q2 e0
                          cases hak : actOk a P.cells.length ((j : Int) == (l.length : Int) - 1) with
                          | true =>
                            go_wp2_with fail
                            go_roundw
                            case rel =>
                              refine ⟨j + 1, by omega, by go_num, Q5.out, fun q a' hq hqa => ?_⟩
                              rcases Nat.lt_or_eq_of_le (Nat.lt_succ_iff.1 hq) with h | rfl
                              · exact HAC.out q a' h hqa
                              · rw [HA.out] at hqa; cases hqa; exact hak
                            case measure => simp [intOf]; omega
                          | false =>
                            go_wp2
                            go_ret
                            exact ValidPost.no (fun h => by have := h.act i t HT.out k l HL.out j a HA.out; rw [hak] at this; cases this) rfl (HB0.out.trans (Q5.out.mono (by omega)))
                        · obtain rfl : j = l.length := by omega
                          go_wp2_with fail
                          go_roundw
                          case rel =>
                            refine ⟨k + 1, by omega, by go_num, HBY.out, fun q l' hq hl' => ?_⟩
                            rcases Nat.lt_or_eq_of_le (Nat.lt_succ_iff.1 hq) with h | rfl
                            · exact HLK.out q l' h hl'
                            · rw [HL.out] at hl'; cases hl'; exact ⟨⟨c4, c5⟩, fun q a hqa => HAC.out q a (List.getElem?_eq_some_iff.1 hqa).1 hqa⟩
                          case measure => simp [intOf]; omega
                    · go_wp2
                      go_ret
                      exact ValidPost.no (fun h => by have := h.acts i t HT.out k l HL.out; omega) rfl (HB0.out.trans (HBX.out.mono (by omega)))
                  · go_wp2
                    go_ret
                    exact ValidPost.no (fun h => by have := h.acts i t HT.out k l HL.out; omega) rfl (HB0.out.trans (HBX.out.mono (by omega)))
                · obtain rfl : k = t.length := by omega
                  go_wp2_with fail
                  go_roundw
                  case rel =>
                    refine ⟨i + 1, by omega, by go_num, HBX.out, fun q t' hq ht' => ?_⟩
                    rcases Nat.lt_or_eq_of_le (Nat.lt_succ_iff.1 hq) with h | rfl
                    · exact HTK.out q t' h ht'
                    · rw [HT.out] at ht'; cases ht'; exact ⟨c3, fun q l hql => HLK.out q l (List.getElem?_eq_some_iff.1 hql).1 hql⟩
                  case measure => simp [intOf]; omega
            · go_wp2
              go_ret
              exact ValidPost.no (fun h => by have := h.txs i t HT.out; omega) rfl (HB0.out.trans (HBW.out.mono (by omega)))
          · obtain rfl : i = P.threads.length := by omega
            go_wp2
            go_ret
            refine ValidPost.yes ⟨h1'.out, fun k c hc => HOK.out k c (List.getElem?_eq_some_iff.1 hc).1 hc, fun i t ht => (HTK.out i t (List.getElem?_eq_some_iff.1 ht).1 ht).1, fun i t ht k l hl => ((HTK.out i t (List.getElem?_eq_some_iff.1 ht).1 ht).2 k l hl).1, fun i t ht k l hl => ((HTK.out i t (List.getElem?_eq_some_iff.1 ht).1 ht).2 k l hl).2⟩ rfl (HB0.out.trans (HBW.out.mono (by omega)))
end Go.Proofs.YtogphaiomlfofaaDoor
namespace Go.Proofs.YtogphaiomlfofaaDoor
open Go.RowKit
set_option linter.unusedVariables false
set_option linter.unusedSimpArgs false
attribute [local irreducible] wpL

section
variable {α : Type} {f : α → List Value} {e : TypeId} {sz B : Nat} {P : Program} {o : Oper} {a : Act} {K : Act → World → Prop} {Q : Exit → Act → World → Prop}
theorem wp_makeF (s c : Operand) (t : TypeId) (ho : o.op = .makeSlice t s c) (z : Value) (bytes : Nat) (ht : P.underlying t = some (.slice e)) (hinfo : (P.info? e).map (fun i => (i.zero, i.size, i.bytes)) = some (some z, sz, bytes))
    {w : World} {n : Nat} (hs : a.eval s = .int .i64 0) (hc : a.eval c = .int .i64 n) (hn : n ≤ 9223372036854775807) (hby : bytes * n ≤ 140737488355328) (hB : B ≤ w.heap.size)
    (hK : ∀ w', OwnF f e sz w' B (.slice (some ⟨w.heap.size, 0, none⟩) 0 n) [] → Below w.heap.size w w' → w.heap.size + 1 ≤ w'.heap.size → K (a.put o.dst (.slice (some ⟨w.heap.size, 0, none⟩) 0 n)) w') :
    o.wp P a w K Q := by
  obtain ⟨i0, hi, hz0, hz1, hz2⟩ := info_parts hinfo
  obtain ⟨w', hr, h1, h2⟩ := run_make_own (P := P) w B t e i0 z sz ht hi hz0 hz1 .i64 .i64 n (by rw [hz2]; omega) (by unfold maxLen; omega) hB
  unfold Oper.wp execOp
  have hr' : (Instr.makeSlice t (.int .i64 0) (.int .i64 (n : Int))).run P w = .ok (.slice (some ⟨w.heap.size, 0, none⟩) 0 n) w' := hr
  simp [ho, hs, hc, hr', Result.andThen]
  refine hK w' h1 ((Below.refl w.heap.size w).grown h2 (Nat.le_refl _) (fun _ h => by cases h)) ?_
  obtain ⟨-, h3⟩ := h1
  rcases h3 with ⟨h3, -⟩ | ⟨g, cap, cur, hv, -, hh, -⟩
  · cases h3
  · simp only [Value.slice.injEq, Option.some.injEq, Addr.mk.injEq, and_true] at hv
    obtain ⟨rfl, -⟩ := hv
    exact row_lt hh
theorem wp_appA {N : Nat} {v u : Value} {l : List α} (s x : Operand) (t : TypeId)
    (ho : o.op = .call { callee := .builtin .append, args := #[s, x], argTypes := #[t, t] })
    (z : Value) (bytes : Nat) (ht : P.underlying t = some (.slice e)) (hinfo : (P.info? e).map (fun i => (i.zero, i.size, i.bytes)) = some (some z, sz, bytes))
    (hzs : z.cells.size = sz) {w : World} (hown : OwnF f e sz w B v l) (ys : List α) {m : Nat} (hm : ys.length = m) (hsrc : Sl w N sz u m (ys.flatMap f)) (hbase : B ≤ w.heap.size) (hs : a.eval s = v)
    (hx : a.eval x = u) (hl : ∀ y, (f y).length = sz) (h1 : ∀ y, ∀ u ∈ f y, u.oneCell' = true) (hn : l.length + m ≤ 9223372036854775807) (hby : (l.length + m) * bytes ≤ 140737488355328)
    (hK : ∀ v' w', OwnF f e sz w' B v' (l ++ ys) → Grw w w' v v' → K (a.put o.dst v') w') :
    o.wp P a w K Q := by
  by_cases hm0 : 0 < m
  · exact wp_appS s x t ho z bytes ht hinfo hzs hown ys hm hm0 hsrc hbase hs hx hl h1 hn hby fun g cap w' h2 h3 => hK _ w' h2 h3
  · obtain rfl : m = 0 := by omega
    have hys : ys = [] := List.eq_nil_of_length_eq_zero hm
    subst hys
    obtain ⟨ad, c, rfl, -⟩ := hsrc.ex
    obtain ⟨i0, hi, hz0, hz1, hz2⟩ := info_parts hinfo
    unfold Oper.wp execOp
    obtain ⟨av, cv, rfl, -⟩ := hown.sl.ex
    have hr : (Builtin.append_ #[t, t] o.type #[.slice av l.length cv, .slice ad 0 c]).run P w = .ok (.slice av l.length cv) w := by
      rcases hown.2 with ⟨hv, -⟩ | ⟨g, cap, cur, hv, _, _, hnc, _⟩
      · rw [hv]
        cases ad <;> simp [Builtin.append_, run_underlying ht, sizeOf, typeInfo, hi, Builtin.lenOf, Builtin.firstCells, loadCells, loadCellsFrom]
      · rw [hv]
        cases ad <;> simp [Builtin.append_, run_underlying ht, sizeOf, typeInfo, hi, Builtin.lenOf, Builtin.firstCells, hnc, storeCells, loadCells, loadCellsFrom]
    simp only [ho, resolve, invoke, builtin, Sem.run_bind, Sem.run_pure, Result.andThen_ok, List.map_toArray, List.map_cons, List.map_nil, hs, hx, hr]
    exact hK _ w (by simpa using hown) (Grw.refl w _)
theorem wpList_makeF {ops : Array Oper} {rest : List Oper} (hgd : o.guard = none) (s c : Operand) (t : TypeId) (ho : o.op = .makeSlice t s c) (z : Value) (bytes : Nat) (ht : P.underlying t = some (.slice e)) (hinfo : (P.info? e).map (fun i => (i.zero, i.size, i.bytes)) = some (some z, sz, bytes))
    {w : World} {n : Nat} (hs : a.eval s = .int .i64 0) (hc : a.eval c = .int .i64 n) (hn : n ≤ 9223372036854775807) (hby : bytes * n ≤ 140737488355328) (hB : B ≤ w.heap.size)
    (hK : ∀ w', OwnF f e sz w' B (.slice (some ⟨w.heap.size, 0, none⟩) 0 n) [] → Below w.heap.size w w' → w.heap.size + 1 ≤ w'.heap.size → wpList P ops Q rest (a.put o.dst (.slice (some ⟨w.heap.size, 0, none⟩) 0 n)) w') :
    wpList P ops Q (o :: rest) a w :=
  wpList_plain hgd fun _ hK' => wp_makeF s c t ho z bytes ht hinfo hs hc hn hby hB fun w' h1 h2 h3 => hK' _ _ (hK w' h1 h2 h3)
theorem wpList_appA {ops : Array Oper} {rest : List Oper} {N : Nat} {v u : Value} {l : List α} (hgd : o.guard = none) (s x : Operand) (t : TypeId)
    (ho : o.op = .call { callee := .builtin .append, args := #[s, x], argTypes := #[t, t] })
    (z : Value) (bytes : Nat) (ht : P.underlying t = some (.slice e)) (hinfo : (P.info? e).map (fun i => (i.zero, i.size, i.bytes)) = some (some z, sz, bytes))
    (hzs : z.cells.size = sz) {w : World} (hown : OwnF f e sz w B v l) (ys : List α) {m : Nat} (hm : ys.length = m) (hsrc : Sl w N sz u m (ys.flatMap f)) (hbase : B ≤ w.heap.size) (hs : a.eval s = v)
    (hx : a.eval x = u) (hl : ∀ y, (f y).length = sz) (h1 : ∀ y, ∀ u ∈ f y, u.oneCell' = true) (hn : l.length + m ≤ 9223372036854775807) (hby : (l.length + m) * bytes ≤ 140737488355328)
    (hK : ∀ v' w', OwnF f e sz w' B v' (l ++ ys) → Grw w w' v v' → wpList P ops Q rest (a.put o.dst v') w') :
    wpList P ops Q (o :: rest) a w :=
  wpList_plain hgd fun _ hK' => wp_appA s x t ho z bytes ht hinfo hzs hown ys hm hsrc hbase hs hx hl h1 hn hby fun v' w' h2 h3 => hK' _ _ (hK v' w' h2 h3)
end
section
variable {w : World} {B bW gT : Nat} {vc vt ve : Value} {P : Pg} {S : Wst}
set_option maxRecDepth 100000 in
theorem wk_events (h : WkAt w B bW gT vc vt ve P S) (hl : S.evs.length ≤ 100000) :
    Calls Tryd.prog 96 #[.pointer (some ⟨bW, 0, none⟩)] w fun e w' => ∃ v, e = .returned v ∧ OwnF Ev.cells 50 8 w' w.heap.size v S.evs ∧ Below w.heap.size w w' := by
  have hbl := row_lt h.row
  have d2 : w.cell? ⟨bW, 3, none⟩ = some ve := row_cell h.row 3
  obtain ⟨ae, ce, rfl, hme⟩ := h.evs.form2
  have HE := hid h.evs
  clear h
  go_enter Tryd.func96, Tryd.ntmps96
  go_wp2
  refine RN.wp_region_t (w.heap.size) [0, 0, 0, 1, 0, 3, 0, 0, 0, 1, 2, 0] (.fin [0, 1, 2, 3, 4, 6, 7, 8, 9, 5, 10, 11]) (by kernel_rfl) (by kernel_rfl) (by kernel_rfl) (by kernel_rfl) ?_
  simp only [RN.wpT, selX, guardAt, sD, sE, sF, sG]
  repeat (first | (refine RN.wpL_p (fun K hK => ?_); go_simp; refine hK _ _ ?_; clear hK K) | (apply RN.wpL_s; (intro w2 hw2; have hk1 := hw2.cell; have hk3 := hw2.1; clear hw2; go_simp; with_reducible rfl); simp only [Act.put, sA, sB, sC]) | (refine RN.wpL_nil ?_))
  refine RN.wpL_k (fun K hK => ?_)
  refine wp_makeF (f := Ev.cells) (e := 50) (sz := 8) (B := w.heap.size) _ _ _ rfl _ 64 Tryd.underlying37 infoE rfl rfl (by first | omega | (simp <;> omega)) (by first | omega | (simp <;> omega)) (by first | omega | (simp <;> omega)) ?_
  intro w1 o1 b1 z1
  refine hK _ _ (RN.KeepsN.of_below b1) ?_
  have b1 : Below w.heap.size w w1 := (Below.refl _ w).drew.trans b1
  have z1 : w.heap.size + 1 ≤ w1.heap.size := z1
  clear hK K
  repeat (first | (refine RN.wpL_p (fun K hK => ?_); go_simp; refine hK _ _ ?_; clear hK K) | (apply RN.wpL_s; (intro w2 hw2; have hk1 := hw2.cell; have hk3 := hw2.1; clear hw2; go_simp; with_reducible rfl); simp only [Act.put, sA, sB, sC]) | (refine RN.wpL_nil ?_))
  refine RN.wpL_e (fun K hK => ?_)
  refine wp_appA _ _ _ rfl _ 64 Tryd.underlying37 infoE rfl o1 S.evs rfl (HE.out.sl.below b1) (by first | omega | (simp <;> omega)) rfl rfl Ev.len ev_one (by first | omega | (simp <;> omega)) (by first | omega | (simp <;> omega)) ?_
  intro v' w2 o2 g2
  refine hK _ _ ?_
  clear hK K
  have b2 := b1.trans (g2.below b1.size fun k h => (o1.lt k h).1)
  have O2 := hid (show OwnF Ev.cells 50 8 w2 w.heap.size v' S.evs from o2)
  have B2 := hid b2
  clear o1 b1 g2 o2 b2
  repeat (first | (refine RN.wpL_p (fun K hK => ?_); go_simp; refine hK _ _ ?_; clear hK K) | (apply RN.wpL_s; (intro w2 hw2; have hk1 := hw2.cell; have hk3 := hw2.1; clear hw2; go_simp; with_reducible rfl); simp only [Act.put, sA, sB, sC]) | (refine RN.wpL_nil ?_))
  go_wp2
  go_ret
  exact ⟨v', rfl, O2.out, B2.out⟩
end
end Go.Proofs.YtogphaiomlfofaaDoor
