/- LatchApart, plain: the two threads' program, each thread's by itself. Conditions: those of each theorem, as typed. -/
import Derived.Test.YtogphaiomlfofaaDoorTmPM
set_option linter.unusedVariables false
set_option linter.unusedSimpArgs false
namespace Go.Proofs.YtogphaiomlfofaaDoor
open Go.RowKit Go.Maps
set_option linter.unusedVariables false
set_option linter.unusedSimpArgs false

def parOwn (i : Nat) (k : Int) : Bool := if i = 0 then k % 2 == 0 else k % 2 == 1
def two (P : Pg) : Pg := ⟨P.cells, P.threads.take 2⟩
def one (P : Pg) (t : Nat) : Pg := ⟨P.cells, (P.threads.take 2).set (1 - t) []⟩
section
variable {P : Pg} {M N : LM}
theorem two_at {i : Nat} {x : List (List Ac)} (h : (two P).threads[i]? = some x) : P.threads[i]? = some x := by
  unfold two at h
  rw [List.getElem?_take] at h
  split at h
  · exact h
  · cases h
theorem one_at {t i : Nat} {x : List (List Ac)} (h : (one P t).threads[i]? = some x) : x = [] ∨ P.threads[i]? = some x := by
  unfold one at h
  rcases get_set h with ⟨-, e⟩ | ⟨-, h⟩
  · exact .inl e
  · exact .inr (two_at h)
theorem two_valid (h : ValidIs P) (h2 : 2 ≤ P.threads.length) : ValidIs (two P) := by
  obtain ⟨n1, n2, n3, n4⟩ := h.nums
  have hl : (two P).threads.length = 2 := by simp [two]; omega
  refine ⟨⟨n1, n2, by omega, by omega⟩, h.cell, fun i t ht => h.txs i t (two_at ht), fun i t ht => h.acts i t (two_at ht), fun i t ht => h.act i t (two_at ht)⟩
theorem one_valid (h : ValidIs P) (h2 : 2 ≤ P.threads.length) (t : Nat) : ValidIs (one P t) := by
  obtain ⟨n1, n2, n3, n4⟩ := h.nums
  have hl : (one P t).threads.length = 2 := by simp [one]; omega
  refine ⟨⟨n1, n2, by omega, by omega⟩, h.cell, fun i x ht => ?_, fun i x ht k l hl => ?_, fun i x ht k l hl => ?_⟩
  · rcases one_at ht with rfl | h1
    · simp
    · exact h.txs i x h1
  · rcases one_at ht with rfl | h1
    · simp at hl
    · exact h.acts i x h1 k l hl
  · rcases one_at ht with rfl | h1
    · simp at hl
    · exact h.act i x h1 k l hl
def ParA (i : Nat) (a : Ac) : Prop := (i = 0 → a.cell % 2 ≠ 1) ∧ (i = 1 → a.cell % 2 = 0 → a.kind = 4)
def ParOk (P : Pg) : Prop := ∀ (i k j : Nat) (a : Ac), i < 2 → ((two P).acts i k)[j]? = some a → ParA i a
theorem par_ainv (h : ParOk P) : AInv parOwn (two P) := by
  intro i k j a ha hk
  by_cases hi : i < 2
  · obtain ⟨h1, h2⟩ := h i k j a hi ha
    unfold parOwn
    split
    · rename_i e
      have := h1 e
      simp; omega
    · have : ¬ a.cell % 2 = 0 := fun e => hk (h2 (by omega) e)
      simp; omega
  · exfalso
    have : (two P).txs i = [] := by
      unfold Pg.txs two
      rw [List.getD_eq_getElem?_getD, List.getElem?_eq_none (by simp; omega)]
      rfl
    unfold Pg.acts at ha
    rw [this] at ha
    simp at ha
theorem par_apart {i t : Nat} (hi : i < 2) (ht : t < 2) (hne : i ≠ t) (k : Int) (h : parOwn t k = true) : parOwn i k = false := by
  unfold parOwn at h ⊢
  split at h <;> split <;> simp at h ⊢ <;> omega
theorem law_apart (hv : ValidIs P) (h2 : 2 ≤ P.threads.length) (hp : ParOk P) {t : Nat} (ht : t < 2) {l : List Int} (hr : RunOf (two P) (startLM (two P)) l true M) (hr1 : RunOf (one P t) (startLM (one P t)) [] true N) : M.W.evs.filter (isT t) = N.W.evs := by
  have hl : (two P).threads.length = 2 := by simp [two]; omega
  have hl1 : (one P t).threads.length = 2 := by simp [one]; omega
  refine apart (own := parOwn) (two_valid hv h2).ok (one_valid hv h2 t).ok rfl ?_ (by omega) (by omega) (par_ainv hp) (fun i hne hi k hk => par_apart (by omega) ht hne k hk) (fun j hj => ?_) hr hr1
  · unfold Pg.txs two one
    simp only [List.getD_eq_getElem?_getD]
    rw [List.getElem?_set_ne (by omega)]
  · unfold Pg.txs one
    simp only [List.getD_eq_getElem?_getD]
    by_cases e : j < 2
    · have : j = 1 - t := by omega
      subst this
      rw [List.getElem?_set_self (by simp; omega)]
      rfl
    · rw [List.getElem?_eq_none (by simp; omega)]
      rfl
theorem steps_tx (hok : PgOk P) (l : List Int) : ∀ e ∈ (stepsTo P (startLM P) l).W.evs, 1 ≤ e.tx ∧ e.tx ≤ 12 := by
  have hA : AInv (fun _ _ => true) P := fun _ _ _ _ _ _ => rfl
  have key : ∀ (l : List Int) (M : LM), LInv P M → KInv (fun _ _ => true) M → (∀ e ∈ M.W.evs, 1 ≤ e.tx ∧ e.tx ≤ 12) → ∀ e ∈ (stepsTo P M l).W.evs, 1 ≤ e.tx ∧ e.tx ≤ 12 := by
    intro l
    induction l with
    | nil => intro M _ _ h; exact h
    | cons i l ih =>
      intro M hL hK h
      show ∀ e ∈ (stepsTo P (stepTo P M i) l).W.evs, _
      cases hd : wDone P M.W i with
      | true => rw [stepTo_idle hd]; exact ih M hL hK h
      | false =>
        obtain ⟨k, rfl, hk⟩ := wDone_in hL.thl hd
        obtain ⟨th, hth⟩ : ∃ th, M.W.ths[k]? = some th := ⟨_, List.getElem?_eq_getElem (by rw [hL.thl]; exact hk)⟩
        have hdn : thDone P k th = false := by rw [← wDone_th hth]; exact hd
        have hs := stp_of hL hk hth hd
        have e : stepTo P M k = stepIn P M k := by unfold stepTo; rw [hd]; rfl
        have hL' := (step_inv hL (k : Int)).1
        have h3 : th.tx < 3 := by have := tx_lt hok hk (hL.th k th hth).1 hdn; have := Pg.tx3 hok hk; omega
        have h4 : k < 4 := by have := hok.threads.2; omega
        obtain ⟨f1, f2, f3, es, f4, f5⟩ := stp_frame hA hK hL hk hth hdn hs
        rw [e] at hL' ⊢
        refine ih _ hL' f3 fun x hx => ?_
        rw [f4] at hx
        rcases List.mem_append.1 hx with hx | hx
        · exact h x hx
        · rw [f5 x hx]; unfold idOf; omega
  exact key l _ (start_inv hok) kinv_start (fun e he => by cases he)
theorem run_evs (hok : PgOk P) {l : List Int} {full : Bool} (hr : RunOf P (startLM P) l full M) : (∀ e ∈ M.W.evs, 1 ≤ e.tx ∧ e.tx ≤ 12) ∧ M.W.evs.length ≤ 100000 := by
  have key : ∀ l, (∀ e ∈ (stepsTo P (startLM P) l).W.evs, 1 ≤ e.tx ∧ e.tx ≤ 12) ∧ (stepsTo P (startLM P) l).W.evs.length ≤ 100000 := fun l => ⟨steps_tx hok l, (steps_lin l (start_inv hok)).can.evs⟩
  unfold RunOf at hr
  split at hr
  · obtain ⟨l2, rfl, -⟩ := hr; exact key _
  · rw [hr]; exact key _
end
end Go.Proofs.YtogphaiomlfofaaDoor
