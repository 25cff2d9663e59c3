/- The engine clock as plain lists: what holds behind any steps, and when all is done. Conditions: those of each theorem, as typed. -/
import Derived.Test.YtogphaiomlfofaaGreatDoorCmCM
import Derived.Test.YtogphaiomlfofaaGreatDoorWjsM
set_option linter.unusedVariables false
set_option linter.unusedSimpArgs false
namespace Go.Proofs.YtogphaiomlfofaaGreatDoor
open Go.RowKit Go.Maps
set_option linter.unusedVariables false
set_option linter.unusedSimpArgs false

section
variable {P : Pg} {M M' : LM} {A : Au}
theorem LInv.readB (h : LInv P M) {i : Nat} {t : Th} (ht : M.W.ths[i]? = some t) : -900000000 ≤ t.read ∧ t.read ≤ 900000000 := by
  have hT : tot P ≤ 9484 := by unfold tot; have := h.ok.threads.2; omega
  have hev := h.ev
  have := (h.th i t ht).2
  unfold inB VB at this
  omega
theorem LInv.ceB (h : LInv P M) (k : Int) : -900000000 ≤ (ceAt M.cs k).val ∧ (ceAt M.cs k).val ≤ 900000000 := by
  have hT : tot P ≤ 9484 := by unfold tot; have := h.ok.threads.2; omega
  have hev := h.ev
  have := h.ceVal k
  unfold inB VB at this
  omega
theorem stp_wk (h : LInv P M) {i : Nat} {t : Th} (ht : M.W.ths[i]? = some t) (hs : Stp P M i t M') : Wk1 P M.W i t M'.W := by
  cases hs with
  | begin hw hb hx => exact .begin hw hb
  | call a hw hb hx ha hk => exact .call a hw hb ha hk
  | cancel a hw hb hx ha hk => exact .cancel a hw hb ha hk
  | try_ tm r s hw hb hx ha hs => exact .try_ hw hb ha
  | wrote a tm r s hw hb hx ha hk hs => exact .wrote a hw hb ha hk
  | kept a tm r s v hw hb hx ha hk hs hf =>
    have hT : tot P ≤ 9484 := by unfold tot; have := h.ok.threads.2; omega
    have hev := h.ev
    have hwr := h.wo i tm r s hs
    have hv := hwr.val (a.cell, v) ((fnd_some hwr.ssrt).1 hf)
    exact .read a v hw hb ha hk (by unfold inB VB at hv; simp only at hv; omega)
  | read a tm r s hw hb hx ha hk hs hf htn => exact .read a _ hw hb ha hk (by have := h.ceB a.cell; omega)
  | refused a tm r s hw hb hx ha hk hs hf htn => exact .abort (.inl hw) hb
  | abort hw hb hx => exact .abort (.inr (.inr hw)) hb
  | lock_ k l hw hb hx ho => exact .same
  | lockNo k l hw hb hx ho => exact .abort (.inr (.inl hw)) hb
  | tick tm r s hw hb hx hs => exact .same
  | look_ now k l tm r s hw hb hx hs htn => exact .same
  | lookNo now k l tm r s hw hb hx hs htn => exact .abort (.inr (.inl hw)) hb
  | write_ now k l tm r s hw hb hx hs => exact .same
  | commit hw hb hx => exact .commit hw hb
structure Lall (P : Pg) (M : LM) (A : Au) : Prop where
  li : LInv P M
  bi : BInv P M.W
  ji : JInv P M.W A
theorem Lall.step (h : Lall P M A) (i : Int) : ∃ A', Lall P (stepTo P M i) A' := by
  unfold stepTo
  cases hd : wDone P M.W i with
  | true => exact ⟨A, h⟩
  | false =>
    obtain ⟨k, rfl, hk⟩ := wDone_in h.li.thl hd
    obtain ⟨t, ht⟩ : ∃ t, M.W.ths[k]? = some t := ⟨_, List.getElem?_eq_getElem (by rw [h.li.thl]; exact hk)⟩
    have hdn : thDone P k t = false := by rw [← wDone_th ht]; exact hd
    have hs := stp_of h.li hk ht hd
    have hw := stp_wk h.li ht hs
    obtain ⟨A', h1⟩ := jstep h.ji h.li.ok hk ht hdn (h.li.th k t ht).1 (h.li.readB ht) hw
    exact ⟨A', (stp_inv h.li hk ht hdn hs).1, bstep h.li.ok h.bi hk ht hdn (h.li.th k t ht).1 hw, h1⟩
theorem Lall.steps : ∀ (l : List Int) {M : LM} {A : Au}, Lall P M A → ∃ A', Lall P (stepsTo P M l) A'
  | [], _, A, h => ⟨A, h⟩
  | i :: l, _, _, h => let ⟨_, h1⟩ := h.step i; Lall.steps l h1
theorem Lall.start (h : PgOk P) : Lall P (startLM P) [] := ⟨start_inv h, bzero P, jzero P⟩
theorem late_run (h : PgOk P) {l : List Int} {full : Bool} (hr : RunOf P (startLM P) l full M) : ∃ A, Lall P M A := by
  unfold RunOf at hr
  split at hr
  · obtain ⟨l2, rfl, -⟩ := hr
    exact (Lall.start h).steps _
  · rw [hr]; exact (Lall.start h).steps _
theorem Lall.evs (h : Lall P M A) : M.W.evs.length ≤ 400 := jevs h.ji h.li.ok h.li.thl fun i t ht => (h.li.th i t ht).1
theorem Lall.ended (h : Lall P M A) (hd : allDone P M.W = true) : ∀ s ∈ A, s.stand = 5 ∧ 0 ≤ s.fin := jended h.ji h.bi h.li.thl hd
theorem Lall.count (h : Lall P M A) (hd : allDone P M.W = true) : A.length = cntTxs P := jcount h.ji h.bi h.li.ok h.li.thl hd
theorem evs_step (h : LInv P M) (i : Int) : ∃ x, (stepTo P M i).W.evs = M.W.evs ++ x := by
  unfold stepTo
  cases hd : wDone P M.W i with
  | true => exact ⟨[], by simp⟩
  | false =>
    obtain ⟨k, rfl, hk⟩ := wDone_in h.thl hd
    obtain ⟨t, ht⟩ : ∃ t, M.W.ths[k]? = some t := ⟨_, List.getElem?_eq_getElem (by rw [h.thl]; exact hk)⟩
    have hs := stp_wk h ht (stp_of h hk ht hd)
    simp only [Bool.false_eq_true, if_false, Int.toNat_natCast]
    generalize stepIn P M k = M' at hs
    generalize M'.W = W' at hs ⊢
    cases hs with
    | same => exact ⟨[], by simp⟩
    | _ => exact ⟨_, rfl⟩
theorem evs_steps : ∀ (l : List Int) {M : LM}, LInv P M → ∃ x, (stepsTo P M l).W.evs = M.W.evs ++ x
  | [], _, _ => ⟨[], by simp [stepsTo]⟩
  | i :: l, M, h => by
    obtain ⟨x, hx⟩ := evs_step h i
    obtain ⟨y, hy⟩ := evs_steps l (step_inv h i).1
    refine ⟨x ++ y, ?_⟩
    show (stepsTo P (stepTo P M i) l).W.evs = _
    rw [hy, hx, List.append_assoc]
theorem steps_inv : ∀ (l : List Int) {M : LM}, LInv P M → LInv P (stepsTo P M l)
  | [], _, h => h
  | i :: l, _, h => steps_inv l (step_inv h i).1
theorem evs_prefix (h : PgOk P) (l l2 : List Int) : ∃ x, (stepsTo P (startLM P) (l ++ l2)).W.evs = (stepsTo P (startLM P) l).W.evs ++ x := by
  rw [stepsTo_app]
  exact evs_steps l2 (steps_inv l (start_inv h))
theorem evs_take (h : PgOk P) (l l2 : List Int) : (stepsTo P (startLM P) (l ++ l2)).W.evs.take (stepsTo P (startLM P) l).W.evs.length = (stepsTo P (startLM P) l).W.evs := by
  obtain ⟨x, hx⟩ := evs_prefix h l l2
  rw [hx, List.take_left]

end
end Go.Proofs.YtogphaiomlfofaaGreatDoor
