/- A step of the walk, and the automaton behind it; when all is done. Conditions: those of each theorem, as typed. -/
import Derived.Test.YtogphaiomlfofaaGreatDoorQM21
import Derived.Test.YtogphaiomlfofaaGreatDoorQM10
set_option linter.unusedVariables false
set_option linter.unusedSimpArgs false
namespace Go.Proofs.YtogphaiomlfofaaGreatDoor
open Go.RowKit Go.Maps
set_option linter.unusedVariables false
set_option linter.unusedSimpArgs false

section
variable {P : Pg} {S S' : Wst} {A : Au}
theorem acts_kinds (hok : PgOk P) {i : Nat} (hi : i < P.threads.length) {t : Th} (hd : thDone P i t = false) (htk : ThOk P i t) {a : Ac} (ha : (P.acts i t.tx)[t.act]? = some a) (hk : a.kind ≠ 4) : (a.kind = 1 ∧ a.val = 0 ∨ a.kind = 2 ∨ a.kind = 3) ∧ 0 ≤ a.cell ∧ a.cell < P.cells.length ∧ -1000 ≤ a.val ∧ a.val ≤ 1000 := by
  have htx := tx_lt hok hi htk hd
  rcases hok.at hi htx ha with ⟨hk', -⟩ | h
  · exact absurd hk' hk
  · exact h
inductive Moved (S : Wst) (i : Nat) (t : Th) (A : Au) : Au → Prop
  | same : Moved S i t A A
  | new : Moved S i t A (A ++ [newSt (withTx { ev0 1 with thread := i } (idOf i t.tx)) S.evs.length])
  | turn (k : Nat) (s s' : St) (hs : A[k]? = some s) (hid : s.id = idOf i t.tx) (he : s'.id = s.id) : Moved S i t A (A.set k s')
theorem jstep (hJ : JInv P S A) (hok : PgOk P) {i : Nat} (hi : i < P.threads.length) {t : Th} (ht : S.ths[i]? = some t) (hd : thDone P i t = false) (htk : ThOk P i t) (htr : -900000000 ≤ t.read ∧ t.read ≤ 900000000) (hw : Wk1 P S i t S') :
    ∃ A', JInv P S' A' := by
  have hi4 : i < 4 := by have := hok.threads.2; omega
  have htx := tx_lt hok hi htk hd
  have ht3 := Pg.tx3 hok hi
  have ha6 := acts_le hok hi t.tx
  have hcl : P.cells.length ≤ 4 := hok.cells.2
  cases hw with
  | same => exact ⟨A, hJ⟩
  | begin hw hb => exact ⟨_, (hJ.begun ht hb (by omega) (by omega) hw).2⟩
  | call a hw hb ha hk =>
    obtain ⟨hkk, hc0, hc1, hv0, hv1⟩ := acts_kinds hok hi hd htk ha hk
    obtain ⟨k, s, hs, hid, hth, hst, hj'⟩ := hJ.called ht hb hw ha hk (by omega) ⟨hc0, hc1, by omega⟩ (fun _ => by unfold wrVal; split <;> omega)
    exact ⟨_, hj'⟩
  | cancel a hw hb ha hk =>
    obtain ⟨k, s, hs, hid, hth, hst, hj'⟩ := hJ.cancelled ht hb hw (by omega)
    exact ⟨_, hj'⟩
  | try_ hw hb ha =>
    obtain ⟨k, s, hs, hid, hth, hst, hj'⟩ := hJ.tried ht hb hw (by omega)
    exact ⟨_, hj'⟩
  | wrote a hw hb ha hk =>
    obtain ⟨k, s, hs, hid, hth, hst, hj'⟩ := hJ.answered (ret := 1) (got := 0) ht hb hw (by omega) ha (.inl ⟨hk, rfl, rfl, rfl⟩) (by omega)
    exact ⟨_, hj'⟩
  | read a v hw hb ha hk hv =>
    obtain ⟨k, s, hs, hid, hth, hst, hj'⟩ := hJ.answered (ret := 3) (got := v) ht hb hw (by omega) ha (.inr ⟨hk, rfl, rfl⟩) hv
    exact ⟨_, hj'⟩
  | abort hw hb =>
    obtain ⟨k, s, hs, hid, hth, hst, hj'⟩ := hJ.ended (kind := 6) (status := 4) ht hb (by omega) ha6 htk.act (fun h => by
      rcases htk.waits with h1 | ⟨-, ⟨-, a, ha, -⟩ | ⟨h1, -⟩ | ⟨h1, -⟩⟩
      · omega
      · exact (List.getElem?_eq_some_iff.1 ha).1
      · omega
      · omega) (.inr ⟨rfl, rfl, hw⟩)
    exact ⟨_, hj'⟩
  | commit hw hb =>
    obtain ⟨k, s, hs, hid, hth, hst, hj'⟩ := hJ.ended (kind := 5) (status := 3) ht hb (by omega) ha6 htk.act (fun h => by omega) (.inl ⟨rfl, rfl, hw⟩)
    exact ⟨_, hj'⟩
def BInv (P : Pg) (S : Wst) : Prop := ∀ (i : Nat) (t : Th), S.ths[i]? = some t → t.begun = true → t.tx < (P.txs i).length
theorem bstep (hok : PgOk P) (hB : BInv P S) {i : Nat} (hi : i < P.threads.length) {t : Th} (ht : S.ths[i]? = some t) (hd : thDone P i t = false) (htk : ThOk P i t) (hs : Wk1 P S i t S') : BInv P S' := by
  have hlt := tx_lt hok hi htk hd
  have e1 : ∀ u : Th, (endTh u).begun = false := fun _ => rfl
  cases hs with
  | same => exact hB
  | begin hw hb => exact bput hB fun _ => hlt
  | call a hw hb ha hk => exact bput hB fun _ => hlt
  | cancel a hw hb ha hk => exact bput hB fun _ => hlt
  | try_ hw hb ha => exact bput hB fun _ => hlt
  | wrote a hw hb ha hk => exact bput hB fun _ => hlt
  | read a v hw hb ha hk hv => exact bput hB fun _ => by unfold rdTh; split <;> exact hlt
  | abort hw hb => exact bput hB fun h => by rw [e1] at h; cases h
  | commit hw hb => exact bput hB fun h => by rw [e1] at h; cases h
theorem jzero (P : Pg) : JInv P ⟨List.replicate P.threads.length Th.zero, []⟩ [] := by
  have hz : ∀ (i : Nat) (t : Th), (List.replicate P.threads.length Th.zero)[i]? = some t → t = Th.zero := fun i t ht => List.eq_of_mem_replicate (List.mem_of_getElem? ht)
  refine ⟨.nil, fun e he => (nomatch he), Nat.zero_le _, fun i t ht k hk => ?_, fun i t ht hb => ?_, fun s hs => (nomatch hs), List.nodup_nil, fun i t ht => ?_, fun i t ht => ?_, fun s hs => (nomatch hs), fun i t s d a ht hs => (nomatch hs)⟩
  · rw [hz i t ht] at hk; cases hk
  · rw [hz i t ht] at hb; cases hb
  · rw [hz i t ht]; exact ⟨.inl rfl, fun _ => ⟨rfl, rfl⟩, fun h => by cases h⟩
  · rw [hz i t ht]; exact ⟨Nat.zero_le _, fun h => by cases h⟩
theorem bzero (P : Pg) : BInv P ⟨List.replicate P.threads.length Th.zero, []⟩ := fun i t ht hb => by
  have : t = Th.zero := List.eq_of_mem_replicate (List.mem_of_getElem? ht)
  rw [this] at hb; cases hb
theorem jevs (hJ : JInv P S A) (hok : PgOk P) (hthl : S.ths.length = P.threads.length) (htk : ∀ (i : Nat) (t : Th), S.ths[i]? = some t → ThOk P i t) : S.evs.length ≤ 400 := by
  have h1 := hJ.cnt
  have h2 : ∀ t ∈ S.ths, hTh t ≤ 99 := fun t ht => by
    obtain ⟨i, hi⟩ := List.mem_iff_getElem?.1 ht
    have h3 := hJ.bt i t hi
    have h4 := (htk i t hi).act
    have h5 : (P.acts i t.tx).length ≤ 6 := acts_le hok (by rw [← hthl]; exact (List.getElem?_eq_some_iff.1 hi).1) _
    have h6 := (hJ.wt i t hi).2.1
    unfold hTh
    cases hb : t.begun with
    | false =>
      obtain ⟨h7, h8⟩ := h6 hb
      rw [h7, h8]
      simp
      split <;> omega
    | true =>
      have := h3.2 hb
      simp
      split <;> split <;> omega
  have h3 : ∀ (l : List Th), (∀ t ∈ l, hTh t ≤ 99) → sumTh l ≤ 99 * l.length := fun l => by
    induction l with
    | nil => intro _; simp [sumTh]
    | cons x l ih =>
      intro hl
      have := ih fun t ht => hl t (List.mem_cons_of_mem _ ht)
      have := hl x (List.mem_cons_self ..)
      simp only [sumTh, List.map_cons, List.sum_cons, List.length_cons] at *
      omega
  have := h3 _ h2
  rw [hthl] at this
  have := hok.threads.2
  omega
theorem jended (hJ : JInv P S A) (hB : BInv P S) (hthl : S.ths.length = P.threads.length) (hd : allDone P S = true) : ∀ s ∈ A, s.stand = 5 ∧ 0 ≤ s.fin := by
  intro s hs
  obtain ⟨i, t, k, ht, hid, hth, hc⟩ := hJ.all s hs
  rcases hc with ⟨-, h1, h2⟩ | ⟨-, hb, -⟩
  · exact ⟨h1, h2⟩
  · have := hB i t ht hb
    have hi : i < P.threads.length := by rw [← hthl]; exact (List.getElem?_eq_some_iff.1 ht).1
    have h2 := List.all_eq_true.1 hd i (List.mem_range.2 hi)
    rw [wDone_th ht] at h2
    have h3 : t.tx = (P.txs i).length := by simpa [thDone] using h2
    omega
theorem jcount (hJ : JInv P S A) (hB : BInv P S) (hok : PgOk P) (hthl : S.ths.length = P.threads.length) (hd : allDone P S = true) : A.length = cntTxs P := by
  rw [← allIds_len, ← List.length_map (f := fun s : St => s.id)]
  refine ((List.perm_ext_iff_of_nodup hJ.ids (allIds_nodup hok)).2 fun x => ?_).length_eq
  have hdone : ∀ (i : Nat) (t : Th), S.ths[i]? = some t → i < P.threads.length ∧ t.tx = (P.txs i).length := fun i t ht => by
    have hi : i < P.threads.length := by rw [← hthl]; exact (List.getElem?_eq_some_iff.1 ht).1
    have h2 := List.all_eq_true.1 hd i (List.mem_range.2 hi)
    rw [wDone_th ht] at h2
    exact ⟨hi, by simpa [thDone] using h2⟩
  rw [mem_allIds]
  constructor
  · intro hx
    obtain ⟨s, hs, rfl⟩ := List.mem_map.1 hx
    obtain ⟨i, t, k, ht, hid, hth, hc⟩ := hJ.all s hs
    obtain ⟨hi, htx⟩ := hdone i t ht
    refine ⟨i, k, hi, ?_, hid⟩
    rcases hc with ⟨hk, -⟩ | ⟨-, hb, -⟩
    · omega
    · have := hB i t ht hb
      omega
  · rintro ⟨i, k, hi, hk, rfl⟩
    obtain ⟨t, ht⟩ : ∃ t, S.ths[i]? = some t := ⟨_, List.getElem?_eq_getElem (by rw [hthl]; exact hi)⟩
    obtain ⟨-, htx⟩ := hdone i t ht
    obtain ⟨s, hs, hid⟩ := hJ.old i t ht k (by omega)
    exact List.mem_map.2 ⟨s, hs, hid⟩
end
end Go.Proofs.YtogphaiomlfofaaGreatDoor
