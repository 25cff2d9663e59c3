/- A step of the walk, and which transactions it ends. Conditions: those of each theorem, as typed. -/
import Derived.Test.YtogphaiomlfofaaGreatDoorWjsM
set_option linter.unusedVariables false
set_option linter.unusedSimpArgs false
namespace Go.Proofs.YtogphaiomlfofaaGreatDoor
open Go.RowKit Go.Maps
set_option linter.unusedVariables false
set_option linter.unusedSimpArgs false

section
variable {P : Pg} {S S' : Wst} {A : Au}
theorem retSt_stand1 {ret got : Int} {n : Nat} {s : St} (h : ∃ d, s.deeds.getLast? = some d) : (retSt ret got n s).stand = 1 := by
  obtain ⟨d, hd⟩ := h
  unfold retSt
  rw [hd]
def Ended (S S' : Wst) (i : Nat) (t : Th) (A A' : Au) : Prop := ∀ s ∈ A', s.stand = 5 → s ∈ A ∨ (s.id = idOf i t.tx ∧ ((S' = S.put i (endTh t, withTx (ev0 6) (idOf i t.tx)) ∧ s.status = 4) ∨ (S' = S.put i (endTh t, withTx (ev0 5) (idOf i t.tx)) ∧ s.status = 3)))
theorem ended_set (hJ : JInv P S A) {i k : Nat} {t : Th} {s s' : St} (hs : A[k]? = some s) (h : s'.stand ≠ 5) : Ended S S' i t A (A.set k s') := fun z hz h5 => by
  rcases mem_set hs hz hJ.ids with rfl | ⟨hz, -⟩
  · exact absurd h5 h
  · exact .inl hz
theorem jstep5 (hJ : JInv P S A) (hok : PgOk P) {i : Nat} (hi : i < P.threads.length) {t : Th} (ht : S.ths[i]? = some t) (hd : thDone P i t = false) (htk : ThOk P i t) (htr : -900000000 ≤ t.read ∧ t.read ≤ 900000000) (hw : Wk1 P S i t S') :
    ∃ A', JInv P S' A' ∧ Ended S S' i t A A' := by
  have hi4 : i < 4 := by have := hok.threads.2; omega
  have htx := tx_lt hok hi htk hd
  have ht3 := Pg.tx3 hok hi
  have ha6 := acts_le hok hi t.tx
  have hcl : P.cells.length ≤ 4 := hok.cells.2
  cases hw with
  | same => exact ⟨A, hJ, fun s hs _ => .inl hs⟩
  | begin hw hb =>
    refine ⟨_, (hJ.begun ht hb (by omega) (by omega) hw).2, fun s hs h5 => ?_⟩
    rcases List.mem_append.1 hs with hs | hs
    · exact .inl hs
    · have : s = newSt (withTx { ev0 1 with thread := i } (idOf i t.tx)) S.evs.length := by simpa using hs
      rw [this] at h5
      simp [newSt] at h5
  | call a hw hb ha hk =>
    obtain ⟨hkk, hc0, hc1, hv0, hv1⟩ := acts_kinds hok hi hd htk ha hk
    obtain ⟨k, s, hs, hid, hth, hst, hj'⟩ := hJ.called ht hb hw ha hk (by omega) ⟨hc0, hc1, by omega⟩ (fun _ => by unfold wrVal; split <;> omega)
    exact ⟨_, hj', ended_set hJ hs (by simp [callSt])⟩
  | cancel a hw hb ha hk =>
    obtain ⟨k, s, hs, hid, hth, hst, hj'⟩ := hJ.cancelled ht hb hw (by omega)
    exact ⟨_, hj', ended_set hJ hs (by simp [canS])⟩
  | try_ hw hb ha =>
    obtain ⟨k, s, hs, hid, hth, hst, hj'⟩ := hJ.tried ht hb hw (by omega)
    exact ⟨_, hj', ended_set hJ hs (by simp [tryS])⟩
  | wrote a hw hb ha hk =>
    obtain ⟨k, s, hs, hid, hth, hst, hj'⟩ := hJ.answered (ret := 1) (got := 0) ht hb hw (by omega) ha (.inl ⟨hk, rfl, rfl, rfl⟩) (by omega)
    exact ⟨_, hj', ended_set hJ hs (by rw [retSt_stand1 (hJ.dd s (List.mem_of_getElem? hs) (by rw [hst]; simp [standOf, hw]))]; omega)⟩
  | read a v hw hb ha hk hv =>
    obtain ⟨k, s, hs, hid, hth, hst, hj'⟩ := hJ.answered (ret := 3) (got := v) ht hb hw (by omega) ha (.inr ⟨hk, rfl, rfl⟩) hv
    exact ⟨_, hj', ended_set hJ hs (by rw [retSt_stand1 (hJ.dd s (List.mem_of_getElem? hs) (by rw [hst]; simp [standOf, hw]))]; omega)⟩
  | abort hw hb =>
    obtain ⟨k, s, hs, hid, hth, hst, hj'⟩ := hJ.ended (kind := 6) (status := 4) ht hb (by omega) ha6 htk.act (fun h => by
      rcases htk.waits with h1 | ⟨-, ⟨-, a, ha, -⟩ | ⟨h1, -⟩ | ⟨h1, -⟩⟩
      · omega
      · exact (List.getElem?_eq_some_iff.1 ha).1
      · omega
      · omega) (.inr ⟨rfl, rfl, hw⟩)
    refine ⟨_, hj', fun z hz h5 => ?_⟩
    rcases mem_set hs hz hJ.ids with rfl | ⟨hz, -⟩
    · exact .inr ⟨hid, .inl ⟨rfl, rfl⟩⟩
    · exact .inl hz
  | commit hw hb =>
    obtain ⟨k, s, hs, hid, hth, hst, hj'⟩ := hJ.ended (kind := 5) (status := 3) ht hb (by omega) ha6 htk.act (fun h => by omega) (.inl ⟨rfl, rfl, hw⟩)
    refine ⟨_, hj', fun z hz h5 => ?_⟩
    rcases mem_set hs hz hJ.ids with rfl | ⟨hz, -⟩
    · exact .inr ⟨hid, .inr ⟨rfl, rfl⟩⟩
    · exact .inl hz
end
end Go.Proofs.YtogphaiomlfofaaGreatDoor
