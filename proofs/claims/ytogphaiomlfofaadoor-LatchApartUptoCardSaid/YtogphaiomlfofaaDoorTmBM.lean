/- The engine latch as plain lists: the kinds of steps. Conditions: those of each theorem, as typed. -/
import Derived.Test.YtogphaiomlfofaaDoorTmAM
set_option linter.unusedVariables false
set_option linter.unusedSimpArgs false
namespace Go.Proofs.YtogphaiomlfofaaDoor
open Go.RowKit Go.Maps
set_option linter.unusedVariables false
set_option linter.unusedSimpArgs false

inductive Stp (P : Pg) (M : LM) (i : Nat) (t : Th) : LM → Prop
  | begin (hw : t.waits = 0) (hb : t.begun = false) (hx : M.nx[i]? = some .none) :
      Stp P M i t ⟨M.W.put i ({ t with begun := true }, withTx { ev0 1 with thread := i } (idOf i t.tx)), M.cs, M.ws.set i (some ([], [])), M.nx.set i .none⟩
  | call (a : Ac) (hw : t.waits = 0) (hb : t.begun = true) (hx : M.nx[i]? = some .none) (ha : (P.acts i t.tx)[t.act]? = some a) (hk : a.kind ≠ 4) :
      Stp P M i t ⟨M.W.put i ({ t with waits := 2 }, withTx (askOf t a) (idOf i t.tx)), M.cs, M.ws, M.nx.set i (.ans (withTx (askOf t a) (idOf i t.tx)))⟩
  | cancel (a : Ac) (hw : t.waits = 0) (hb : t.begun = true) (hx : M.nx[i]? = some .none) (ha : (P.acts i t.tx)[t.act]? = some a) (hk : a.kind = 4) :
      Stp P M i t ⟨M.W.put i ({ t with waits := 7 }, withTx (ev0 7) (idOf i t.tx)), M.cs, M.ws, M.nx.set i .abort⟩
  | try_ (r : MB) (s : MI) (hw : t.waits = 0) (hb : t.begun = true) (hx : M.nx[i]? = some .none) (ha : (P.acts i t.tx)[t.act]? = none) (hs : M.ws[i]? = some (some (r, s))) :
      Stp P M i t ⟨M.W.put i ({ t with waits := 4 }, withTx (ev0 4) (idOf i t.tx)), M.cs, M.ws, M.nx.set i (.rel (r.map (·.1)))⟩
  | wrote (a : Ac) (r : MB) (s : MI) (hw : t.waits = 2) (hb : t.begun = true) (hx : M.nx[i]? = some (.ans (withTx (askOf t a) (idOf i t.tx)))) (ha : (P.acts i t.tx)[t.act]? = some a) (hk : isWr t a) (hs : M.ws[i]? = some (some (r, s))) (ht : taken i t (ceAt M.cs a.cell) = false) :
      Stp P M i t ⟨M.W.put i (wrTh t, withTx { ev0 3 with ret := 1 } (idOf i t.tx)), M.cs.set a.cell.toNat ⟨wrVal t a, idOf i t.tx⟩, M.ws.set i (some (upd a.cell () r, if (fnd a.cell s).isSome then s else upd a.cell (ceAt M.cs a.cell).val s)), M.nx.set i .none⟩
  | read (a : Ac) (r : MB) (s : MI) (hw : t.waits = 2) (hb : t.begun = true) (hx : M.nx[i]? = some (.ans (withTx (askOf t a) (idOf i t.tx)))) (ha : (P.acts i t.tx)[t.act]? = some a) (hk : isRd t a) (hs : M.ws[i]? = some (some (r, s))) (ht : taken i t (ceAt M.cs a.cell) = false) :
      Stp P M i t ⟨M.W.put i (rdTh t a (ceAt M.cs a.cell).val, withTx { ev0 3 with ret := 3, val := (ceAt M.cs a.cell).val } (idOf i t.tx)), M.cs.set a.cell.toNat ⟨(ceAt M.cs a.cell).val, idOf i t.tx⟩, M.ws.set i (some (upd a.cell () r, s)), M.nx.set i .none⟩
  | refused (a : Ac) (r : MB) (s : MI) (hw : t.waits = 2) (hb : t.begun = true) (hx : M.nx[i]? = some (.ans (withTx (askOf t a) (idOf i t.tx)))) (ha : (P.acts i t.tx)[t.act]? = some a) (hk : a.kind ≠ 4) (hs : M.ws[i]? = some (some (r, s))) (ht : taken i t (ceAt M.cs a.cell) = true) :
      Stp P M i t ⟨M.W.put i (endTh t, withTx (ev0 6) (idOf i t.tx)), offCs r s M.cs, M.ws, M.nx.set i .none⟩
  | abort (r : MB) (s : MI) (hw : t.waits = 7) (hb : t.begun = true) (hx : M.nx[i]? = some .abort) (hs : M.ws[i]? = some (some (r, s))) :
      Stp P M i t ⟨M.W.put i (endTh t, withTx (ev0 6) (idOf i t.tx)), offCs r s M.cs, M.ws, M.nx.set i .none⟩
  | let_ (k : Int) (l : List Int) (hw : t.waits = 4) (hb : t.begun = true) (hx : M.nx[i]? = some (.rel (k :: l))) :
      Stp P M i t ⟨M.W, M.cs.set k.toNat ⟨(ceAt M.cs k).val, 0⟩, M.ws, M.nx.set i (.rel l)⟩
  | commit (hw : t.waits = 4) (hb : t.begun = true) (hx : M.nx[i]? = some (.rel [])) :
      Stp P M i t ⟨M.W.put i (endTh t, withTx (ev0 5) (idOf i t.tx)), M.cs, M.ws, M.nx.set i .none⟩
section
variable {P : Pg} {M : LM}
theorem LInv.kinds (h : LInv P M) {i : Nat} (hi : i < P.threads.length) {t : Th} (hd : thDone P i t = false) (htk : ThOk P i t) {a : Ac} (ha : (P.acts i t.tx)[t.act]? = some a) (hk : a.kind ≠ 4) : (a.kind = 1 ∧ a.val = 0 ∨ a.kind = 2 ∨ a.kind = 3) ∧ 0 ≤ a.cell ∧ a.cell < P.cells.length ∧ -1000 ≤ a.val ∧ a.val ≤ 1000 := by
  have htx := tx_lt h.ok hi htk hd
  rcases h.ok.at hi htx ha with ⟨hk', -⟩ | h
  · exact absurd hk' hk
  · exact h
theorem LInv.ceVal (h : LInv P M) (k : Int) : inB M.W.evs.length (ceAt M.cs k).val := by
  unfold ceAt
  cases hc : M.cs[k.toNat]? with
  | none => simp [inB, VB]; omega
  | some c => exact h.ce c (List.mem_of_getElem? hc)
theorem stp_of (h : LInv P M) {i : Nat} (hi : i < P.threads.length) {t : Th} (ht : M.W.ths[i]? = some t) (hdn : wDone P M.W i = false) : Stp P M i t (stepIn P M i) := by
  have hd : thDone P i t = false := by rw [← wDone_th ht]; exact hdn
  obtain ⟨htk, htr⟩ := h.th i t ht
  obtain ⟨x, hx⟩ : ∃ x, M.nx[i]? = some x := ⟨_, List.getElem?_eq_getElem (by rw [h.nxl]; exact hi)⟩
  obtain ⟨o, ho⟩ : ∃ o, M.ws[i]? = some o := ⟨_, List.getElem?_eq_getElem (by rw [h.wsl]; exact hi)⟩
  obtain ⟨hnx, hob⟩ := h.nx i t x o ht hx ho
  have hws : t.begun = true → ∃ r s, M.ws[i]? = some (some (r, s)) := fun hb => by
    cases o with
    | none => exact absurd rfl (hob hb)
    | some p => exact ⟨p.1, p.2, ho⟩
  unfold stepIn
  rw [ht, hx]
  simp only
  cases x with
  | none =>
    have hw : t.waits = 0 := hnx
    have hnn : ¬ (thDone P i t = true ∨ t.waits ≠ 0) := by simp [hd, hw]
    by_cases hb : t.begun = false
    · have e1 : ownEv P i t = { ev0 1 with thread := i } := by simp [ownEv, hb]
      have hn : nextOf P i t = some ({ t with begun := true }, withTx { ev0 1 with thread := i } (idOf i t.tx)) := by
        simp only [nextOf, e1]
        rw [if_neg hnn, if_pos hb]
      have e2 : ∀ r, reactOf r (withTx { ev0 1 with thread := (i : Int) } (idOf i t.tx)) = .none := fun r => by simp [reactOf, withTx, ev0]
      have e3 : (withTx { ev0 1 with thread := (i : Int) } (idOf i t.tx)).kind = 1 := rfl
      simp only [doStep, ownStep, hn, e2, e3, if_true]
      exact .begin hw hb hx
    · have hb' : t.begun = true := by simpa using hb
      have hn : ∀ E, ownEv P i t = E → nextOf P i t = some ({ t with waits := (withTx E (idOf i t.tx)).kind }, withTx E (idOf i t.tx)) := fun E e1 => by
        simp only [nextOf, e1]
        rw [if_neg hnn, if_neg hb]
      cases ha : (P.acts i t.tx)[t.act]? with
      | none =>
        have e1 : ownEv P i t = ev0 4 := by simp [ownEv, hb', ha]
        have e2 : ∀ r, reactOf r (withTx (ev0 4) (idOf i t.tx)) = .rel (r.map (·.1)) := fun r => by simp [reactOf, withTx, ev0]
        have e3 : (withTx (ev0 4) (idOf i t.tx)).kind = 4 := rfl
        simp only [doStep, ownStep, hn _ e1, e2, e3]
        rw [if_neg (by decide)]
        obtain ⟨r, s, hrs⟩ := hws hb'
        have e4 : woR M.ws[i]? = r := by rw [hrs]; rfl
        rw [e4]
        exact .try_ r s hw hb' hx ha hrs
      | some a =>
        by_cases hk : a.kind = 4
        · have e1 : ownEv P i t = ev0 7 := by simp [ownEv, hb', ha, hk]
          have e2 : ∀ r, reactOf r (withTx (ev0 7) (idOf i t.tx)) = .abort := fun r => by simp [reactOf, withTx, ev0]
          have e3 : (withTx (ev0 7) (idOf i t.tx)).kind = 7 := rfl
          simp only [doStep, ownStep, hn _ e1, e2, e3]
          rw [if_neg (by decide)]
          exact .cancel a hw hb' hx ha hk
        · have e1 : ownEv P i t = askOf t a := by simp [ownEv, hb', ha, hk]
          have ek : (askOf t a).kind = 2 := by unfold askOf; split <;> (first | rfl | (split <;> rfl))
          have e3 : (withTx (askOf t a) (idOf i t.tx)).kind = 2 := ek
          have e2 : ∀ r, reactOf r (withTx (askOf t a) (idOf i t.tx)) = .ans (withTx (askOf t a) (idOf i t.tx)) := fun r => by simp [reactOf, e3]
          simp only [doStep, ownStep, hn _ e1, e2, e3]
          rw [if_neg (by decide)]
          exact .call a hw hb' hx ha hk
  | abort =>
    have hw : t.waits = 7 := hnx
    have hb := htk.begun (by omega)
    obtain ⟨r, s, hrs⟩ := hws hb
    have e1 : woR M.ws[i]? = r := by rw [hrs]; rfl
    have e2 : woS M.ws[i]? = s := by rw [hrs]; rfl
    have : ansOf P i t 0 true = some (endTh t, withTx (ev0 6) (idOf i t.tx)) := by simp [ansOf, hd, hw, endTh]
    rw [e1, e2]
    simp only [doStep, abortStep, this, Wst.putO]
    exact .abort r s hw hb hx hrs
  | rel l =>
    obtain ⟨hw, hl, hlk⟩ : t.waits = 4 ∧ l.length ≤ 4 ∧ ∀ k ∈ l, 0 ≤ k ∧ k < P.cells.length := hnx
    have hb := htk.begun (by omega)
    cases l with
    | nil =>
      have : ansOf P i t 0 false = some (endTh t, withTx (ev0 5) (idOf i t.tx)) := by simp [ansOf, hd, hw, endTh]
      simp only [doStep, relStep, this, Wst.putO]
      exact .commit hw hb hx
    | cons k l => exact .let_ k l hw hb hx
  | ans e =>
    obtain ⟨hw, a, ha, hk4, rfl⟩ := hnx
    have hb := htk.begun (by omega)
    obtain ⟨r, s, hrs⟩ := hws hb
    have e1 : woR M.ws[i]? = r := by rw [hrs]; rfl
    have e2 : woS M.ws[i]? = s := by rw [hrs]; rfl
    rw [e1, e2]
    obtain ⟨hkk, hc0, hc1, hv0, hv1⟩ := h.kinds hi hd htk ha hk4
    have hobj : (withTx (askOf t a) (idOf i t.tx)).obj = a.cell := by
      show (askOf t a).obj = a.cell
      unfold askOf; split <;> (first | rfl | (split <;> rfl))
    simp only [doStep, ansStep, hobj]
    cases htn : taken i t (ceAt M.cs a.cell) with
    | true =>
      have : ansOf P i t 0 true = some (endTh t, withTx (ev0 6) (idOf i t.tx)) := by simp [ansOf, hd, hw, endTh]
      simp only [if_true, abortStep, this, Wst.putO]
      exact .refused a r s hw hb hx ha hk4 hrs htn
    | false =>
      simp only [Bool.false_eq_true, if_false]
      by_cases hwr : isWr t a
      · have hop : (withTx (askOf t a) (idOf i t.tx)).op = 2 := by
          show (askOf t a).op = 2
          unfold askOf
          rcases hwr with h1 | ⟨h1, h2⟩
          · rw [if_pos h1]
          · rw [if_neg (by omega), if_pos ⟨h1, h2⟩]
        have hval : (withTx (askOf t a) (idOf i t.tx)).val = wrVal t a := by
          show (askOf t a).val = wrVal t a
          unfold askOf wrVal
          rcases hwr with h1 | ⟨h1, h2⟩
          · rw [if_pos h1, if_pos h1]
          · rw [if_neg (by omega), if_pos ⟨h1, h2⟩, if_neg (by omega)]
        have han : ∀ v, ansOf P i t v false = some (wrTh t, withTx { ev0 3 with ret := 1 } (idOf i t.tx)) := fun v => by
          have hnr : ¬ (a.kind = 1 ∨ a.kind = 3 ∧ t.adding = false) := by
            rintro (h1 | ⟨h1, h2⟩)
            · rcases hwr with h3 | ⟨h3, -⟩ <;> omega
            · rcases hwr with h3 | ⟨-, h3⟩
              · omega
              · rw [h2] at h3; cases h3
          simp only [ansOf, hd, hw, ha, wrTh]
          simp [hnr]
        rw [if_pos hop, han, hval]
        exact .wrote a r s hw hb hx ha hwr hrs htn
      · have hrd : isRd t a := by
          unfold isWr at hwr
          unfold isRd
          rcases hkk with ⟨h1, -⟩ | h1 | h1
          · exact .inl h1
          · exact absurd (.inl h1) hwr
          · refine .inr ⟨h1, ?_⟩
            cases had : t.adding with
            | false => rfl
            | true => exact absurd (.inr ⟨h1, had⟩) hwr
        have hop : (withTx (askOf t a) (idOf i t.tx)).op ≠ 2 := by
          show (askOf t a).op ≠ 2
          unfold askOf
          unfold isWr at hwr
          rw [if_neg fun h1 => hwr (.inl h1), if_neg fun h1 => hwr (.inr h1)]
          show (1 : Int) ≠ 2
          decide
        have han : ∀ v, within9 v = true → within9 (v + a.val) = true → ansOf P i t v false = some (rdTh t a v, withTx { ev0 3 with ret := 3, val := v } (idOf i t.tx)) := fun v h1 h2 => by
          have hr' : a.kind = 1 ∨ a.kind = 3 ∧ t.adding = false := hrd
          simp only [ansOf, hd, hw, ha, rdTh]
          simp only [Bool.false_eq_true, false_or, if_false, if_pos hr', h1, h2, Bool.true_eq_false, and_false, or_self]
          by_cases h3 : a.kind = 3 <;> simp [h3]
        have hT : tot P ≤ 4748 := by unfold tot; have := h.ok.threads.2; omega
        have hev := h.ev
        have within : ∀ v, inB M.W.evs.length v → within9 v = true ∧ within9 (v + a.val) = true := fun v hv => by
          unfold inB VB at hv
          unfold within9
          simp only [Bool.and_eq_true, decide_eq_true_eq]
          omega
        rw [if_neg hop]
        have hv : inB M.W.evs.length (ceAt M.cs a.cell).val := h.ceVal a.cell
        simp only [han _ (within _ hv).1 (within _ hv).2, Wst.putO]
        exact .read a r s hw hb hx ha hrd hrs htn
end
end Go.Proofs.YtogphaiomlfofaaDoor
