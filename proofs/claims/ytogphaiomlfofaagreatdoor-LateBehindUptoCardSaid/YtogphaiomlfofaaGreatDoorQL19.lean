/- The engine late as plain lists: the nine kinds of steps. The engine late as plain lists: what holds goes on holding; all ends. Conditions: those of each theorem, as typed. Merged by program out of 2 texts. -/
import Derived.Test.YtogphaiomlfofaaGreatDoorQL18
set_option linter.unusedVariables false
set_option linter.unusedSimpArgs false
namespace Go.Proofs.YtogphaiomlfofaaGreatDoor
open Go.RowKit Go.Maps
set_option linter.unusedVariables false
set_option linter.unusedSimpArgs false

def isWr (t : Th) (a : Ac) : Prop := a.kind = 2 ∨ a.kind = 3 ∧ t.adding = true
def isRd (t : Th) (a : Ac) : Prop := a.kind = 1 ∨ a.kind = 3 ∧ t.adding = false
def wrVal (t : Th) (a : Ac) : Int := if a.kind = 2 then a.val else a.val + t.read
/-- The thread behind a read of v, behind a write. -/
def rdTh (t : Th) (a : Ac) (v : Int) : Th := if a.kind = 3 then { t with waits := 0, adding := true, read := v } else { t with waits := 0, act := t.act + 1 }
def wrTh (t : Th) : Th := { t with waits := 0, adding := false, act := t.act + 1 }
def endTh (t : Th) : Th := { Th.zero with tx := t.tx + 1 }
inductive Stp (P : Pg) (M : LM) (i : Nat) (t : Th) : LM → Prop
  | begin (hw : t.waits = 0) (hb : t.begun = false) (hx : M.nx[i]? = some .none) :
      Stp P M i t ⟨M.W.put i ({ t with begun := true }, withTx { ev0 1 with thread := i } (idOf i t.tx)), M.cs, M.ws.set i (some ([], [])), M.nx.set i .none⟩
  | call (a : Ac) (hw : t.waits = 0) (hb : t.begun = true) (hx : M.nx[i]? = some .none) (ha : (P.acts i t.tx)[t.act]? = some a) (hk : a.kind ≠ 4) :
      Stp P M i t ⟨M.W.put i ({ t with waits := 2 }, withTx (askOf t a) (idOf i t.tx)), M.cs, M.ws, M.nx.set i (.ans (withTx (askOf t a) (idOf i t.tx)))⟩
  | cancel (a : Ac) (hw : t.waits = 0) (hb : t.begun = true) (hx : M.nx[i]? = some .none) (ha : (P.acts i t.tx)[t.act]? = some a) (hk : a.kind = 4) :
      Stp P M i t ⟨M.W.put i ({ t with waits := 7 }, withTx (ev0 7) (idOf i t.tx)), M.cs, M.ws, M.nx.set i (.ends true)⟩
  | try_ (hw : t.waits = 0) (hb : t.begun = true) (hx : M.nx[i]? = some .none) (ha : (P.acts i t.tx)[t.act]? = none) :
      Stp P M i t ⟨M.W.put i ({ t with waits := 4 }, withTx (ev0 4) (idOf i t.tx)), M.cs, M.ws, M.nx.set i .look⟩
  | wrote (a : Ac) (r s : MI) (hw : t.waits = 2) (hb : t.begun = true) (hx : M.nx[i]? = some (.ans (withTx (askOf t a) (idOf i t.tx)))) (ha : (P.acts i t.tx)[t.act]? = some a) (hk : isWr t a) (hs : M.ws[i]? = some (some (r, s))) :
      Stp P M i t ⟨M.W.put i (wrTh t, withTx { ev0 3 with ret := 1 } (idOf i t.tx)), M.cs, M.ws.set i (some (r, upd a.cell (wrVal t a) s)), M.nx.set i .none⟩
  | kept (a : Ac) (r s : MI) (v : Int) (hw : t.waits = 2) (hb : t.begun = true) (hx : M.nx[i]? = some (.ans (withTx (askOf t a) (idOf i t.tx)))) (ha : (P.acts i t.tx)[t.act]? = some a) (hk : isRd t a) (hs : M.ws[i]? = some (some (r, s))) (hf : fnd a.cell s = some v) :
      Stp P M i t ⟨M.W.put i (rdTh t a v, withTx { ev0 3 with ret := 3, val := v } (idOf i t.tx)), M.cs, M.ws, M.nx.set i .none⟩
  | read (a : Ac) (r s r' : MI) (hw : t.waits = 2) (hb : t.begun = true) (hx : M.nx[i]? = some (.ans (withTx (askOf t a) (idOf i t.tx)))) (ha : (P.acts i t.tx)[t.act]? = some a) (hk : isRd t a) (hs : M.ws[i]? = some (some (r, s))) (hf : fnd a.cell s = none) (hr : r' = if (fnd a.cell r).isSome then r else upd a.cell (verAt M.cs a.cell) r) :
      Stp P M i t ⟨M.W.put i (rdTh t a (valAt M.cs a.cell), withTx { ev0 3 with ret := 3, val := valAt M.cs a.cell } (idOf i t.tx)), M.cs, M.ws.set i (some (r', s)), M.nx.set i .none⟩
  | abort (hw : t.waits = 7 ∨ t.waits = 4) (hb : t.begun = true) :
      Stp P M i t ⟨M.W.put i (endTh t, withTx (ev0 6) (idOf i t.tx)), M.cs, M.ws, M.nx.set i .none⟩
  | looked (r s : MI) (hw : t.waits = 4) (hb : t.begun = true) (hx : M.nx[i]? = some .look) (hs : M.ws[i]? = some (some (r, s))) (hst : stands r M.cs = true) :
      Stp P M i t ⟨M.W, wrS s (fun _ => false) M.cs, M.ws, M.nx.set i (.ends false)⟩
  | commit (hw : t.waits = 4) (hb : t.begun = true) (hx : M.nx[i]? = some (.ends false)) :
      Stp P M i t ⟨M.W.put i (endTh t, withTx (ev0 5) (idOf i t.tx)), M.cs, M.ws, M.nx.set i .none⟩
section
variable {P : Pg} {M : LM}
theorem wDone_th {S : Wst} {i : Nat} {t : Th} (ht : S.ths[i]? = some t) : wDone P S i = thDone P i t := by
  unfold wDone
  rw [if_neg (by omega)]
  simp only [Int.toNat_natCast, ht]
theorem ThOk.begun {i : Nat} {t : Th} (h : ThOk P i t) (hw : t.waits ≠ 0) : t.begun = true := by
  rcases h.waits with h | ⟨h, -⟩
  · exact absurd h hw
  · exact h
theorem LInv.kinds (h : LInv P M) {i : Nat} (hi : i < P.threads.length) {t : Th} (hd : thDone P i t = false) (htk : ThOk P i t) {a : Ac} (ha : (P.acts i t.tx)[t.act]? = some a) (hk : a.kind ≠ 4) : (a.kind = 1 ∧ a.val = 0 ∨ a.kind = 2 ∨ a.kind = 3) ∧ 0 ≤ a.cell ∧ a.cell < P.cells.length ∧ -1000 ≤ a.val ∧ a.val ≤ 1000 := by
  have htx := tx_lt h.ok hi htk hd
  rcases h.ok.at hi htx ha with ⟨hk', -⟩ | h
  · exact absurd hk' hk
  · exact h
theorem stp_of (h : LInv P M) {i : Nat} (hi : i < P.threads.length) {t : Th} (ht : M.W.ths[i]? = some t) (hdn : wDone P M.W i = false) : Stp P M i t (stepIn P M i) := by
  have hd : thDone P i t = false := by rw [← wDone_th ht]; exact hdn
  obtain ⟨htk, htr⟩ := h.th i t ht
  obtain ⟨x, hx⟩ : ∃ x, M.nx[i]? = some x := ⟨_, List.getElem?_eq_getElem (by rw [h.nxl]; exact hi)⟩
  obtain ⟨o, ho⟩ : ∃ o, M.ws[i]? = some o := ⟨_, List.getElem?_eq_getElem (by rw [h.wsl]; exact hi)⟩
  obtain ⟨hnx, hob⟩ := h.nx i t x o ht hx ho
  have hws : t.begun = true → ∃ r s, M.ws[i]? = some (some (r, s)) := fun hb => by
    cases o with
    | none => exact absurd rfl (hob hb)
    | some p => exact ⟨p.1, p.2, ho⟩
  unfold stepIn
  rw [ht, hx]
  simp only
  cases x with
  | none =>
    have hw : t.waits = 0 := hnx
    have hnn : ¬ (thDone P i t = true ∨ t.waits ≠ 0) := by simp [hd, hw]
    by_cases hb : t.begun = false
    · have e1 : ownEv P i t = { ev0 1 with thread := i } := by simp [ownEv, hb]
      have hn : nextOf P i t = some ({ t with begun := true }, withTx { ev0 1 with thread := i } (idOf i t.tx)) := by
        simp only [nextOf, e1]
        rw [if_neg hnn, if_pos hb]
      have e2 : reactOf (withTx { ev0 1 with thread := (i : Int) } (idOf i t.tx)) = .none := by simp [reactOf, withTx, ev0]
      have e3 : (withTx { ev0 1 with thread := (i : Int) } (idOf i t.tx)).kind = 1 := rfl
      simp only [doStep, ownStep, hn, e2, e3, if_true]
      exact .begin hw hb hx
    · have hb' : t.begun = true := by simpa using hb
      have hn : ∀ E, ownEv P i t = E → nextOf P i t = some ({ t with waits := (withTx E (idOf i t.tx)).kind }, withTx E (idOf i t.tx)) := fun E e1 => by
        simp only [nextOf, e1]
        rw [if_neg hnn, if_neg hb]
      cases ha : (P.acts i t.tx)[t.act]? with
      | none =>
        have e1 : ownEv P i t = ev0 4 := by simp [ownEv, hb', ha]
        have e2 : reactOf (withTx (ev0 4) (idOf i t.tx)) = .look := by simp [reactOf, withTx, ev0]
        have e3 : (withTx (ev0 4) (idOf i t.tx)).kind = 4 := rfl
        simp only [doStep, ownStep, hn _ e1, e2, e3]
        rw [if_neg (by decide)]
        exact .try_ hw hb' hx ha
      | some a =>
        by_cases hk : a.kind = 4
        · have e1 : ownEv P i t = ev0 7 := by simp [ownEv, hb', ha, hk]
          have e2 : reactOf (withTx (ev0 7) (idOf i t.tx)) = .ends true := by simp [reactOf, withTx, ev0]
          have e3 : (withTx (ev0 7) (idOf i t.tx)).kind = 7 := rfl
          simp only [doStep, ownStep, hn _ e1, e2, e3]
          rw [if_neg (by decide)]
          exact .cancel a hw hb' hx ha hk
        · have e1 : ownEv P i t = askOf t a := by simp [ownEv, hb', ha, hk]
          have ek : (askOf t a).kind = 2 := by unfold askOf; split <;> (first | rfl | (split <;> rfl))
          have e3 : (withTx (askOf t a) (idOf i t.tx)).kind = 2 := ek
          have e2 : reactOf (withTx (askOf t a) (idOf i t.tx)) = .ans (withTx (askOf t a) (idOf i t.tx)) := by simp [reactOf, e3]
          simp only [doStep, ownStep, hn _ e1, e2, e3]
          rw [if_neg (by decide)]
          exact .call a hw hb' hx ha hk
  | ends b =>
    cases b with
    | true =>
      have hw : t.waits = 7 := hnx
      have : ansOf P i t 0 true = some (endTh t, withTx (ev0 6) (idOf i t.tx)) := by simp [ansOf, hd, hw, endTh]
      simp only [doStep, this, Wst.putO]
      exact .abort (.inl hw) (htk.begun (by omega))
    | false =>
      have hw : t.waits = 4 := hnx
      have : ansOf P i t 0 false = some (endTh t, withTx (ev0 5) (idOf i t.tx)) := by simp [ansOf, hd, hw, endTh]
      simp only [doStep, this, Wst.putO]
      exact .commit hw (htk.begun (by omega)) hx
  | look =>
    have hw : t.waits = 4 := hnx
    have hb := htk.begun (by omega)
    obtain ⟨r, s, hrs⟩ := hws hb
    have e1 : woR M.ws[i]? = r := by rw [hrs]; rfl
    have e2 : woS M.ws[i]? = s := by rw [hrs]; rfl
    rw [e1, e2]
    simp only [doStep, lookStep]
    by_cases hst : stands r M.cs = true
    · rw [if_pos hst]
      exact .looked r s hw hb hx hrs hst
    · rw [if_neg hst]
      have : ansOf P i t 0 true = some (endTh t, withTx (ev0 6) (idOf i t.tx)) := by simp [ansOf, hd, hw, endTh]
      simp only [this, Wst.putO]
      exact .abort (.inr hw) hb
  | ans e =>
    obtain ⟨hw, a, ha, hk4, rfl⟩ := hnx
    have hb := htk.begun (by omega)
    obtain ⟨r, s, hrs⟩ := hws hb
    have e1 : woR M.ws[i]? = r := by rw [hrs]; rfl
    have e2 : woS M.ws[i]? = s := by rw [hrs]; rfl
    rw [e1, e2]
    obtain ⟨hkk, hc0, hc1, hv0, hv1⟩ := h.kinds hi hd htk ha hk4
    have hobj : (withTx (askOf t a) (idOf i t.tx)).obj = a.cell := by
      show (askOf t a).obj = a.cell
      unfold askOf; split <;> (first | rfl | (split <;> rfl))
    simp only [doStep, ansStep, hobj]
    by_cases hwr : isWr t a
    · have hop : (withTx (askOf t a) (idOf i t.tx)).op = 2 := by
        show (askOf t a).op = 2
        unfold askOf
        rcases hwr with h1 | ⟨h1, h2⟩
        · rw [if_pos h1]
        · rw [if_neg (by omega), if_pos ⟨h1, h2⟩]
      have hval : (withTx (askOf t a) (idOf i t.tx)).val = wrVal t a := by
        show (askOf t a).val = wrVal t a
        unfold askOf wrVal
        rcases hwr with h1 | ⟨h1, h2⟩
        · rw [if_pos h1, if_pos h1]
        · rw [if_neg (by omega), if_pos ⟨h1, h2⟩, if_neg (by omega)]
      have han : ansOf P i t 0 false = some (wrTh t, withTx { ev0 3 with ret := 1 } (idOf i t.tx)) := by
        have hnr : ¬ (a.kind = 1 ∨ a.kind = 3 ∧ t.adding = false) := by
          rintro (h1 | ⟨h1, h2⟩)
          · rcases hwr with h3 | ⟨h3, -⟩ <;> omega
          · rcases hwr with h3 | ⟨-, h3⟩
            · omega
            · rw [h2] at h3; cases h3
        simp only [ansOf, hd, hw, ha, wrTh]
        simp [hnr]
      rw [if_pos hop, han, hval]
      exact .wrote a r s hw hb hx ha hwr hrs
    · have hrd : isRd t a := by
        unfold isWr at hwr
        unfold isRd
        rcases hkk with ⟨h1, -⟩ | h1 | h1
        · exact .inl h1
        · exact absurd (.inl h1) hwr
        · refine .inr ⟨h1, ?_⟩
          cases had : t.adding with
          | false => rfl
          | true => exact absurd (.inr ⟨h1, had⟩) hwr
      have hop : (withTx (askOf t a) (idOf i t.tx)).op ≠ 2 := by
        show (askOf t a).op ≠ 2
        unfold askOf
        unfold isWr at hwr
        rw [if_neg fun h1 => hwr (.inl h1), if_neg fun h1 => hwr (.inr h1)]
        show (1 : Int) ≠ 2
        decide
      have han : ∀ v, within9 v = true → within9 (v + a.val) = true → ansOf P i t v false = some (rdTh t a v, withTx { ev0 3 with ret := 3, val := v } (idOf i t.tx)) := fun v h1 h2 => by
        have hr' : a.kind = 1 ∨ a.kind = 3 ∧ t.adding = false := hrd
        simp only [ansOf, hd, hw, ha, rdTh]
        simp only [Bool.false_eq_true, false_or, if_false, if_pos hr', h1, h2, Bool.true_eq_false, and_false, or_self]
        by_cases h3 : a.kind = 3 <;> simp [h3]
      have hT : tot P ≤ 2380 := by unfold tot; have := h.ok.threads.2; omega
      have hev := h.ev
      have within : ∀ v, inB M.W.evs.length v → within9 v = true ∧ within9 (v + a.val) = true := fun v hv => by
        unfold inB VB at hv
        unfold within9
        simp only [Bool.and_eq_true, decide_eq_true_eq]
        omega
      rw [if_neg hop]
      cases hf : fnd a.cell s with
      | some v =>
        have hv := (h.wo i r s hrs).val (a.cell, v) ((fnd_some (h.wo i r s hrs).ssrt).1 hf)
        simp only [han v (within v hv).1 (within v hv).2, Wst.putO]
        exact .kept a r s v hw hb hx ha hrd hrs hf
      | none =>
        have hv : inB M.W.evs.length (valAt M.cs a.cell) := by
          unfold valAt
          cases hc : M.cs[a.cell.toNat]? with
          | none => simp [inB, VB]; omega
          | some c => exact (h.ce c (List.mem_of_getElem? hc)).1
        simp only [han _ (within _ hv).1 (within _ hv).2, Wst.putO]
        cases hr : fnd a.cell r with
        | some q =>
          have := Stp.read (P := P) (M := M) a r s r hw hb hx ha hrd hrs hf (by rw [hr]; rfl)
          rw [set_same hrs] at this
          simpa using this
        | none =>
          have := Stp.read (P := P) (M := M) a r s (upd a.cell (verAt M.cs a.cell) r) hw hb hx ha hrd hrs hf (by rw [hr]; rfl)
          simpa using this
end
end Go.Proofs.YtogphaiomlfofaaGreatDoor
namespace Go.Proofs.YtogphaiomlfofaaGreatDoor
open Go.RowKit Go.Maps
set_option linter.unusedVariables false
set_option linter.unusedSimpArgs false

section
variable {P : Pg} {M M' : LM}
theorem acts_le (h : PgOk P) {i : Nat} (hi : i < P.threads.length) (k : Nat) : (P.acts i k).length ≤ 6 := by
  unfold Pg.acts Pg.txs
  obtain ⟨x, hx⟩ : ∃ x, P.threads[i]? = some x := ⟨_, List.getElem?_eq_getElem hi⟩
  simp only [List.getD_eq_getElem?_getD, hx, Option.getD_some]
  cases hl : x[k]? with
  | none => simp
  | some l => exact (h.acts x (List.mem_of_getElem? hx) l (List.mem_of_getElem? hl)).2
theorem wrS_mem {s : MI} {cs : List Ce} {c' : Ce} (h : c' ∈ wrS s (fun _ => false) cs) (hs : KSrt s) : ∃ (k : Nat) (c : Ce), cs[k]? = some c ∧ (c' = c ∨ ∃ v, ((k : Int), v) ∈ s ∧ c' = ⟨v, c.ver + 1⟩) := by
  obtain ⟨k, hk, e⟩ := List.mem_iff_getElem.1 h
  have h1 : (wrS s (fun _ => false) cs)[k]? = some c' := by rw [← e]; exact List.getElem?_eq_getElem hk
  rw [wrS_get] at h1
  cases hc : cs[k]? with
  | none => rw [hc] at h1; cases h1
  | some c =>
    rw [hc] at h1
    refine ⟨k, c, hc, ?_⟩
    cases hf : fnd (k : Int) s with
    | none => rw [hf] at h1; simp at h1; exact .inl h1.symm
    | some v => rw [hf] at h1; simp at h1; exact .inr ⟨v, (fnd_some hs).1 hf, h1.symm⟩
theorem stp_inv (h : LInv P M) {i : Nat} (hi : i < P.threads.length) {t : Th} (ht : M.W.ths[i]? = some t) (hd : thDone P i t = false) (hs : Stp P M i t M') : LInv P M' ∧ mu M' < mu M := by
  obtain ⟨htk, htr⟩ := h.th i t ht
  obtain ⟨x, hx0⟩ : ∃ x, M.nx[i]? = some x := ⟨_, List.getElem?_eq_getElem (by rw [h.nxl]; exact hi)⟩
  obtain ⟨o, ho⟩ : ∃ o, M.ws[i]? = some o := ⟨_, List.getElem?_eq_getElem (by rw [h.wsl]; exact hi)⟩
  obtain ⟨hnx, hob⟩ := h.nx i t x o ht hx0 ho
  have htx := tx_lt h.ok hi htk hd
  have ht3 := Pg.tx3 h.ok hi
  have ha6 := acts_le h.ok hi t.tx
  have hact := htk.act
  have hwo : ∀ k', M.W.evs.length ≤ k' → ∀ r s, o = some (r, s) → WoOk P k' r s := fun k' hk' r s e => (h.wo i r s (by rw [ho, e])).more hk'
  have hT : tot P ≤ 2380 := by unfold tot; have := h.ok.threads.2; omega
  have hev := h.ev
  have hce : ∀ (es : List Ev), ∀ c' ∈ M.cs, inB (M.W.evs ++ es).length c'.val ∧ 0 ≤ c'.ver ∧ ∃ c ∈ M.cs, c'.ver ≤ c.ver + 1 := fun es c hc => ⟨((h.ce c hc).1).more (by simp), (h.ce c hc).2.1, c, hc, by omega⟩
  have hle : ∀ e : Ev, M.W.evs.length ≤ (M.W.evs ++ [e]).length := fun e => by simp
  have same : M.ws = M.ws.set i o := (set_same ho).symm
  cases hs with
  | begin hw hb hx =>
    have hx0' := hx0
    rw [hx] at hx0'
    obtain rfl := Option.some.inj hx0'
    clear hx0'
    refine h.turn (t' := { t with begun := true }) (x' := .none) (o' := some ([], [])) (cs' := M.cs) (es := [_]) ht hx0 ho ⟨htk.tx, htk.act, .inl hw, htk.read⟩ (htr.more (hle _)) hw (fun _ => by simp) (fun r s e => ?_) rfl (hce _) ?_ (by simp)
    · simp only [Option.some.injEq, Prod.mk.injEq] at e
      obtain ⟨rfl, rfl⟩ := e
      exact ⟨List.Pairwise.nil, List.Pairwise.nil, by simp, by simp, by simp⟩
    · simp [mTh, gTh, stage, hw, hb]; split <;> omega
  | call a hw hb hx ha hk =>
    have hx0' := hx0
    rw [hx] at hx0'
    obtain rfl := Option.some.inj hx0'
    clear hx0'
    rw [same]
    refine h.turn (t' := { t with waits := 2 }) (x' := .ans _) (o' := o) (cs' := M.cs) (es := [_]) ht hx0 ho ⟨htk.tx, htk.act, .inr ⟨hb, .inl ⟨rfl, a, ha, hk⟩⟩, htk.read⟩ (htr.more (hle _)) ⟨rfl, a, ha, hk, rfl⟩ hob (hwo _ (hle _)) rfl (hce _) ?_ (by simp)
    simp [mTh, gTh, stage, hw, hb]; split <;> omega
  | cancel a hw hb hx ha hk =>
    have hx0' := hx0
    rw [hx] at hx0'
    obtain rfl := Option.some.inj hx0'
    clear hx0'
    rw [same]
    refine h.turn (t' := { t with waits := 7 }) (x' := .ends true) (o' := o) (cs' := M.cs) (es := [_]) ht hx0 ho ⟨htk.tx, htk.act, .inr ⟨hb, .inr (.inr ⟨rfl, a, ha, hk⟩)⟩, htk.read⟩ (htr.more (hle _)) rfl hob (hwo _ (hle _)) rfl (hce _) ?_ (by simp)
    simp [mTh, gTh, stage, hw, hb]; split <;> omega
  | try_ hw hb hx ha =>
    have hx0' := hx0
    rw [hx] at hx0'
    obtain rfl := Option.some.inj hx0'
    clear hx0'
    rw [same]
    have hal : t.act = (P.acts i t.tx).length := by have := List.getElem?_eq_none_iff.1 ha; omega
    refine h.turn (t' := { t with waits := 4 }) (x' := .look) (o' := o) (cs' := M.cs) (es := [_]) ht hx0 ho ⟨htk.tx, htk.act, .inr ⟨hb, .inr (.inl ⟨rfl, hal⟩)⟩, htk.read⟩ (htr.more (hle _)) rfl hob (hwo _ (hle _)) rfl (hce _) ?_ (by simp)
    simp [mTh, gTh, stage, hw, hb]; split <;> omega
  | wrote a r s hw hb hx ha hk hs =>
    have hx0' := hx0
    rw [hx] at hx0'
    obtain rfl := Option.some.inj hx0'
    clear hx0'
    have hal := (List.getElem?_eq_some_iff.1 ha).1
    have hk4 : a.kind ≠ 4 := by rcases hk with h1 | ⟨h1, -⟩ <;> omega
    obtain ⟨-, hc0, hc1, hv0, hv1⟩ := h.kinds hi hd htk ha hk4
    have hwr := h.wo i r s hs
    refine h.turn (t' := wrTh t) (x' := .none) (o' := some (r, upd a.cell (wrVal t a) s)) (cs' := M.cs) (es := [_]) ht hx0 ho ⟨htk.tx, by show t.act + 1 ≤ (P.acts i t.tx).length; omega, .inl rfl, htk.read⟩ (htr.more (hle _)) rfl (fun _ => by simp) (fun r' s' e => ?_) rfl (hce _) ?_ (by simp)
    · simp only [Option.some.injEq, Prod.mk.injEq] at e
      obtain ⟨rfl, rfl⟩ := e
      refine ⟨hwr.rsrt, srt_upd hwr.ssrt, hwr.rin, fun p hp => ?_, fun p hp => ?_⟩
      · rcases (mem_upd hwr.ssrt).1 hp with rfl | ⟨hp, -⟩
        · exact ⟨hc0, hc1⟩
        · exact hwr.sin p hp
      · rcases (mem_upd hwr.ssrt).1 hp with rfl | ⟨hp, -⟩
        · simp only [List.length_append, List.length_cons, List.length_nil]
          unfold inB VB at htr ⊢
          unfold wrVal
          split <;> omega
        · exact (hwr.val p hp).more (hle _)
    · simp [mTh, gTh, stage, hw, hb, wrTh]; split <;> omega
  | kept a r s v hw hb hx ha hk hs hf =>
    have hx0' := hx0
    rw [hx] at hx0'
    obtain rfl := Option.some.inj hx0'
    clear hx0'
    have hal := (List.getElem?_eq_some_iff.1 ha).1
    have hwr := h.wo i r s hs
    have hv := hwr.val (a.cell, v) ((fnd_some hwr.ssrt).1 hf)
    rw [same]
    refine h.turn (t' := rdTh t a v) (x' := .none) (o' := o) (cs' := M.cs) (es := [_]) ht hx0 ho ?_ ?_ ?_ (fun _ => hob hb) (hwo _ (hle _)) rfl (hce _) ?_ (by simp)
    · unfold rdTh
      unfold inB VB at hv
      split
      · exact ⟨htk.tx, htk.act, .inl rfl, by simp only at hv; show -1000000000 ≤ v ∧ v ≤ 1000000000; omega⟩
      · exact ⟨htk.tx, by show t.act + 1 ≤ (P.acts i t.tx).length; omega, .inl rfl, htk.read⟩
    · unfold rdTh
      split
      · exact hv.more (hle _)
      · exact htr.more (hle _)
    · show (rdTh t a v).waits = 0
      unfold rdTh
      split <;> rfl
    · unfold rdTh
      rcases hk with h1 | ⟨h1, h2⟩
      · rw [if_neg (by omega)]
        simp [mTh, gTh, stage, hw, hb]; split <;> omega
      · rw [if_pos h1]
        simp [mTh, gTh, stage, hw, hb, h2]; omega
  | read a r s r' hw hb hx ha hk hs hf hr =>
    have hx0' := hx0
    rw [hx] at hx0'
    obtain rfl := Option.some.inj hx0'
    clear hx0'
    have hal := (List.getElem?_eq_some_iff.1 ha).1
    have hk4 : a.kind ≠ 4 := by rcases hk with h1 | ⟨h1, -⟩ <;> omega
    obtain ⟨-, hc0, hc1, hv0, hv1⟩ := h.kinds hi hd htk ha hk4
    have hwr := h.wo i r s hs
    have hv : inB M.W.evs.length (valAt M.cs a.cell) := by
      unfold valAt
      cases hc : M.cs[a.cell.toNat]? with
      | none => simp [inB, VB]; omega
      | some c => exact (h.ce c (List.mem_of_getElem? hc)).1
    refine h.turn (t' := rdTh t a (valAt M.cs a.cell)) (x' := .none) (o' := some (r', s)) (cs' := M.cs) (es := [_]) ht hx0 ho ?_ ?_ ?_ (fun _ => by simp) (fun r2 s2 e => ?_) rfl (hce _) ?_ (by simp)
    · unfold rdTh
      unfold inB VB at hv
      split
      · exact ⟨htk.tx, htk.act, .inl rfl, by show -1000000000 ≤ valAt M.cs a.cell ∧ valAt M.cs a.cell ≤ 1000000000; omega⟩
      · exact ⟨htk.tx, by show t.act + 1 ≤ (P.acts i t.tx).length; omega, .inl rfl, htk.read⟩
    · unfold rdTh
      split
      · exact hv.more (hle _)
      · exact htr.more (hle _)
    · show (rdTh t a (valAt M.cs a.cell)).waits = 0
      unfold rdTh
      split <;> rfl
    · simp only [Option.some.injEq, Prod.mk.injEq] at e
      obtain ⟨rfl, rfl⟩ := e
      rw [hr]
      split
      · exact hwr.more (hle _)
      · refine ⟨srt_upd hwr.rsrt, hwr.ssrt, fun p hp => ?_, hwr.sin, fun p hp => (hwr.val p hp).more (hle _)⟩
        rcases (mem_upd hwr.rsrt).1 hp with rfl | ⟨hp, -⟩
        · exact ⟨hc0, hc1⟩
        · exact hwr.rin p hp
    · unfold rdTh
      rcases hk with h1 | ⟨h1, h2⟩
      · rw [if_neg (by omega)]
        simp [mTh, gTh, stage, hw, hb]; split <;> omega
      · rw [if_pos h1]
        simp [mTh, gTh, stage, hw, hb, h2]; omega
  | abort hw hb =>
    have hw0 : t.waits ≠ 0 := by omega
    rw [same]
    refine h.turn (t' := endTh t) (x' := .none) (o' := o) (cs' := M.cs) (es := [_]) ht hx0 ho ⟨by show t.tx + 1 ≤ _; omega, Nat.zero_le _, .inl rfl, by simp [endTh, Th.zero]⟩ (by simp [inB, VB, endTh, Th.zero]; omega) rfl (fun e => by simp [endTh, Th.zero] at e) (hwo _ (hle _)) rfl (hce _) ?_ (by simp)
    have hst : stage .none ≤ stage x := Nat.zero_le _
    simp only [stage] at hst
    simp [mTh, gTh, stage, hw0, hb, endTh, Th.zero]; split <;> omega
  | looked r s hw hb hx hs hst =>
    have hx0' := hx0
    rw [hx] at hx0'
    obtain rfl := Option.some.inj hx0'
    clear hx0'
    have hwr := h.wo i r s hs
    have h1 := h.turn (t' := t) (x' := .ends false) (o' := o) (cs' := wrS s (fun _ => false) M.cs) (es := []) ht hx0 ho htk (htr.more (by simp)) hw hob (hwo _ (by simp)) (wrS_len _ _ _) (fun c' hc' => ?_) (by simp [mTh, stage]) (by simp)
    · rw [List.append_nil, set_same ht, set_same ho] at h1
      exact h1
    · obtain ⟨k, c, hc, rfl | ⟨v, hv, rfl⟩⟩ := wrS_mem hc' hwr.ssrt
      · exact hce [] _ (List.mem_of_getElem? hc)
      · have := (h.ce c (List.mem_of_getElem? hc)).2.1
        exact ⟨(hwr.val _ hv).more (by simp), by show 0 ≤ c.ver + 1; omega, c, List.mem_of_getElem? hc, by show c.ver + 1 ≤ _; omega⟩
  | commit hw hb hx =>
    have hx0' := hx0
    rw [hx] at hx0'
    obtain rfl := Option.some.inj hx0'
    clear hx0'
    rw [same]
    refine h.turn (t' := endTh t) (x' := .none) (o' := o) (cs' := M.cs) (es := [_]) ht hx0 ho ⟨by show t.tx + 1 ≤ _; omega, Nat.zero_le _, .inl rfl, by simp [endTh, Th.zero]⟩ (by simp [inB, VB, endTh, Th.zero]; omega) rfl (fun e => by simp [endTh, Th.zero] at e) (hwo _ (hle _)) rfl (hce _) ?_ (by simp)
    simp [mTh, gTh, stage, hw, hb, endTh, Th.zero]; split <;> omega
/-- Other threads stay. -/
theorem stp_other {i j : Nat} {t : Th} (hs : Stp P M i t M') (hne : i ≠ j) : M'.W.ths[j]? = M.W.ths[j]? := by
  cases hs <;> first | rfl | exact List.getElem?_set_ne hne
theorem LInv.can (h : LInv P M) : CanStep P M := by
  have hT : tot P ≤ 2380 := by unfold tot; have := h.ok.threads.2; omega
  have hev := h.ev
  refine ⟨by omega, fun c hc => ?_, fun i x hx => ?_⟩
  · obtain ⟨h1, h2, h3⟩ := h.ce c hc
    unfold inB VB at h1
    omega
  · obtain ⟨t, ht⟩ : ∃ t, M.W.ths[i]? = some t := ⟨_, List.getElem?_eq_getElem (by have := (List.getElem?_eq_some_iff.1 hx).1; rw [h.nxl] at this; rw [h.thl]; exact this)⟩
    obtain ⟨o, ho⟩ : ∃ o, M.ws[i]? = some o := ⟨_, List.getElem?_eq_getElem (by have := (List.getElem?_eq_some_iff.1 hx).1; rw [h.nxl] at this; rw [h.wsl]; exact this)⟩
    obtain ⟨hn, hb⟩ := h.nx i t x o ht hx ho
    have htk := (h.th i t ht).1
    have hi : i < P.threads.length := by have := (List.getElem?_eq_some_iff.1 hx).1; rwa [h.nxl] at this
    cases x with
    | none => trivial
    | ends b => trivial
    | look =>
      have hb := hb (htk.begun (by have : t.waits = 4 := hn; omega))
      cases o with
      | none => exact absurd rfl hb
      | some p => exact ⟨p.1, p.2, ho, fun q hq => ((h.wo i _ _ ho).rin q hq).2, fun q hq => ((h.wo i _ _ ho).sin q hq).2⟩
    | ans e =>
      obtain ⟨hw, a, ha, hk4, rfl⟩ := hn
      have hb := hb (htk.begun (by omega))
      have hd : thDone P i t = false := by
        cases hd : thDone P i t with
        | false => rfl
        | true =>
          unfold thDone at hd
          have h1 : t.tx = (P.txs i).length := by simpa using hd
          have h2 : P.acts i t.tx = [] := by unfold Pg.acts; rw [h1, List.getD_eq_getElem?_getD, List.getElem?_eq_none (Nat.le_refl _)]; rfl
          rw [h2] at ha
          simp at ha
      obtain ⟨-, hc0, hc1, -⟩ := h.kinds hi hd htk ha hk4
      have hobj : (withTx (askOf t a) (idOf i t.tx)).obj = a.cell := by
        show (askOf t a).obj = a.cell
        unfold askOf; split <;> (first | rfl | (split <;> rfl))
      cases o with
      | none => exact absurd rfl hb
      | some p =>
        refine ⟨p.1, p.2, a.cell.toNat, ho, by rw [hobj]; omega, by omega, fun v hv => ?_⟩
        have := (h.wo i _ _ ho).val _ ((fnd_some (h.wo i _ _ ho).ssrt).1 hv)
        unfold inB VB at this
        simp only at this
        omega
theorem step_inv (h : LInv P M) (i : Int) : LInv P (stepTo P M i) ∧ mu (stepTo P M i) ≤ mu M ∧ (wDone P M.W i = false → mu (stepTo P M i) < mu M) := by
  unfold stepTo
  cases hd : wDone P M.W i with
  | true => exact ⟨h, Nat.le_refl _, fun h => by cases h⟩
  | false =>
    obtain ⟨k, rfl, hk⟩ := wDone_in h.thl hd
    obtain ⟨t, ht⟩ : ∃ t, M.W.ths[k]? = some t := ⟨_, List.getElem?_eq_getElem (by rw [h.thl]; exact hk)⟩
    have h1 := stp_inv h hk ht (by rw [← wDone_th ht]; exact hd) (stp_of h hk ht hd)
    exact ⟨h1.1, Nat.le_of_lt h1.2, fun _ => h1.2⟩
theorem step_other (h : LInv P M) {i j : Nat} (hne : i ≠ j) : (stepTo P M i).W.ths[j]? = M.W.ths[j]? := by
  unfold stepTo
  cases hd : wDone P M.W i with
  | true => rfl
  | false =>
    obtain ⟨k, hk', hk⟩ := wDone_in h.thl hd
    obtain rfl : i = k := by omega
    obtain ⟨t, ht⟩ : ∃ t, M.W.ths[i]? = some t := ⟨_, List.getElem?_eq_getElem (by rw [h.thl]; exact hk)⟩
    exact stp_other (stp_of h hk ht hd) hne
theorem round_less (h : LInv P M) {j : Nat} (hj : wDone P M.W j = false) : ∀ n, LInv P (stepsTo P M (upI n)) ∧ mu (stepsTo P M (upI n)) ≤ mu M ∧ (j < n → mu (stepsTo P M (upI n)) < mu M) ∧ (n ≤ j → (stepsTo P M (upI n)).W.ths[j]? = M.W.ths[j]?)
  | 0 => ⟨h, Nat.le_refl _, fun h => absurd h (by omega), fun _ => rfl⟩
  | n + 1 => by
    obtain ⟨h1, h2, h3, h4⟩ := round_less h hj n
    rw [upI_succ, stepsTo_snoc]
    obtain ⟨k1, k2, k3⟩ := step_inv h1 n
    refine ⟨k1, by omega, fun hlt => ?_, fun hle => ?_⟩
    · rcases Nat.lt_or_eq_of_le (Nat.lt_succ_iff.1 hlt) with hh | rfl
      · have := h3 hh; omega
      · have h5 := h4 (Nat.le_refl _)
        have : wDone P (stepsTo P M (upI j)).W j = false := by
          rw [← hj]
          unfold wDone
          simp only [Int.toNat_natCast, h5]
        have := k3 this
        omega
    · rw [step_other h1 (by omega)]
      exact h4 (by omega)
theorem start_inv (h : PgOk P) : LInv P (startLM P) := by
  have hm := mus_zero P.threads.length
  refine ⟨h, by simp [startLM], by simp [startLM], by simp [startLM], by simp [startLM], fun i t ht => ?_, fun i t x o ht hx ho => ?_, fun i r s hr => ?_, fun c hc => ?_, ?_⟩
  · have : t = Th.zero := List.eq_of_mem_replicate (List.mem_of_getElem? ht)
    rw [this]
    exact ⟨ThOk.zero (Nat.zero_le _), by simp [inB, VB, Th.zero, startLM]⟩
  · have e1 : t = Th.zero := List.eq_of_mem_replicate (List.mem_of_getElem? ht)
    have e2 : x = .none := List.eq_of_mem_replicate (List.mem_of_getElem? hx)
    rw [e1, e2]
    exact ⟨rfl, fun h => by cases h⟩
  · have e1 : some (r, s) = none := List.eq_of_mem_replicate (List.mem_of_getElem? hr)
    cases e1
  · obtain ⟨v, hv, rfl⟩ := List.mem_map.1 hc
    have := h.cell v hv
    refine ⟨by simp [inB, VB, startLM]; omega, Int.le_refl _, ?_⟩
    unfold mu tot
    show (0 : Int) + ((mus (List.replicate P.threads.length Th.zero) (List.replicate P.threads.length .none) : Nat) : Int) ≤ _
    omega
  · unfold mu tot
    show 0 + mus (List.replicate P.threads.length Th.zero) (List.replicate P.threads.length .none) ≤ _
    omega
theorem going (P : Pg) : Going P := fun hok => ⟨LInv P, mu, ⟨fun M i hM => (step_inv hM i).1, fun M hM => hM.can, fun M hM hd => by
  unfold allDone at hd
  rw [List.all_eq_false] at hd
  obtain ⟨j, hj, hn⟩ := hd
  exact (round_less hM (by simpa using hn) P.threads.length).2.2.1 (List.mem_range.1 hj)⟩, start_inv hok⟩
end
end Go.Proofs.YtogphaiomlfofaaGreatDoor
