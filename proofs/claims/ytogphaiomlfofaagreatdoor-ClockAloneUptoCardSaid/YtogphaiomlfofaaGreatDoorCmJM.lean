/- The engine clock as plain lists: each thread by itself, one behind the other. Conditions: those of each theorem, as typed. -/
import Derived.Test.YtogphaiomlfofaaGreatDoorCmIM
import Derived.Test.YtogphaiomlfofaaGreatDoorWjtM
set_option linter.unusedVariables false
set_option linter.unusedSimpArgs false
namespace Go.Proofs.YtogphaiomlfofaaGreatDoor
open Go.RowKit Go.Maps
set_option linter.unusedVariables false
set_option linter.unusedSimpArgs false

def FInv (P : Pg) (A : Au) : Prop := ∀ s ∈ A, s.stand = 5 → ∀ i k : Nat, s.id = idOf i k → i < P.threads.length → k < (P.txs i).length → (s.status = 4 ↔ lastC (P.acts i k) = true)
structure Alo (P : Pg) (M : LM) (A : Au) (i : Nat) (t : Th) (x : Nx) (b v : List Int) : Prop where
  al : Lall P M A
  fi : FInv P A
  ht : M.W.ths[i]? = some t
  hx : M.nx[i]? = some x
  hA : Al P M i t v x
  vl : v.length = P.cells.length
  hv : v = thF b ((P.txs i).take t.tx)
  lo : ∀ j : Nat, j < i → ∃ u, M.W.ths[j]? = some u ∧ thDone P j u = true
  hi : ∀ j : Nat, i < j → j < P.threads.length → M.W.ths[j]? = some Th.zero ∧ M.nx[j]? = some .none
structure Out (P : Pg) (M : LM) (A : Au) (i : Nat) : Prop where
  al : Lall P M A
  fi : FInv P A
  q : Quiet M ((P.threads.take i).foldl thF P.cells)
  lo : ∀ j : Nat, j < i → ∃ u, M.W.ths[j]? = some u ∧ thDone P j u = true
  hi : ∀ j : Nat, i ≤ j → j < P.threads.length → M.W.ths[j]? = some Th.zero ∧ M.nx[j]? = some .none
section
variable {P : Pg} {M M' : LM} {A : Au} {b v : List Int}
theorem stp_nx {i j : Nat} {t : Th} (hs : Stp P M i t M') (hne : i ≠ j) : M'.nx[j]? = M.nx[j]? := by
  cases hs <;> exact List.getElem?_set_ne hne
theorem txs_act {i k : Nat} (h : k < (P.txs i).length) : (P.txs i)[k]? = some (P.acts i k) := by
  unfold Pg.acts
  rw [List.getD_eq_getElem?_getD, List.getElem?_eq_getElem h]
  rfl
theorem Alo.rank {i : Nat} {t : Th} {x : Nx} (h : Alo P M A i t x b v) (hi : i < P.threads.length) (hd : thDone P i t = false) : Rk t x ≤ 150 := by
  obtain ⟨htk, -⟩ := h.al.li.th i t h.ht
  have htx := tx_lt h.al.li.ok hi htk hd
  have ht3 := Pg.tx3 h.al.li.ok hi
  have ha6 := acts_le h.al.li.ok hi t.tx
  have hact := htk.act
  unfold Rk
  split
  · omega
  · split <;> split <;> split <;> omega
theorem Alo.step {i : Nat} {t : Th} {x : Nx} (h : Alo P M A i t x b v) (hi : i < P.threads.length) (hd : wDone P M.W i = false) : ∃ A' t' x' v', Alo P (stepTo P M i) A' i t' x' b v' ∧ Rk t x < Rk t' x' := by
  have hdn : thDone P i t = false := by rw [← wDone_th h.ht]; exact hd
  have hs := stp_of h.al.li hi h.ht hd
  have hw := stp_wk h.al.li h.ht hs
  have htk := (h.al.li.th i t h.ht).1
  have htx := tx_lt h.al.li.ok hi htk hdn
  have ht3 := Pg.tx3 h.al.li.ok hi
  obtain ⟨t', x', v', h1, h2, h3, h4, h5, h6⟩ := al_step h.al.li h.vl hi h.ht h.hx h.hA hdn hs
  obtain ⟨A', hj, he⟩ := jstep5 h.al.ji h.al.li.ok hi h.ht hdn htk (h.al.li.readB h.ht) hw
  have e : stepTo P M i = stepIn P M i := by unfold stepTo; rw [hd]; rfl
  rw [e]
  refine ⟨A', t', x', v', ⟨⟨(stp_inv h.al.li hi h.ht hdn hs).1, bstep h.al.li.ok h.al.bi hi h.ht hdn htk hw, hj⟩, fun s hs5 h55 j k hid hj' hk => ?_, h1, h2, h3, ?_, ?_, fun j hj' => ?_, fun j hj' hjl => ?_⟩, h5⟩
  · rcases he s hs5 h55 with hA' | ⟨hid', hc⟩
    · exact h.fi s hA' h55 j k hid hj' hk
    · have hk3 : k < 3 := by have := Pg.tx3 h.al.li.ok hj'; omega
      obtain ⟨rfl, rfl⟩ := idOf_inj (by omega) hk3 (hid'.symm.trans hid)
      have hil := (List.getElem?_eq_some_iff.1 h.ht).1
      rcases h4 with ⟨h7, -⟩ | ⟨-, -, h7⟩
      · exfalso
        have hput : ∀ y : Th × Ev, (stepIn P M i).W = M.W.put i y → t' = y.1 := fun y hy => by
          rw [hy] at h1
          have : (M.W.put i y).ths[i]? = some y.1 := List.getElem?_set_self hil
          rw [this] at h1
          exact (Option.some.inj h1).symm
        rcases hc with ⟨h8, -⟩ | ⟨h8, -⟩
        · have := hput _ h8; rw [this] at h7; simp [endTh] at h7
        · have := hput _ h8; rw [this] at h7; simp [endTh] at h7
      · have hev : ∀ {n : Int}, (stepIn P M i).W = M.W.put i (endTh t, withTx (ev0 n) (idOf i t.tx)) → (if lastC (P.acts i t.tx) = true then (6 : Int) else 5) = n := fun {n} hy => by
          rw [h7] at hy
          have := congrArg (fun S : Wst => S.evs.getLast?) hy
          simp [Wst.put, withTx, ev0] at this
          exact this
        rcases hc with ⟨h8, h9⟩ | ⟨h8, h9⟩
        · have := hev h8
          rw [h9]
          split at this <;> simp_all
        · have := hev h8
          rw [h9]
          split at this <;> simp_all
  · rcases h4 with ⟨-, rfl⟩ | ⟨-, rfl, -⟩
    · exact h.vl
    · rw [txF_len]; exact h.vl
  · rcases h4 with ⟨h7, rfl⟩ | ⟨rfl, rfl, -⟩
    · rw [h7]; exact h.hv
    · show _ = thF b ((P.txs i).take (t.tx + 1))
      rw [List.take_add_one, txs_act htx, h.hv]
      unfold thF
      rw [List.foldl_append]
      rfl
  · rw [stp_other hs (by omega)]
    exact h.lo j hj'
  · rw [stp_other hs (by omega), stp_nx hs (by omega)]
    exact h.hi j hj' hjl
theorem Out.alo {i : Nat} (h : Out P M A i) (hi : i < P.threads.length) (hl : ∀ n, ((P.threads.take n).foldl thF P.cells).length = P.cells.length) : Alo P M A i Th.zero .none ((P.threads.take i).foldl thF P.cells) ((P.threads.take i).foldl thF P.cells) := by
  obtain ⟨h1, h2⟩ := h.hi i (Nat.le_refl _) hi
  exact ⟨h.al, h.fi, h1, h2, ⟨h.q, rfl, (fun e => by cases e), fun _ => ⟨rfl, rfl⟩⟩, hl i, rfl, h.lo, fun j hj => h.hi j (by omega)⟩
theorem foldl_len : ∀ (l : List (List (List Ac))) (v : List Int), (l.foldl thF v).length = v.length
  | [], _ => rfl
  | x :: l, v => by rw [List.foldl_cons, foldl_len l, thF_len]
theorem Alo.out {i : Nat} {t : Th} {x : Nx} (h : Alo P M A i t x ((P.threads.take i).foldl thF P.cells) v) (hi : i < P.threads.length) (hd : wDone P M.W i = true) : Out P M A (i + 1) := by
  have hdn : thDone P i t = true := by rw [← wDone_th h.ht]; exact hd
  have htx : t.tx = (P.txs i).length := by simpa [thDone] using hdn
  have hq : Quiet M v := by
    have hob := (h.al.li.th i t h.ht).1
    have hnb : t.begun = false := by
      cases hb : t.begun with
      | false => rfl
      | true => have := h.al.bi i t h.ht hb; omega
    have hw0 : t.waits = 0 := by
      rcases hob.waits with h1 | ⟨h1, -⟩
      · exact h1
      · rw [hnb] at h1; cases h1
    have hA := h.hA
    cases x with
    | none => exact hA.1
    | ans e => exact hA.1
    | abort => exact hA.1
    | commit => have := hA.1; omega
    | lock l => have := hA.1; omega
    | tick => have := hA.1; omega
    | look n l => have := hA.1; omega
    | write n l => have := hA.1; omega
  have hv : v = (P.threads.take (i + 1)).foldl thF P.cells := by
    rw [h.hv, htx, List.take_length, List.take_add_one, List.getElem?_eq_getElem hi, List.foldl_append]
    simp [Pg.txs, List.getD_eq_getElem?_getD, List.getElem?_eq_getElem hi]
  refine ⟨h.al, h.fi, by rw [← hv]; exact hq, fun j hj => ?_, fun j hj hjl => h.hi j (by omega) hjl⟩
  rcases Nat.lt_or_eq_of_le (Nat.lt_succ_iff.1 hj) with h1 | rfl
  · exact h.lo j h1
  · exact ⟨t, h.ht, hdn⟩
theorem Out.start (h : PgOk P) : Out P (startLM P) [] 0 := by
  refine ⟨Lall.start h, fun s hs => (nomatch hs), ⟨by simp [startLM], fun k c hc => ?_⟩, (fun j hj => by omega), fun j _ hj => ?_⟩
  · simp only [startLM, List.getElem?_map] at hc
    cases hk : P.cells[k]? with
    | none => rw [hk] at hc; cases hc
    | some z =>
      rw [hk] at hc
      simp only [Option.map_some, Option.some.injEq] at hc
      subst hc
      exact ⟨by simpa using hk, Int.le_refl _, rfl⟩
  · simp only [startLM]
    exact ⟨by rw [List.getElem?_replicate]; simp [hj], by rw [List.getElem?_replicate]; simp [hj]⟩
theorem Out.all (h : Out P M A P.threads.length) : allDone P M.W = true ∧ M.cs.map (·.val) = aloneF P ∧ ∀ s ∈ A, ∃ i k : Nat, i < P.threads.length ∧ k < (P.txs i).length ∧ s.id = idOf i k ∧ (s.status = 4 ↔ lastC (P.acts i k) = true) := by
  have hd : allDone P M.W = true := by
    refine List.all_eq_true.2 fun j hj => ?_
    obtain ⟨u, hu, hd⟩ := h.lo j (List.mem_range.1 hj)
    rw [wDone_th hu]; exact hd
  refine ⟨hd, ?_, fun s hs => ?_⟩
  · have hq := h.q
    rw [List.take_length] at hq
    show _ = P.threads.foldl thF P.cells
    apply List.ext_getElem?
    intro k
    rw [List.getElem?_map]
    cases hc : M.cs[k]? with
    | none => rw [Option.map_none, List.getElem?_eq_none (by have := List.getElem?_eq_none_iff.1 hc; rw [← hq.len]; exact this)]
    | some c => rw [Option.map_some, (hq.at_ k c hc).1]
  · obtain ⟨i, t, k, ht, hid, hth, hc⟩ := h.al.ji.all s hs
    have hi : i < P.threads.length := by rw [← h.al.li.thl]; exact (List.getElem?_eq_some_iff.1 ht).1
    have h2 := List.all_eq_true.1 hd i (List.mem_range.2 hi)
    rw [wDone_th ht] at h2
    have h3 : t.tx = (P.txs i).length := by simpa [thDone] using h2
    have hk : k < (P.txs i).length := by
      rcases hc with ⟨hk, -⟩ | ⟨-, hb, -⟩
      · omega
      · have := h.al.bi i t ht hb; omega
    exact ⟨i, k, hi, hk, hid, h.fi s hs (h.al.ended hd s hs).1 i k hid hi hk⟩
end
end Go.Proofs.YtogphaiomlfofaaGreatDoor
