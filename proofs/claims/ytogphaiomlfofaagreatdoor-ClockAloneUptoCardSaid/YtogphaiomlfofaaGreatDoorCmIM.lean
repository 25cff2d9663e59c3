/- The engine clock as plain lists: a step of a thread by itself. Conditions: those of each theorem, as typed. -/
import Derived.Test.YtogphaiomlfofaaGreatDoorCmHM
set_option linter.unusedVariables false
set_option linter.unusedSimpArgs false
namespace Go.Proofs.YtogphaiomlfofaaGreatDoor
open Go.RowKit Go.Maps
set_option linter.unusedVariables false
set_option linter.unusedSimpArgs false

def Rk (t : Th) (x : Nx) : Nat := 45 * t.tx + (if t.waits = 4 then 26 + (15 - stage x) else (if t.begun then 1 else 0) + 4 * t.act + (if t.adding then 2 else 0) + (if t.waits = 0 then 0 else 1))
section
variable {P : Pg} {M M' : LM} {A : Au} {v : List Int}
theorem Wrt.wrote {i : Nat} {t : Th} {s : MI} (h : Wrt P i t v s) (hs : KSrt s) {a : Ac} (ha : (P.acts i t.tx)[t.act]? = some a) (hk : isWr t a) (h0 : 0 ≤ a.cell) (h1 : a.cell < v.length) : Wrt P i (wrTh t) v (upd a.cell (wrVal t a) s) := by
  have hn : nextV P i (wrTh t) v = actF (nextV P i t v) a := by
    show ((P.acts i t.tx).take (t.act + 1)).foldl actF v = _
    rw [take_act ha, List.foldl_append]
    rfl
  have hlen : (nextV P i t v).length = v.length := actsF_len _ _
  have hset : actF (nextV P i t v) a = (nextV P i t v).set a.cell.toNat (wrVal t a) := by
    unfold actF wrVal
    rcases hk with h2 | ⟨h3, had⟩
    · rw [if_pos h2, if_pos h2]
    · rw [if_neg (by omega), if_pos h3, if_neg (by omega)]
      obtain ⟨a', ha', -, hr⟩ := h.add had
      rw [ha] at ha'
      obtain rfl := Option.some.inj ha'
      rw [hr, Int.add_comm]
  refine ⟨fun j b hj hb => ?_, fun k hk2 => ?_, (fun e => by cases e)⟩
  · rcases Nat.lt_or_eq_of_le (Nat.lt_succ_iff.1 hj) with h5 | rfl
    · exact h.no4 j b h5 hb
    · have hb : (P.acts i t.tx)[t.act]? = some b := hb
      rw [ha] at hb
      obtain rfl := Option.some.inj hb
      rcases hk with h2 | ⟨h3, -⟩ <;> omega
  · rw [hn, hset]
    by_cases e : a.cell.toNat = k
    · subst e
      rw [List.getElem?_set_self (by rw [hlen]; exact hk2), show ((a.cell.toNat : Nat) : Int) = a.cell by omega, fnd_upd_same hs]
      rfl
    · rw [List.getElem?_set_ne e, h.nxt k hk2, fnd_upd_other hs (by omega)]
theorem Wrt.rd {i : Nat} {t : Th} {s : MI} (h : Wrt P i t v s) {a : Ac} (ha : (P.acts i t.tx)[t.act]? = some a) (hk : isRd t a) (h0 : 0 ≤ a.cell) (h1 : a.cell < v.length) {x : Int} (hx : x = (fnd a.cell s).getD (v.getD a.cell.toNat 0)) : Wrt P i (rdTh t a x) v s := by
  have hnx : (nextV P i t v).getD a.cell.toNat 0 = x := by
    have := h.nxt a.cell.toNat (by omega)
    rw [List.getD_eq_getElem?_getD, this, show ((a.cell.toNat : Nat) : Int) = a.cell by omega, ← hx]
    rfl
  unfold rdTh
  split
  · rename_i h3
    exact ⟨h.no4, h.nxt, fun _ => ⟨a, ha, h3, hnx.symm⟩⟩
  · rename_i h3
    have h1' : a.kind = 1 := by
      rcases hk with h | ⟨h, -⟩
      · exact h
      · exact absurd h h3
    have hn : ((P.acts i t.tx).take (t.act + 1)).foldl actF v = nextV P i t v := by
      rw [take_act ha, List.foldl_append]
      show actF (nextV P i t v) a = _
      unfold actF
      rw [if_neg (by omega), if_neg (by omega)]
    refine ⟨fun j b hj hb => ?_, fun k hk2 => ?_, fun had => ?_⟩
    · rcases Nat.lt_or_eq_of_le (Nat.lt_succ_iff.1 hj) with h5 | rfl
      · exact h.no4 j b h5 hb
      · have hb : (P.acts i t.tx)[t.act]? = some b := hb
        rw [ha] at hb
        obtain rfl := Option.some.inj hb
        omega
    · show (((P.acts i t.tx).take (t.act + 1)).foldl actF v)[k]? = _
      rw [hn]
      exact h.nxt k hk2
    · obtain ⟨a', ha', hk3, -⟩ := h.add had
      rw [ha] at ha'
      obtain rfl := Option.some.inj ha'
      exact absurd hk3 h3
theorem Quiet.same (h : Quiet M v) (h1 : M'.cs = M.cs) (h2 : M'.clk = M.clk) : Quiet M' v := ⟨by rw [h1]; exact h.len, fun k c hc => by rw [h1] at hc; rw [h2]; exact h.at_ k c hc⟩
theorem al_step (hL : LInv P M) (hv : v.length = P.cells.length) {i : Nat} (hi : i < P.threads.length) {t : Th} {x : Nx} (ht : M.W.ths[i]? = some t) (hx0 : M.nx[i]? = some x) (hA : Al P M i t v x) (hd : thDone P i t = false) (hs : Stp P M i t M') :
    ∃ t' x' v', M'.W.ths[i]? = some t' ∧ M'.nx[i]? = some x' ∧ Al P M' i t' v' x' ∧ Vs P i M.W M'.W t t' v v' ∧ Rk t x < Rk t' x' ∧ M.clk ≤ M'.clk := by
  obtain ⟨htk, -⟩ := hL.th i t ht
  have htx := tx_lt hL.ok hi htk hd
  have ha6 := acts_le hL.ok hi t.tx
  have hact := htk.act
  have hil := (List.getElem?_eq_some_iff.1 ht).1
  have hnl := (List.getElem?_eq_some_iff.1 hx0).1
  have hwl : i < M.ws.length := by rw [hL.wsl]; exact hi
  have ths' : ∀ y : Th × Ev, (M.W.put i y).ths[i]? = some y.1 := fun y => List.getElem?_set_self hil
  have nxs' : ∀ y : Nx, (M.nx.set i y)[i]? = some y := fun y => List.getElem?_set_self hnl
  have eqx : ∀ {y : Nx}, M.nx[i]? = some y → x = y := fun {y} h => by rw [hx0] at h; exact Option.some.inj h
  have srt : ∀ {tm : Int} {r : MB} {s : MI}, M.ws[i]? = some (some (tm, r, s)) → KSrt s := fun h => (hL.wo i _ _ _ h).ssrt
  have weq : ∀ {a b : Int × MB × MI}, M.ws[i]? = some (some a) → M.ws[i]? = some (some b) → a = b := fun h1 h2 => by rw [h1] at h2; simpa using h2
  cases hs with
  | begin hw hb hx =>
    obtain rfl := eqx hx
    obtain ⟨hq, -, -, h0⟩ := hA
    obtain ⟨ha0, had⟩ := h0 hb
    refine ⟨_, _, v, ths' _, nxs' _, ⟨hq.same rfl rfl, hw, fun _ => ⟨[], [], List.getElem?_set_self hwl, ⟨(fun j a hj => by rw [show ({ t with begun := true } : Th).act = t.act from rfl, ha0] at hj; omega), fun k hk => ?_, (fun e => by rw [show ({ t with begun := true } : Th).adding = t.adding from rfl, had] at e; cases e)⟩⟩, (fun e => by cases e)⟩, .inl ⟨rfl, rfl⟩, by simp [Rk, hw, hb, ha0, had], Int.le_refl _⟩
    show (((P.acts i t.tx).take t.act).foldl actF v)[k]? = _
    rw [ha0, List.take_zero, List.foldl_nil, List.getElem?_eq_getElem hk]
    simp [fnd, List.getD_eq_getElem?_getD, List.getElem?_eq_getElem hk]
  | call a hw hb hx ha hk =>
    obtain rfl := eqx hx
    obtain ⟨hq, -, h1, -⟩ := hA
    obtain ⟨r, s, hws, hwr⟩ := h1 hb
    exact ⟨_, _, v, ths' _, nxs' _, ⟨hq.same rfl rfl, rfl, r, s, hws, hwr.no4, hwr.nxt, hwr.add⟩, .inl ⟨rfl, rfl⟩, by simp [Rk, hw, hb], Int.le_refl _⟩
  | cancel a hw hb hx ha hk =>
    obtain rfl := eqx hx
    obtain ⟨hq, -, -, -⟩ := hA
    refine ⟨_, _, v, ths' _, nxs' _, ⟨hq.same rfl rfl, rfl, ?_⟩, .inl ⟨rfl, rfl⟩, by simp [Rk, hw, hb], Int.le_refl _⟩
    rcases hL.ok.at hi htx ha with ⟨-, h2, -⟩ | ⟨h2, -⟩
    · show lastC (P.acts i t.tx) = true
      unfold lastC
      rw [List.getLast?_eq_getElem?, ← h2, Nat.add_sub_cancel, ha]
      simp [hk]
    · omega
  | try_ tm r s hw hb hx ha hs0 =>
    obtain rfl := eqx hx
    obtain ⟨hq, -, h1, -⟩ := hA
    obtain ⟨r', s', hws, hwr⟩ := h1 hb
    obtain ⟨rfl, rfl, rfl⟩ : tm = M.clk ∧ r = r' ∧ s = s' := by have := weq hs0 hws; simpa using this
    have hal : t.act = (P.acts i t.tx).length := by have := List.getElem?_eq_none_iff.1 ha; omega
    have had : t.adding = false := by
      cases h : t.adding with
      | false => rfl
      | true => obtain ⟨a, ha', -⟩ := hwr.add h; rw [ha] at ha'; cases ha'
    have hl4 : lastC (P.acts i t.tx) = false := no4_last fun j a hj => hwr.no4 j a (by omega)
    have hwo := hL.wo i _ _ _ hs0
    have hsl : s.length ≤ 4 := by
      have hcl : P.cells.length ≤ 4 := hL.ok.cells.2
      have := ksrt_len s 0 4 hwo.ssrt fun p hp => ⟨(hwo.sin p hp).1, by have := (hwo.sin p hp).2; omega⟩
      omega
    have hxs : stage (if s = [] then .commit else lockNx (s.map (·.1))) ≤ 14 := by
      split
      · simp [stage]
      · have := stage_lock (s.map (·.1)); rw [List.length_map] at this; omega
    refine ⟨_, _, v, ths' _, nxs' _, ?_, .inl ⟨rfl, rfl⟩, ?_, Int.le_refl _⟩
    · have hw' : Wrt P i { t with waits := 4 } v s := ⟨hwr.no4, hwr.nxt, hwr.add⟩
      by_cases he : s = []
      · rw [if_pos he]
        refine ⟨rfl, (cs1_quiet (M := M) (D := fun _ => false) (L := fun _ => false) (s := s) (id := idOf i t.tx) (quiet_cs1 hq s _ fun _ => rfl) hwr hal (fun k => by rw [he]; rfl) (fun _ _ => rfl) (Int.le_refl _)).same rfl rfl, hl4⟩
      · rw [if_neg he]
        refine al_lock hwo.ssrt rfl hl4 hal hws hw' (ls_keys hwo.ssrt) ?_
        refine quiet_cs1 ?_ s _ ?_
        · exact hq.same rfl rfl
        · intro k
          cases hh : hasK s k with
          | false => rfl
          | true => have := (hasK_keys hwo.ssrt).1 hh; simp only [Bool.true_and, Bool.not_eq_false']; simpa using this
    · simp only [Rk, hw, hb, had]
      simp
      omega
  | wrote a tm r s hw hb hx ha hk hs0 =>
    obtain rfl := eqx hx
    obtain ⟨hq, -, r', s', hws, hwr⟩ := hA
    obtain ⟨rfl, rfl, rfl⟩ : tm = M.clk ∧ r = r' ∧ s = s' := by have := weq hs0 hws; simpa using this
    have hk4 : a.kind ≠ 4 := by rcases hk with h1 | ⟨h1, -⟩ <;> omega
    obtain ⟨-, hc0, hc1, -⟩ := hL.kinds hi hd htk ha hk4
    refine ⟨_, _, v, ths' _, nxs' _, ⟨hq.same rfl rfl, rfl, fun _ => ⟨r, _, List.getElem?_set_self hwl, hwr.wrote (srt hs0) ha hk hc0 (by rw [hv]; exact hc1)⟩, (fun e => by rw [show (wrTh t).begun = t.begun from rfl, hb] at e; cases e)⟩, .inl ⟨rfl, rfl⟩, ?_, Int.le_refl _⟩
    simp only [Rk, hw, hb, wrTh]
    simp
    split <;> omega
  | kept a tm r s x1 hw hb hx ha hk hs0 hf =>
    obtain rfl := eqx hx
    obtain ⟨hq, -, r', s', hws, hwr⟩ := hA
    obtain ⟨rfl, rfl, rfl⟩ : tm = M.clk ∧ r = r' ∧ s = s' := by have := weq hs0 hws; simpa using this
    have hk4 : a.kind ≠ 4 := by rcases hk with h1 | ⟨h1, -⟩ <;> omega
    obtain ⟨-, hc0, hc1, -⟩ := hL.kinds hi hd htk ha hk4
    refine ⟨_, _, v, ths' _, nxs' _, ⟨hq.same rfl rfl, by unfold rdTh; split <;> rfl, fun _ => ⟨r, s, hws, hwr.rd ha hk hc0 (by rw [hv]; exact hc1) (by rw [hf]; rfl)⟩, (fun e => by exfalso; revert e; unfold rdTh; split <;> simp [hb])⟩, .inl ⟨by unfold rdTh; split <;> rfl, rfl⟩, ?_, Int.le_refl _⟩
    unfold rdTh
    rcases hk with h1 | ⟨h1, h2⟩
    · rw [if_neg (by omega)]
      simp only [Rk, hw, hb]
      simp
      split <;> omega
    · rw [if_pos h1]
      simp [Rk, hw, hb, h2]
  | read a tm r s hw hb hx ha hk hs0 hf htn =>
    obtain rfl := eqx hx
    obtain ⟨hq, -, r', s', hws, hwr⟩ := hA
    obtain ⟨rfl, rfl, rfl⟩ : tm = M.clk ∧ r = r' ∧ s = s' := by have := weq hs0 hws; simpa using this
    have hk4 : a.kind ≠ 4 := by rcases hk with h1 | ⟨h1, -⟩ <;> omega
    obtain ⟨-, hc0, hc1, -⟩ := hL.kinds hi hd htk ha hk4
    obtain ⟨c, hc, hce, hcv, -⟩ := hq.ceAt hc0 (by rw [hv]; exact hc1)
    refine ⟨_, _, v, ths' _, nxs' _, ⟨hq.same rfl rfl, by unfold rdTh; split <;> rfl, fun _ => ⟨_, s, List.getElem?_set_self hwl, hwr.rd ha hk hc0 (by rw [hv]; exact hc1) (by rw [hf, hce, hcv]; rfl)⟩, (fun e => by exfalso; revert e; unfold rdTh; split <;> simp [hb])⟩, .inl ⟨by unfold rdTh; split <;> rfl, rfl⟩, ?_, Int.le_refl _⟩
    unfold rdTh
    rcases hk with h1 | ⟨h1, h2⟩
    · rw [if_neg (by omega)]
      simp only [Rk, hw, hb]
      simp
      split <;> omega
    · rw [if_pos h1]
      simp [Rk, hw, hb, h2]
  | refused a tm r s hw hb hx ha hk hs0 hf htn =>
    obtain rfl := eqx hx
    obtain ⟨hq, -, r', s', hws, hwr⟩ := hA
    obtain ⟨rfl, rfl, rfl⟩ : tm = M.clk ∧ r = r' ∧ s = s' := by have := weq hs0 hws; simpa using this
    have hk4 : a.kind ≠ 4 := by rcases hk with h1 | ⟨h1, -⟩ <;> omega
    obtain ⟨-, hc0, hc1, -⟩ := hL.kinds hi hd htk ha hk4
    obtain ⟨c, hc, hce, -, hver, hown⟩ := hq.ceAt hc0 (by rw [hv]; exact hc1)
    rw [hce] at htn
    simp only [stale, hown] at htn
    simp at htn
    omega
  | abort hw hb hx =>
    obtain rfl := eqx hx
    obtain ⟨hq, -, hl4⟩ := hA
    refine ⟨_, _, txF v (P.acts i t.tx), ths' _, nxs' _, ⟨?_, rfl, (fun e => by cases e), fun _ => ⟨rfl, rfl⟩⟩, .inr ⟨rfl, rfl, by rw [if_pos hl4]⟩, ?_, Int.le_refl _⟩
    · unfold txF
      rw [if_pos hl4]
      exact hq.same (hq.off _) rfl
    · simp only [Rk, hw, hb, endTh, Th.zero]
      simp
      split <;> omega
  | lock_ k l hw hb hx ho =>
    obtain rfl := eqx hx
    obtain ⟨-, hl4, hal, r, s, hws, hwr, hls, hc1⟩ := hA
    obtain ⟨hls', hkl, hkk⟩ := hls.tail
    have hk0 := ((hL.nx i t _ _ ht hx (show M.ws[i]? = _ from hws)).1.2.2.2 k (List.mem_cons_self ..))
    obtain ⟨c, hc, hce, -, hcd⟩ := hc1.ceAt hk0.1 (by rw [hv]; exact hk0.2)
    obtain ⟨hv1, hver, -⟩ := hcd rfl
    refine ⟨t, _, v, ht, nxs' _, al_lock (srt hws) hw hl4 hal hws hwr hls' ⟨by simp only [List.length_set]; exact hc1.len, fun z c' hz => ⟨(fun e => by cases e), fun _ => ?_⟩⟩, .inl ⟨rfl, rfl⟩, ?_, Int.le_refl _⟩
    · rcases get_set hz with ⟨rfl, rfl⟩ | ⟨hne, hz⟩
      · rw [hce]
        have e : ((k.toNat : Nat) : Int) = k := by omega
        refine ⟨hv1, hver, ?_⟩
        rw [e, hkk]
        simp [hkl]
      · obtain ⟨h1, h2, h3⟩ := (hc1.at_ z c' hz).2 rfl
        refine ⟨h1, h2, ?_⟩
        rw [h3]
        have : ((z : Int) == k) = false := by simp; omega
        simp [this]
        have hzk : ¬ (z : Int) = k := by omega
        simp [hzk]
    · have := stage_lock l
      have hs1 : stage (.lock (k :: l)) = 10 + (l.length + 1) := rfl
      simp only [Rk, hw, if_true]
      have h5 := ((hL.nx i t _ _ ht hx (show M.ws[i]? = _ from hws)).1.2.2.1)
      simp only [List.length_cons] at h5
      omega
  | lockNo k l hw hb hx ho =>
    obtain rfl := eqx hx
    obtain ⟨-, hl4, hal, r, s, hws, hwr, hls, hc1⟩ := hA
    have hk0 := ((hL.nx i t _ _ ht hx (show M.ws[i]? = _ from hws)).1.2.2.2 k (List.mem_cons_self ..))
    obtain ⟨c, hc, hce, -, hcd⟩ := hc1.ceAt hk0.1 (by rw [hv]; exact hk0.2)
    obtain ⟨-, -, hown⟩ := hcd rfl
    rw [hce, hown] at ho
    simp at ho
  | tick tm r s hw hb hx hs0 =>
    obtain rfl := eqx hx
    obtain ⟨-, hl4, hal, r', s', hws, hwr, hc1⟩ := hA
    obtain ⟨rfl, rfl, rfl⟩ : tm = M.clk ∧ r = r' ∧ s = s' := by have := weq hs0 hws; simpa using this
    have hwo := hL.wo i _ _ _ hs0
    have hcl : P.cells.length ≤ 4 := hL.ok.cells.2
    have hsl : s.length ≤ 4 := by
      have := ksrt_len s 0 4 hwo.ssrt fun p hp => ⟨(hwo.sin p hp).1, by have := (hwo.sin p hp).2; omega⟩
      omega
    have hrl : r.length ≤ 4 := by
      have := ksrt_len r 0 4 hwo.rsrt fun p hp => ⟨(hwo.rin p hp).1, by have := (hwo.rin p hp).2; omega⟩
      omega
    refine ⟨t, _, v, ht, nxs' _, al_look hwo.ssrt hw hl4 hal rfl hws (by show M.clk ≤ M.clk + 1; omega) hwr ⟨hc1.len, fun z c hz => ⟨(fun e => by cases e), fun _ => (hc1.at_ z c hz).2 rfl⟩⟩, .inl ⟨rfl, rfl⟩, ?_, by show M.clk ≤ M.clk + 1; omega⟩
    have := stage_look (now := M.clk + 1) hsl (r.map (·.1))
    rw [List.length_map] at this
    have hs1 : stage .tick = 10 := rfl
    simp only [Rk, hw, if_true]
    omega
  | look_ now k l tm r s hw hb hx hs0 htn =>
    obtain rfl := eqx hx
    obtain ⟨-, hl4, hal, hnow, tm', r', s', hws, htm, hwr, hc1⟩ := hA
    obtain ⟨rfl, rfl, rfl⟩ : tm = tm' ∧ r = r' ∧ s = s' := by have := weq hs0 hws; simpa using this
    have hwo := hL.wo i _ _ _ hs0
    have hcl : P.cells.length ≤ 4 := hL.ok.cells.2
    have hsl : s.length ≤ 4 := by
      have := ksrt_len s 0 4 hwo.ssrt fun p hp => ⟨(hwo.sin p hp).1, by have := (hwo.sin p hp).2; omega⟩
      omega
    refine ⟨t, _, v, ht, nxs' _, al_look hwo.ssrt hw hl4 hal hnow hws htm hwr ⟨hc1.len, fun z c hz => ⟨(fun e => by cases e), fun _ => (hc1.at_ z c hz).2 rfl⟩⟩, .inl ⟨rfl, rfl⟩, ?_, Int.le_refl _⟩
    have := stage_look (now := now) hsl l
    have h5 := ((hL.nx i t _ _ ht hx (show M.ws[i]? = _ from hws)).1.2.2.1)
    simp only [List.length_cons] at h5
    have hs1 : stage (.look now (k :: l)) = 5 + (l.length + 1) := rfl
    simp only [Rk, hw, if_true]
    omega
  | lookNo now k l tm r s hw hb hx hs0 htn =>
    obtain rfl := eqx hx
    obtain ⟨-, hl4, hal, hnow, tm', r', s', hws, htm, hwr, hc1⟩ := hA
    obtain ⟨rfl, rfl, rfl⟩ : tm = tm' ∧ r = r' ∧ s = s' := by have := weq hs0 hws; simpa using this
    have hk0 := ((hL.nx i t _ _ ht hx (show M.ws[i]? = _ from hws)).1.2.2.2 k (List.mem_cons_self ..))
    obtain ⟨c, hc, hce, -, hcd⟩ := hc1.ceAt hk0.1 (by rw [hv]; exact hk0.2)
    obtain ⟨-, hver, hown⟩ := hcd rfl
    rw [hce] at htn
    exfalso
    unfold taken at htn
    rw [hown] at htn
    split at htn
    · simp at htn; omega
    · simp at htn; omega
  | write_ now k l tm r s hw hb hx hs0 =>
    obtain rfl := eqx hx
    obtain ⟨-, hl4, hal, hnow, tm', r', s', hws, htm, hwr, hls, hc1⟩ := hA
    obtain ⟨rfl, rfl, rfl⟩ : tm = tm' ∧ r = r' ∧ s = s' := by have := weq hs0 hws; simpa using this
    obtain ⟨hls', hkl, hkk⟩ := hls.tail
    have hk0 := ((hL.nx i t _ _ ht hx (show M.ws[i]? = _ from hws)).1.2.2.2 k (List.mem_cons_self ..))
    have e : ((k.toNat : Nat) : Int) = k := by omega
    refine ⟨t, _, v, ht, nxs' _, al_write (srt hws) hw hl4 hal hnow hws htm hwr hls' ⟨by simp only [List.length_set]; exact hc1.len, fun z c' hz => ?_⟩, .inl ⟨rfl, rfl⟩, ?_, Int.le_refl _⟩
    · rcases get_set hz with ⟨rfl, rfl⟩ | ⟨hne, hz⟩
      · have hD : (hasK s ((k.toNat : Nat) : Int) && !l.contains ((k.toNat : Nat) : Int)) = true := by rw [e, hkk]; simp [hkl]
        refine ⟨fun _ => ⟨?_, by show now ≤ M.clk; omega, rfl⟩, (fun h => by rw [hD] at h; cases h)⟩
        rw [e]
        obtain ⟨u, hu⟩ := Option.isSome_iff_exists.1 (show (fnd k s).isSome = true from hkk)
        rw [hu]
        rfl
      · have hzk : ¬ (z : Int) = k := by omega
        have hD : (hasK s (z : Int) && !l.contains (z : Int)) = (hasK s (z : Int) && !(k :: l).contains (z : Int)) := by simp [hzk]
        have := hc1.at_ z c' hz
        rw [hD]
        exact this
    · have := stage_write now l
      have h5 := ((hL.nx i t _ _ ht hx (show M.ws[i]? = _ from hws)).1.2.2.1)
      simp only [List.length_cons] at h5
      have hs1 : stage (.write now (k :: l)) = 1 + (l.length + 1) := rfl
      simp only [Rk, hw, if_true]
      omega
  | commit hw hb hx =>
    obtain rfl := eqx hx
    obtain ⟨-, hq, hl4⟩ := hA
    refine ⟨_, _, txF v (P.acts i t.tx), ths' _, nxs' _, ⟨?_, rfl, (fun e => by cases e), fun _ => ⟨rfl, rfl⟩⟩, .inr ⟨rfl, rfl, by rw [if_neg (by rw [hl4]; decide)]⟩, ?_, Int.le_refl _⟩
    · unfold txF
      rw [if_neg (by rw [hl4]; decide)]
      exact hq.same rfl rfl
    · simp only [Rk, hw, endTh, Th.zero]
      simp
      omega
end
end Go.Proofs.YtogphaiomlfofaaGreatDoor
