/- The engine clock as plain lists: a thread by itself. Conditions: those of each theorem, as typed. -/
import Derived.Test.YtogphaiomlfofaaGreatDoorCmEM
set_option linter.unusedVariables false
set_option linter.unusedSimpArgs false
namespace Go.Proofs.YtogphaiomlfofaaGreatDoor
open Go.RowKit Go.Maps
set_option linter.unusedVariables false
set_option linter.unusedSimpArgs false

/-! ### what the acts say -/
def actF (n : List Int) (a : Ac) : List Int := if a.kind = 2 then n.set a.cell.toNat a.val else if a.kind = 3 then n.set a.cell.toNat (n.getD a.cell.toNat 0 + a.val) else n
def lastC (l : List Ac) : Bool := match l.getLast? with
  | some a => a.kind == 4
  | none => false
def txF (v : List Int) (l : List Ac) : List Int := if lastC l = true then v else l.foldl actF v
def thF (v : List Int) (x : List (List Ac)) : List Int := x.foldl txF v
def aloneF (P : Pg) : List Int := P.threads.foldl thF P.cells
theorem actF_len (n : List Int) (a : Ac) : (actF n a).length = n.length := by unfold actF; split <;> (try split) <;> simp
theorem actsF_len : ∀ (l : List Ac) (n : List Int), (l.foldl actF n).length = n.length
  | [], _ => rfl
  | a :: l, n => by rw [List.foldl_cons, actsF_len l, actF_len]
theorem txF_len (v : List Int) (l : List Ac) : (txF v l).length = v.length := by unfold txF; split <;> simp [actsF_len]
theorem thF_len : ∀ (x : List (List Ac)) (v : List Int), (thF v x).length = v.length
  | [], _ => rfl
  | l :: x, v => by show (thF (txF v l) x).length = _; rw [thF_len x, txF_len]

/-! ### where a thread by itself stands -/
def hasK (s : MI) (k : Int) : Bool := (fnd k s).isSome
structure Quiet (M : LM) (v : List Int) : Prop where
  len : M.cs.length = v.length
  at_ : ∀ (k : Nat) (c : Ce), M.cs[k]? = some c → v[k]? = some c.val ∧ c.ver ≤ M.clk ∧ c.own = 0
structure Cs1 (M : LM) (v : List Int) (s : MI) (id tm : Int) (L D : Int → Bool) : Prop where
  len : M.cs.length = v.length
  at_ : ∀ (k : Nat) (c : Ce), M.cs[k]? = some c → (D k = true → fnd (k : Int) s = some c.val ∧ c.ver ≤ M.clk ∧ c.own = 0) ∧ (D k = false → v[k]? = some c.val ∧ c.ver ≤ tm ∧ c.own = if L k = true then id else 0)
def nextV (P : Pg) (i : Nat) (t : Th) (v : List Int) : List Int := ((P.acts i t.tx).take t.act).foldl actF v
structure Wrt (P : Pg) (i : Nat) (t : Th) (v : List Int) (s : MI) : Prop where
  no4 : ∀ (j : Nat) (a : Ac), j < t.act → (P.acts i t.tx)[j]? = some a → a.kind ≠ 4
  nxt : ∀ k : Nat, k < v.length → (nextV P i t v)[k]? = some ((fnd (k : Int) s).getD (v.getD k 0))
  add : t.adding = true → ∃ a, (P.acts i t.tx)[t.act]? = some a ∧ a.kind = 3 ∧ t.read = (nextV P i t v).getD a.cell.toNat 0
structure Ls (s : MI) (l : List Int) : Prop where
  nd : l.Nodup
  sub : ∀ k ∈ l, hasK s k = true
def Al (P : Pg) (M : LM) (i : Nat) (t : Th) (v : List Int) : Nx → Prop
  | .none => Quiet M v ∧ t.waits = 0 ∧ (t.begun = true → ∃ r s, M.ws[i]? = some (some (M.clk, r, s)) ∧ Wrt P i t v s) ∧ (t.begun = false → t.act = 0 ∧ t.adding = false)
  | .ans e => Quiet M v ∧ t.waits = 2 ∧ ∃ r s, M.ws[i]? = some (some (M.clk, r, s)) ∧ Wrt P i t v s
  | .abort => Quiet M v ∧ t.waits = 7 ∧ lastC (P.acts i t.tx) = true
  | .commit => t.waits = 4 ∧ Quiet M ((P.acts i t.tx).foldl actF v) ∧ lastC (P.acts i t.tx) = false
  | .lock l => t.waits = 4 ∧ lastC (P.acts i t.tx) = false ∧ t.act = (P.acts i t.tx).length ∧ ∃ r s, M.ws[i]? = some (some (M.clk, r, s)) ∧ Wrt P i t v s ∧ Ls s l ∧ Cs1 M v s (idOf i t.tx) M.clk (fun k => hasK s k && !l.contains k) (fun _ => false)
  | .tick => t.waits = 4 ∧ lastC (P.acts i t.tx) = false ∧ t.act = (P.acts i t.tx).length ∧ ∃ r s, M.ws[i]? = some (some (M.clk, r, s)) ∧ Wrt P i t v s ∧ Cs1 M v s (idOf i t.tx) M.clk (hasK s) (fun _ => false)
  | .look now l => t.waits = 4 ∧ lastC (P.acts i t.tx) = false ∧ t.act = (P.acts i t.tx).length ∧ now = M.clk ∧ ∃ tm r s, M.ws[i]? = some (some (tm, r, s)) ∧ tm ≤ M.clk ∧ Wrt P i t v s ∧ Cs1 M v s (idOf i t.tx) tm (hasK s) (fun _ => false)
  | .write now l => t.waits = 4 ∧ lastC (P.acts i t.tx) = false ∧ t.act = (P.acts i t.tx).length ∧ now = M.clk ∧ ∃ tm r s, M.ws[i]? = some (some (tm, r, s)) ∧ tm ≤ M.clk ∧ Wrt P i t v s ∧ Ls s l ∧ Cs1 M v s (idOf i t.tx) tm (hasK s) (fun k => hasK s k && !l.contains k)
def Vs (P : Pg) (i : Nat) (S S' : Wst) (t t' : Th) (v v' : List Int) : Prop := (t'.tx = t.tx ∧ v' = v) ∨ (t' = endTh t ∧ v' = txF v (P.acts i t.tx) ∧ S' = S.put i (endTh t, withTx (ev0 (if lastC (P.acts i t.tx) = true then 6 else 5)) (idOf i t.tx)))
section
variable {P : Pg} {M M' : LM} {A : Au} {v : List Int}
theorem Quiet.off (h : Quiet M v) (id : Int) : offCs id M.cs = M.cs := by
  apply List.ext_getElem?
  intro k
  unfold offCs
  rw [offN_get]
  cases hc : M.cs[k]? with
  | none => rfl
  | some c =>
    have := (h.at_ k c hc).2.2
    simp only [Option.map_some]
    split
    · rename_i hh
      congr 1
      cases c
      simp only at this
      rw [this]
    · rfl
theorem Quiet.ceAt (h : Quiet M v) {k : Int} (h0 : 0 ≤ k) (h1 : k < v.length) : ∃ c, M.cs[k.toNat]? = some c ∧ _root_.Go.Proofs.YtogphaiomlfofaaGreatDoor.ceAt M.cs k = c ∧ v.getD k.toNat 0 = c.val ∧ c.ver ≤ M.clk ∧ c.own = 0 := by
  obtain ⟨c, hc⟩ : ∃ c, M.cs[k.toNat]? = some c := ⟨_, List.getElem?_eq_getElem (by rw [h.len]; omega)⟩
  obtain ⟨h2, h3, h4⟩ := h.at_ _ c hc
  exact ⟨c, hc, by simp [_root_.Go.Proofs.YtogphaiomlfofaaGreatDoor.ceAt, hc], by rw [List.getD_eq_getElem?_getD, h2]; rfl, h3, h4⟩
theorem Cs1.ceAt {s : MI} {id tm : Int} {L D : Int → Bool} (h : Cs1 M v s id tm L D) {k : Int} (h0 : 0 ≤ k) (h1 : k < v.length) : ∃ c, M.cs[k.toNat]? = some c ∧ _root_.Go.Proofs.YtogphaiomlfofaaGreatDoor.ceAt M.cs k = c ∧ (D k = true → fnd k s = some c.val ∧ c.ver ≤ M.clk ∧ c.own = 0) ∧ (D k = false → v[k.toNat]? = some c.val ∧ c.ver ≤ tm ∧ c.own = if L k = true then id else 0) := by
  obtain ⟨c, hc⟩ : ∃ c, M.cs[k.toNat]? = some c := ⟨_, List.getElem?_eq_getElem (by rw [h.len]; omega)⟩
  have := h.at_ _ c hc
  rw [show ((k.toNat : Nat) : Int) = k by omega] at this
  exact ⟨c, hc, by simp [_root_.Go.Proofs.YtogphaiomlfofaaGreatDoor.ceAt, hc], this⟩
theorem quiet_cs1 (h : Quiet M v) (s : MI) (id : Int) {L : Int → Bool} (hL : ∀ k, L k = false) : Cs1 M v s id M.clk L (fun _ => false) :=
  ⟨h.len, fun k c hc => ⟨(fun e => by cases e), (fun _ => by obtain ⟨h1, h2, h3⟩ := h.at_ k c hc; exact ⟨h1, h2, by rw [hL, h3]; rfl⟩)⟩⟩
theorem take_act {l : List Ac} {n : Nat} {a : Ac} (h : l[n]? = some a) : l.take (n + 1) = l.take n ++ [a] := by rw [List.take_add_one, h]; rfl
theorem no4_last {l : List Ac} (h : ∀ (j : Nat) (a : Ac), j < l.length → l[j]? = some a → a.kind ≠ 4) : lastC l = false := by
  unfold lastC
  cases hl : l.getLast? with
  | none => rfl
  | some a =>
    have hne : l ≠ [] := fun e => by rw [e] at hl; cases hl
    rw [List.getLast?_eq_getElem?] at hl
    have := h _ a (by have := (List.getElem?_eq_some_iff.1 hl).1; exact this) hl
    simpa using this
theorem Wrt.done {i : Nat} {t : Th} {s : MI} (h : Wrt P i t v s) (ha : t.act = (P.acts i t.tx).length) : ∀ k : Nat, k < v.length → ((P.acts i t.tx).foldl actF v)[k]? = some ((fnd (k : Int) s).getD (v.getD k 0)) := fun k hk => by
  have := h.nxt k hk
  unfold nextV at this
  rwa [ha, List.take_length] at this
theorem cs1_quiet {i : Nat} {t : Th} {s : MI} {id tm : Int} {L D : Int → Bool} (h : Cs1 M v s id tm L D) (hw : Wrt P i t v s) (ha : t.act = (P.acts i t.tx).length) (hD : ∀ k : Nat, D k = hasK s k) (hL : ∀ k : Nat, D k = false → L k = false) (htm : tm ≤ M.clk) : Quiet M ((P.acts i t.tx).foldl actF v) := by
  refine ⟨by rw [actsF_len]; exact h.len, fun k c hc => ?_⟩
  have hk : k < v.length := by rw [← h.len]; exact (List.getElem?_eq_some_iff.1 hc).1
  have hn := hw.done ha k hk
  obtain ⟨h1, h2⟩ := h.at_ k c hc
  cases hd : D k with
  | true =>
    obtain ⟨h3, h4, h5⟩ := h1 hd
    exact ⟨by rw [hn, h3]; rfl, h4, h5⟩
  | false =>
    obtain ⟨h3, h4, h5⟩ := h2 hd
    have hf : fnd (k : Int) s = none := by
      have := hD k
      rw [hd] at this
      unfold hasK at this
      cases hq : fnd (k : Int) s with
      | none => rfl
      | some u => rw [hq] at this; cases this
    refine ⟨?_, by omega, by rw [h5, hL k hd]; rfl⟩
    rw [hn, hf]
    simp only [Option.getD_none, List.getD_eq_getElem?_getD, h3, Option.getD_some]
theorem hasK_keys {s : MI} (hs : KSrt s) {k : Int} : hasK s k = true ↔ k ∈ s.map (·.1) := by
  unfold hasK
  constructor
  · intro h
    obtain ⟨u, hu⟩ := Option.isSome_iff_exists.1 h
    exact List.mem_map.2 ⟨(k, u), (fnd_some hs).1 hu, rfl⟩
  · intro h
    obtain ⟨p, hp, rfl⟩ := List.mem_map.1 h
    rw [(fnd_some hs).2 (show (p.1, p.2) ∈ s from hp)]
    rfl
theorem ls_keys {s : MI} (hs : KSrt s) : Ls s (s.map (·.1)) := by
  refine ⟨?_, fun k hk => (hasK_keys hs).2 hk⟩
  unfold List.Nodup
  rw [List.pairwise_map]
  exact hs.imp fun {a b} h e => by omega
theorem Ls.tail {s : MI} {k : Int} {l : List Int} (h : Ls s (k :: l)) : Ls s l ∧ k ∉ l ∧ hasK s k = true := ⟨⟨(List.nodup_cons.1 h.nd).2, fun z hz => h.sub z (List.mem_cons_of_mem _ hz)⟩, (List.nodup_cons.1 h.nd).1, h.sub k (List.mem_cons_self ..)⟩
theorem al_write {i : Nat} {t : Th} {now : Int} {l : List Int} {tm : Int} {r : MB} {s : MI} (hs : KSrt s) (hw4 : t.waits = 4) (hl : lastC (P.acts i t.tx) = false) (ha : t.act = (P.acts i t.tx).length) (hnow : now = M.clk) (hws : M.ws[i]? = some (some (tm, r, s))) (htm : tm ≤ M.clk) (hw : Wrt P i t v s) (hls : Ls s l) (hc : Cs1 M v s (idOf i t.tx) tm (hasK s) (fun k => hasK s k && !l.contains k)) : Al P M i t v (writeNx now l) := by
  cases l with
  | nil =>
    refine ⟨hw4, cs1_quiet hc hw ha (fun k => by simp) (fun k h => by simpa using h) htm, hl⟩
  | cons k l => exact ⟨hw4, hl, ha, hnow, tm, r, s, hws, htm, hw, hls, hc⟩
theorem al_look {i : Nat} {t : Th} {now : Int} {l : List Int} {tm : Int} {r : MB} {s : MI} (hs : KSrt s) (hw4 : t.waits = 4) (hl : lastC (P.acts i t.tx) = false) (ha : t.act = (P.acts i t.tx).length) (hnow : now = M.clk) (hws : M.ws[i]? = some (some (tm, r, s))) (htm : tm ≤ M.clk) (hw : Wrt P i t v s) (hc : Cs1 M v s (idOf i t.tx) tm (hasK s) (fun _ => false)) : Al P M i t v (lookNx now s l) := by
  cases l with
  | nil =>
    refine al_write hs hw4 hl ha hnow hws htm hw (ls_keys hs) ⟨hc.len, fun k c hk => ?_⟩
    have e : (hasK s (k : Int) && !(s.map (·.1)).contains (k : Int)) = false := by
      cases hh : hasK s (k : Int) with
      | false => rfl
      | true => have := (hasK_keys hs).1 hh; simp only [Bool.true_and, Bool.not_eq_false']; simpa using this
    exact ⟨(fun h => by rw [e] at h; cases h), fun _ => (hc.at_ k c hk).2 rfl⟩
  | cons k l => exact ⟨hw4, hl, ha, hnow, tm, r, s, hws, htm, hw, hc⟩
theorem al_lock {i : Nat} {t : Th} {l : List Int} {r : MB} {s : MI} (hs : KSrt s) (hw4 : t.waits = 4) (hl : lastC (P.acts i t.tx) = false) (ha : t.act = (P.acts i t.tx).length) (hws : M.ws[i]? = some (some (M.clk, r, s))) (hw : Wrt P i t v s) (hls : Ls s l) (hc : Cs1 M v s (idOf i t.tx) M.clk (fun k => hasK s k && !l.contains k) (fun _ => false)) : Al P M i t v (lockNx l) := by
  cases l with
  | nil => exact ⟨hw4, hl, ha, r, s, hws, hw, ⟨hc.len, fun k c hk => ⟨(fun e => by cases e), fun _ => by have := (hc.at_ k c hk).2 rfl; simpa using this⟩⟩⟩
  | cons k l => exact ⟨hw4, hl, ha, r, s, hws, hw, hls, hc⟩
end
end Go.Proofs.YtogphaiomlfofaaGreatDoor
