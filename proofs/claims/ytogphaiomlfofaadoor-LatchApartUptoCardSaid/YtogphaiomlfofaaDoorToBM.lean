/- The engine latch: what it says; the number of a thread's transaction. Conditions: those of each theorem, as typed. -/
import Derived.Test.YtogphaiomlfofaaDoorToAM
set_option linter.unusedVariables false
set_option linter.unusedSimpArgs false
namespace Go.Proofs.YtogphaiomlfofaaDoor
open Go.RowKit Go.Maps
set_option linter.unusedVariables false
set_option linter.unusedSimpArgs false
attribute [local irreducible] wpL

structure WoCan (P : Pg) (r : MB) (s : MI) : Prop where
  rin : ∀ q ∈ r, q.1 < P.cells.length
  sin : ∀ q ∈ s, q.1 < P.cells.length ∧ -999999000 ≤ q.2 ∧ q.2 ≤ 999999000
def LaPost (C : LC) (P : Pg) (M' : LM) (v : Value) (w : World) (e : Ending) (w' : World) : Prop := e = .returned v ∧ Below C.B w w' ∧ ∃ ve' us', LaAt w' C ve' us' P M'
theorem putO_len {s : Wst} {i : Nat} {y : Option (Th × Ev)} : s.evs.length ≤ (s.putO i y).evs.length := by
  cases y <;> simp [Wst.putO, Wst.put]
theorem PgOk.acVal {P : Pg} (h : PgOk P) {i : Nat} (hi : i < P.threads.length) {k j : Nat} {a : Ac} (ha : (P.acts i k)[j]? = some a) : -1000 ≤ a.val ∧ a.val ≤ 1000 := by
  unfold Pg.acts Pg.txs at ha
  obtain ⟨x, hx⟩ : ∃ x, P.threads[i]? = some x := ⟨_, List.getElem?_eq_getElem hi⟩
  simp only [List.getD_eq_getElem?_getD, hx, Option.getD_some] at ha
  cases hl : x[k]? with
  | none => rw [hl] at ha; simp at ha
  | some l =>
    rw [hl, Option.getD_some] at ha
    rcases h.act x (List.mem_of_getElem? hx) l (List.mem_of_getElem? hl) j a ha with h | h <;> omega
section
variable {w : World} {C : LC} {ve : Value} {P : Pg} {M : LM} {us : List (Value × Value)}
theorem LaAt.size (h : LaAt w C ve us P M) : C.B ≤ w.heap.size := by have := row_lt h.row; have := h.hB; omega
theorem LaAt.ok (h : LaAt w C ve us P M) : PgOk P := let ⟨_, h1, _⟩ := h.dr; h1.walk.ok
theorem la_said (h : LaAt w C ve us P M) (i : Nat) (hi : i < P.threads.length) {t : Th} (ht : M.W.ths[i]? = some t) (val : Int) (abort : Bool) (hv : -999999000 ≤ val ∧ val ≤ 999999000) (hl : M.W.evs.length ≤ 100000) :
    Calls Tryd.prog 39 #[.pointer (some ⟨C.bD, 0, none⟩), .int .i64 i, .int .i64 val, .bool abort] w (LaPost C P { M with W := M.W.putO i (ansOf P i t val abort) } (.tuple #[]) w) := by
  obtain ⟨vs, h1, h2, h3⟩ := h.dr
  have hok := h.ok
  refine (d_answer h1 h.size i hi ht val abort (by simp [within9]; omega) (fun a ha _ _ => by have := hok.acVal hi ha; simp [within9]; omega) hl).mono ?_
  rintro e w1 ⟨rfl, hb, hk, ve', hd, ho⟩
  refine ⟨rfl, hb, ve', us, ?_⟩
  cases hr : ansOf P i t val abort with
  | none => rw [hr] at hd; exact h.walked hk hd.walk ho
  | some y => rw [hr] at hd; exact h.walked hk hd.walk ho
theorem BxM.below {w' : World} {i p1 p2 : Nat} (h : BxM w C i p1 p2) (hb : Below w.heap.size w w') : BxM w' C i p1 p2 := h.keep (fun p u hp => row_below hp hb (row_lt hp)) (fun p u hp => row_below hp hb (row_lt hp))
theorem LsBx.below {w' : World} {p3 : Nat} {l : List Int} (h : LsBx w C p3 l) (hb : Below w.heap.size w w') : LsBx w' C p3 l := by
  obtain ⟨g, off, cap, cs, h1, h2, r⟩ := h
  exact ⟨g, off, cap, cs, row_below h1 hb (row_lt h1), row_below h2 hb (row_lt h2), r⟩
theorem la_tx (h : LaAt w C ve us P M) (i : Nat) (hi : i < P.threads.length) {t : Th} (ht : M.W.ths[i]? = some t) (hd : thDone P i t = false) (hb : t.begun = true) :
    Calls Tryd.prog 45 #[.pointer (some ⟨C.bD, 0, none⟩), .int .i64 i] w fun e w' => e = .returned (.int .i64 (idOf i t.tx)) ∧ Below w.heap.size w w' := by
  obtain ⟨vs, h1, h2, h3⟩ := h.dr
  have d2 := row_cell h1.row 2
  have lD := row_lt h1.row
  have hc := wk_tx h1.walk i hi ht
  rw [if_pos ⟨hd, hb⟩] at hc
  have HC := hid hc
  clear h h1 h3 hc
  go_enter Tryd.func45, Tryd.ntmps45
  go_wp2_with fail
  refine (HC.out).mono ?_
  rintro e w1 ⟨rfl, rfl⟩
  clear HC
  go_wp2
  go_ret
  exact ⟨rfl, (Below.refl _ _).drew⟩
end
end Go.Proofs.YtogphaiomlfofaaDoor
