/- Threads that go through a program, step by step: plain lists. Conditions: those of each theorem, as typed. -/
import Derived.Test.YtogphaiomlfofaaDoorKdsM
set_option linter.unusedVariables false
set_option linter.unusedSimpArgs false
namespace Go.Proofs.YtogphaiomlfofaaDoor
open Go.RowKit Go.Maps
set_option linter.unusedVariables false
set_option linter.unusedSimpArgs false

def VB (k : Nat) : Int := 1000000 + 1000 * k
def inB (k : Nat) (v : Int) : Prop := -VB k ≤ v ∧ v ≤ VB k
theorem inB.more {k k' : Nat} {v : Int} (h : inB k v) (hk : k ≤ k') : inB k' v := by unfold inB VB at *; omega
theorem set_same {α : Type} {l : List α} {i : Nat} {x : α} (h : l[i]? = some x) : l.set i x = l := by
  apply List.ext_getElem?
  intro j
  by_cases e : i = j
  · subst e; rw [List.getElem?_set_self (List.getElem?_eq_some_iff.1 h).1, h]
  · rw [List.getElem?_set_ne e]
theorem get_set {α : Type} {l : List α} {i j : Nat} {x y : α} (h : (l.set i x)[j]? = some y) : (i = j ∧ y = x) ∨ (i ≠ j ∧ l[j]? = some y) := by
  by_cases e : i = j
  · subst e
    have hl : i < l.length := by have := (List.getElem?_eq_some_iff.1 h).1; simpa using this
    rw [List.getElem?_set_self hl] at h
    exact .inl ⟨rfl, (Option.some.inj h).symm⟩
  · rw [List.getElem?_set_ne e] at h
    exact .inr ⟨e, h⟩
def isWr (t : Th) (a : Ac) : Prop := a.kind = 2 ∨ a.kind = 3 ∧ t.adding = true
def isRd (t : Th) (a : Ac) : Prop := a.kind = 1 ∨ a.kind = 3 ∧ t.adding = false
def wrVal (t : Th) (a : Ac) : Int := if a.kind = 2 then a.val else a.val + t.read
def rdTh (t : Th) (a : Ac) (v : Int) : Th := if a.kind = 3 then { t with waits := 0, adding := true, read := v } else { t with waits := 0, act := t.act + 1 }
def wrTh (t : Th) : Th := { t with waits := 0, adding := false, act := t.act + 1 }
def endTh (t : Th) : Th := { Th.zero with tx := t.tx + 1 }
section
variable {P : Pg}
theorem wDone_th {S : Wst} {i : Nat} {t : Th} (ht : S.ths[i]? = some t) : wDone P S i = thDone P i t := by
  unfold wDone
  rw [if_neg (by omega)]
  simp only [Int.toNat_natCast, ht]
theorem ThOk.begun {i : Nat} {t : Th} (h : ThOk P i t) (hw : t.waits ≠ 0) : t.begun = true := by
  rcases h.waits with h | ⟨h, -⟩
  · exact absurd h hw
  · exact h
theorem acts_le (h : PgOk P) {i : Nat} (hi : i < P.threads.length) (k : Nat) : (P.acts i k).length ≤ 6 := by
  unfold Pg.acts Pg.txs
  obtain ⟨x, hx⟩ : ∃ x, P.threads[i]? = some x := ⟨_, List.getElem?_eq_getElem hi⟩
  simp only [List.getD_eq_getElem?_getD, hx, Option.getD_some]
  cases hl : x[k]? with
  | none => simp
  | some l => exact (h.acts x (List.mem_of_getElem? hx) l (List.mem_of_getElem? hl)).2
theorem bput {S : Wst} {i : Nat} {t' : Th} {e : Ev} (hB : ∀ (i : Nat) (t : Th), S.ths[i]? = some t → t.begun = true → t.tx < (P.txs i).length) (h1 : t'.begun = true → t'.tx < (P.txs i).length) : ∀ (j : Nat) (u : Th), (S.put i (t', e)).ths[j]? = some u → u.begun = true → u.tx < (P.txs j).length := by
  intro j u hu hb
  rcases get_set (l := S.ths) (i := i) (x := t') (by simpa [Wst.put] using hu) with ⟨rfl, rfl⟩ | ⟨hne, hu⟩
  · exact h1 hb
  · exact hB j u hu hb
end
end Go.Proofs.YtogphaiomlfofaaDoor
