/- The engine latch as plain lists: its steps, one by one, and what holds behind each. Conditions: those of each theorem, as typed. -/
import Derived.Test.YtogphaiomlfofaaDoorToKM
import Derived.Test.YtogphaiomlfofaaDoorWlkM
set_option linter.unusedVariables false
set_option linter.unusedSimpArgs false
namespace Go.Proofs.YtogphaiomlfofaaDoor
open Go.RowKit Go.Maps
set_option linter.unusedVariables false
set_option linter.unusedSimpArgs false

/-! ### how much is left -/
def gTh (t : Th) : Nat := 40 * t.tx + (if t.begun then 1 else 0) + 4 * t.act + (if t.adding then 2 else 0) + (if t.waits = 0 then 0 else 1)
def stage : Nx → Nat
  | .none => 0
  | .abort => 1
  | .rel l => 1 + l.length
  | .ans _ => 1
def mTh (t : Th) (x : Nx) : Nat := 8 * (148 - gTh t) + stage x
def mus : List Th → List Nx → Nat
  | t :: ts, x :: xs => mTh t x + mus ts xs
  | _, _ => 0
def mu (M : LM) : Nat := mus M.W.ths M.nx
theorem mus_set : ∀ (a : List Th) (b : List Nx) (i : Nat) (t t' : Th) (x x' : Nx), a[i]? = some t → b[i]? = some x → mus (a.set i t') (b.set i x') + mTh t x = mus a b + mTh t' x'
  | [], b, i, t, t', x, x', h, _ => by simp at h
  | y :: a, [], i, t, t', x, x', _, h => by simp at h
  | y :: a, z :: b, 0, t, t', x, x', h, h2 => by
    simp only [List.getElem?_cons_zero, Option.some.injEq] at h h2
    subst h; subst h2
    simp [mus]; omega
  | y :: a, z :: b, i + 1, t, t', x, x', h, h2 => by
    have := mus_set a b i t t' x x' (by simpa using h) (by simpa using h2)
    simp only [List.set_cons_succ, mus]
    omega
def tot (P : Pg) : Nat := 1187 * P.threads.length
theorem mus_zero : ∀ n : Nat, mus (List.replicate n Th.zero) (List.replicate n .none) ≤ 1184 * n
  | 0 => by simp [mus]
  | n + 1 => by
    have := mus_zero n
    simp only [List.replicate_succ, mus]
    have : mTh Th.zero .none = 1184 := rfl
    omega

/-! ### what holds -/
def NxOk (P : Pg) (i : Nat) (t : Th) (o : Wo) : Nx → Prop
  | .none => t.waits = 0
  | .abort => t.waits = 7
  | .rel l => t.waits = 4 ∧ l.length ≤ 4 ∧ ∀ k ∈ l, 0 ≤ k ∧ k < P.cells.length
  | .ans e => t.waits = 2 ∧ ∃ a, (P.acts i t.tx)[t.act]? = some a ∧ a.kind ≠ 4 ∧ e = withTx (askOf t a) (idOf i t.tx)
structure WoOk (P : Pg) (k : Nat) (r : MB) (s : MI) : Prop where
  rsrt : KSrt r
  ssrt : KSrt s
  rin : ∀ p ∈ r, 0 ≤ p.1 ∧ p.1 < P.cells.length
  sin : ∀ p ∈ s, 0 ≤ p.1 ∧ p.1 < P.cells.length
  val : ∀ p ∈ s, inB k p.2
structure LInv (P : Pg) (M : LM) : Prop where
  ok : PgOk P
  thl : M.W.ths.length = P.threads.length
  wsl : M.ws.length = P.threads.length
  nxl : M.nx.length = P.threads.length
  csl : M.cs.length = P.cells.length
  th : ∀ (i : Nat) (t : Th), M.W.ths[i]? = some t → ThOk P i t ∧ inB M.W.evs.length t.read
  nx : ∀ (i : Nat) (t : Th) (x : Nx) (o : Wo), M.W.ths[i]? = some t → M.nx[i]? = some x → M.ws[i]? = some o → NxOk P i t o x ∧ (t.begun = true → o ≠ none)
  wo : ∀ (i : Nat) (r : MB) (s : MI), M.ws[i]? = some (some (r, s)) → WoOk P M.W.evs.length r s
  ce : ∀ c ∈ M.cs, inB M.W.evs.length c.val
  ev : M.W.evs.length + mu M ≤ tot P
theorem WoOk.more {P : Pg} {k k' : Nat} {r : MB} {s : MI} (h : WoOk P k r s) (hk : k ≤ k') : WoOk P k' r s := ⟨h.rsrt, h.ssrt, h.rin, h.sin, fun p hp => (h.val p hp).more hk⟩
theorem LInv.turn {P : Pg} {M : LM} (h : LInv P M) {i : Nat} {t t' : Th} {x x' : Nx} {o o' : Wo} {cs' : List Ce} {es : List Ev} (ht : M.W.ths[i]? = some t) (hx : M.nx[i]? = some x) (ho : M.ws[i]? = some o)
    (h1 : ThOk P i t') (h2 : inB (M.W.evs ++ es).length t'.read) (h3 : NxOk P i t' o' x') (h3' : t'.begun = true → o' ≠ none) (h4 : ∀ r s, o' = some (r, s) → WoOk P (M.W.evs ++ es).length r s)
    (h5 : cs'.length = M.cs.length) (h6 : ∀ c' ∈ cs', inB (M.W.evs ++ es).length c'.val) (hm : mTh t' x' < mTh t x) (he : es.length ≤ 1) :
    LInv P ⟨⟨M.W.ths.set i t', M.W.evs ++ es⟩, cs', M.ws.set i o', M.nx.set i x'⟩ ∧ mu ⟨⟨M.W.ths.set i t', M.W.evs ++ es⟩, cs', M.ws.set i o', M.nx.set i x'⟩ < mu M := by
  have hmu := mus_set M.W.ths M.nx i t t' x x' ht hx
  have hlt : mus (M.W.ths.set i t') (M.nx.set i x') + 1 ≤ mus M.W.ths M.nx := by omega
  have hlen : M.W.evs.length ≤ (M.W.evs ++ es).length := by simp
  refine ⟨⟨h.ok, by simpa using h.thl, by simpa using h.wsl, by simpa using h.nxl, h5.trans h.csl, fun j u hu => ?_, fun j u y p hu hy hp => ?_, fun j r s hj => ?_, h6, ?_⟩, by unfold mu; show mus (M.W.ths.set i t') (M.nx.set i x') < _; omega⟩
  · rcases get_set hu with ⟨rfl, rfl⟩ | ⟨-, hu⟩
    · exact ⟨h1, h2⟩
    · exact ⟨(h.th j u hu).1, (h.th j u hu).2.more hlen⟩
  · rcases get_set hu with ⟨rfl, rfl⟩ | ⟨hne, hu⟩
    · rcases get_set hy with ⟨-, rfl⟩ | ⟨hne, -⟩
      · rcases get_set hp with ⟨-, rfl⟩ | ⟨hne, -⟩
        · exact ⟨h3, h3'⟩
        · exact absurd rfl hne
      · exact absurd rfl hne
    · simp only [List.getElem?_set_ne hne] at hy hp
      exact h.nx j u y p hu hy hp
  · rcases get_set hj with ⟨rfl, hr⟩ | ⟨-, hj⟩
    · exact h4 r s hr.symm
    · exact (h.wo j r s hj).more hlen
  · have := h.ev
    unfold mu at this ⊢
    show (M.W.evs ++ es).length + mus (M.W.ths.set i t') (M.nx.set i x') ≤ _
    rw [List.length_append]
    omega
end Go.Proofs.YtogphaiomlfofaaDoor
