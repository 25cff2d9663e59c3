/- Maps as the model has them: a list of entries. A look-up, a store of a new key. On the model alone. Conditions: those of each theorem, as typed. -/
import Derived.Test.YtcombolmacokbaaApp
namespace Go.Proofs.Ytcombolmacokbaa
open Go.RowKit
open Go.Instr (findNow findKey sameNow checkKey)

theorem beq_ba (a b : ByteArray) : (a == b) = decide (a = b) := by
  cases a with | mk x => cases b with | mk y =>
  show (x == y) = _
  rw [Bool.eq_iff_iff]
  simp

theorem findNow_none {s : ByteArray} : ∀ (l : List MapEntry) (i : Nat), (∀ e ∈ l, ∃ s', e.key = .string s' ∧ s ≠ s') → findNow .string (.string s) l i = some none
  | [], _, _ => rfl
  | e :: l, i, h => by
    obtain ⟨s', hk, hne⟩ := h e (List.mem_cons_self)
    have hb : (s == s') = false := by rw [beq_ba]; simpa using hne
    rw [findNow, hk]
    simp only [sameNow, hb]
    exact findNow_none l (i + 1) (fun e he => h e (List.mem_cons_of_mem _ he))

theorem findNow_some {s : ByteArray} {v : Value} : ∀ (l : List MapEntry) (i : Nat), (∀ e ∈ l, ∃ s', e.key = .string s') → (∀ e ∈ l, e.key = .string s → e.val = v) → (∃ e ∈ l, e.key = .string s) →
    ∃ j, findNow .string (.string s) l i = some (some (j, v))
  | [], _, _, _, h => by obtain ⟨e, he, _⟩ := h; cases he
  | e :: l, i, h1, h2, h3 => by
    obtain ⟨s', hk⟩ := h1 e (List.mem_cons_self)
    rw [findNow, hk]
    simp only [sameNow]
    by_cases hs : s = s'
    · subst hs
      have hb : (s == s) = true := by rw [beq_ba]; simp
      simp only [hb]
      exact ⟨i, by rw [h2 e (List.mem_cons_self) hk]⟩
    · have hb : (s == s') = false := by rw [beq_ba]; simpa using hs
      simp only [hb]
      refine findNow_some l (i + 1) (fun e he => h1 e (List.mem_cons_of_mem _ he)) (fun e he => h2 e (List.mem_cons_of_mem _ he)) ?_
      obtain ⟨e', he', hk'⟩ := h3
      rcases List.mem_cons.1 he' with h | h
      · subst h
        rw [hk] at hk'
        exact absurd (by injection hk' with h; exact h.symm) hs
      · exact ⟨e', h, hk'⟩

section
variable {P : Program} {w : World} {mt kt et : TypeId} {r clk : Nat} {es : Array MapEntry} {s : ByteArray} {v : Value}
theorem run_checkKey_string (b : Bool) (n : Nat) (h2 : P.underlying kt = some .string) : (checkKey b (n + 1) kt (.string s)).run P w = .ok () w := by
  simp [checkKey, run_underlying h2]

theorem run_findKey_now {k : Value} {l : List MapEntry} {d : TypeDesc} {x : Option (Nat × Value)} (h2 : P.underlying kt = some d) (hn : findNow d k l 0 = some x) : (findKey kt k l).run P w = .ok x w := by
  simp [findKey, run_underlying h2, hn]

theorem run_getObj_map (hr : w.heap[r]? = some (.map es clk)) : (getObj r).run P w = .ok (.map es clk) w := by
  simp [getObj, Sem.run, hr]

theorem run_setObj_map {o : Obj} (hr : w.heap[r]? = some (.map es clk)) : (setObj r o).run P w = .ok () { w with heap := w.heap.setIfInBounds r o } := by
  simp [setObj, Sem.run, hr]

theorem run_insert_new (h1 : P.underlying mt = some (.map kt et)) (h2 : P.underlying kt = some .string) (hr : w.heap[r]? = some (.map es clk)) (hn : findNow .string (.string s) es.toList 0 = some none) :
    (Instr.mapUpdate mt (.map (some r)) (.string s) v).run P w = .ok () { w with heap := w.heap.setIfInBounds r (.map (es.push { key := .string s, val := v, born := clk }) (clk + 1)) } := by
  have hc := run_checkKey_string (P := P) (w := w) (kt := kt) (s := s) false 9999 h2
  have hf := run_findKey_now (P := P) (w := w) (kt := kt) h2 hn
  simp [Instr.mapUpdate, run_underlying h1, run_getObj_map hr, hc, hf, run_setObj_map hr]

theorem run_lookup_yes {ok : Bool} {j : Nat} (h1 : P.underlying mt = some (.map kt et)) (h2 : P.underlying kt = some .string) (hr : w.heap[r]? = some (.map es clk)) (hn : findNow .string (.string s) es.toList 0 = some (some (j, v))) :
    (Instr.lookup mt (.map (some r)) (.string s) ok).run P w = .ok (if ok then .tuple #[v, .bool true] else v) w := by
  have hc := run_checkKey_string (P := P) (w := w) (kt := kt) (s := s) es.isEmpty 9999 h2
  have hf := run_findKey_now (P := P) (w := w) (kt := kt) h2 hn
  simp [Instr.lookup, run_underlying h1, run_getObj_map hr, hc, hf]

theorem run_lookup_no {ok : Bool} {z : Value} (h1 : P.underlying mt = some (.map kt et)) (h2 : P.underlying kt = some .string) (hr : w.heap[r]? = some (.map es clk)) (hn : findNow .string (.string s) es.toList 0 = some none)
    (hz : (zeroValue et).run P w = .ok z w) : (Instr.lookup mt (.map (some r)) (.string s) ok).run P w = .ok (if ok then .tuple #[z, .bool false] else z) w := by
  have hc := run_checkKey_string (P := P) (w := w) (kt := kt) (s := s) es.isEmpty 9999 h2
  have hf := run_findKey_now (P := P) (w := w) (kt := kt) h2 hn
  simp [Instr.lookup, run_underlying h1, run_getObj_map hr, hc, hf, hz]
end
end Go.Proofs.Ytcombolmacokbaa
