/- The program and the schedule with which the third engine is caught: the document's, and the program's. Conditions: those of each theorem, as typed. -/
import Derived.Test.YtcombolmacokbaaGet22
namespace Go.Proofs.Ytcombolmacokbaa
open Go.RowKit

def valC (v : Value) : List Value := [v]
def intC (n : Int) : List Value := [.int .i64 n]
theorem flat_int (l : List Int) : l.flatMap intC = l.map (.int .i64) := by induction l with | nil => rfl | cons x l ih => simp [intC, ih]
theorem flat_val (l : List Value) : l.flatMap valC = l := by induction l with | nil => rfl | cons x l ih => simp [valC, ih]
abbrev OwnI := OwnF intC 3 1
theorem info42 : (Try.prog.info? 42).map (fun i => (i.zero, i.size, i.bytes)) = some (some (.slice none 0 0), 1, 24) := by kernel_rfl

def caughtS : List Int := [1, 1, 1, 0, 0, 0, 0, 0, 0, 0, 0, 1, 1]
def caughtT : List (List (List Ac)) := [[[⟨2, 0, 1⟩, ⟨2, 1, 1⟩]], [[⟨1, 0, 0⟩, ⟨1, 1, 0⟩]]]
def RetP (w : World) (e : Ending) (w' : World) : Prop :=
  ∃ c t s vs, e = .returned (.tuple #[.agg #[c, t], s]) ∧ OwnI w' w.heap.size c [0, 0] ∧ OwnF valC 42 1 w' w.heap.size t vs ∧ vs.length = 2 ∧ IsThr w' w'.heap.size t caughtT ∧ OwnI w' w.heap.size s caughtS ∧ Below w.heap.size w w'

def acts1 : List Ac := [⟨2, 0, 1⟩, ⟨2, 1, 1⟩]
def acts2 : List Ac := [⟨1, 0, 0⟩, ⟨1, 1, 0⟩]
theorem sl_row {w : World} {g n sz cap B : Nat} {cs : Array Value} {t : TypeId} {xs : List Value} (h : w.heap[g]? = some (.cells cs t (0, 0))) (hB : g < B) (hn : n ≤ 9223372036854775807) (hl : xs.length = n * sz) (hx : cs.toList = xs) : Sl w B sz (.slice (some ⟨g, 0, none⟩) n cap) n xs :=
  ⟨_, cap, rfl, hn, hl, fun _ => ⟨g, 0, rfl, hB, fun j u hu => by rw [row_cell h, Nat.zero_add, ← hu, ← hx]; simp⟩⟩
theorem own_row {α : Type} {f : α → List Value} {w : World} {g n sz B : Nat} {cs : Array Value} {t : TypeId} {l : List α} (h : w.heap[g]? = some (.cells cs t (0, 0))) (hB : B ≤ g) (hn : n ≤ 9223372036854775807) (hl : l.length = n) (hx : cs.toList = l.flatMap f) (hz : (l.flatMap f).length = n * sz) : OwnF f t sz w B (.slice (some ⟨g, 0, none⟩) n n) l := by
  subst hl
  refine ⟨hz, .inr ⟨g, l.length, cs, rfl, hB, h, Nat.le_refl _, by unfold maxLen; omega, by rw [← Array.length_toList, hx, hz], ?_⟩⟩
  rw [hx, ← hz]
  exact List.take_length

/-- The threads of the two programs, where their blocks lie. -/
theorem thr_of {w : World} {B t1 t2 a1 a2 : Nat} {v : Value} (hv : Sl w B 1 v 2 [.slice (some ⟨t1, 0, none⟩) 1 1, .slice (some ⟨t2, 0, none⟩) 1 1]) {e1 e2 e3 e4 : TypeId}
    (h1 : w.heap[t1]? = some (.cells #[.slice (some ⟨a1, 0, none⟩) 2 2] e1 (0, 0))) (h2 : w.heap[t2]? = some (.cells #[.slice (some ⟨a2, 0, none⟩) 2 2] e2 (0, 0)))
    (h3 : w.heap[a1]? = some (.cells (acts1.flatMap Ac.cells).toArray e3 (0, 0))) (h4 : w.heap[a2]? = some (.cells (acts2.flatMap Ac.cells).toArray e4 (0, 0)))
    (b1 : t1 < B) (b2 : t2 < B) (b3 : a1 < B) (b4 : a2 < B) : IsThr w B v caughtT := by
  refine ⟨_, hv, fun k u x hu hx => ?_⟩
  match k, hu, hx with
  | 0, hu, hx =>
    obtain rfl : Value.slice (some ⟨t1, 0, none⟩) 1 1 = u := by simpa using hu
    obtain rfl : [acts1] = x := Option.some.inj hx
    refine ⟨[.slice (some ⟨a1, 0, none⟩) 2 2], sl_row h1 b1 (by simp) rfl rfl, fun k u x hu hx => ?_⟩
    match k, hu, hx with
    | 0, hu, hx =>
      obtain rfl : Value.slice (some ⟨a1, 0, none⟩) 2 2 = u := by simpa using hu
      obtain rfl : acts1 = x := Option.some.inj hx
      exact sl_row h3 b3 (by decide) rfl (by simp)
    | k + 1, hu, hx => simp at hx
  | 1, hu, hx =>
    obtain rfl : Value.slice (some ⟨t2, 0, none⟩) 1 1 = u := by simpa using hu
    obtain rfl : [acts2] = x := Option.some.inj hx
    refine ⟨[.slice (some ⟨a2, 0, none⟩) 2 2], sl_row h2 b2 (by simp) rfl rfl, fun k u x hu hx => ?_⟩
    match k, hu, hx with
    | 0, hu, hx =>
      obtain rfl : Value.slice (some ⟨a2, 0, none⟩) 2 2 = u := by simpa using hu
      obtain rfl : acts2 = x := Option.some.inj hx
      exact sl_row h4 b4 (by decide) rfl (by simp)
    | k + 1, hu, hx => simp at hx
  | k + 2, hu, hx => simp [caughtT] at hx

theorem caught_fin {w Wf : World} {c1 t1 t2 a1 a2 s g2 k2 : Nat} {e1 e2 e3 e4 : TypeId} (hB : Below w.heap.size w Wf) (hI : Wf.heap[c1]? = some (.cells ([0, 0].flatMap intC).toArray 3 (0, 0))) (b0 : w.heap.size ≤ c1)
    (hT : OwnF valC 42 1 Wf w.heap.size (.slice (some ⟨g2, 0, none⟩) 2 k2) [.slice (some ⟨t1, 0, none⟩) 1 1, .slice (some ⟨t2, 0, none⟩) 1 1])
    (h1 : Wf.heap[t1]? = some (.cells #[.slice (some ⟨a1, 0, none⟩) 2 2] e1 (0, 0))) (h2 : Wf.heap[t2]? = some (.cells #[.slice (some ⟨a2, 0, none⟩) 2 2] e2 (0, 0)))
    (h3 : Wf.heap[a1]? = some (.cells (acts1.flatMap Ac.cells).toArray e3 (0, 0))) (h4 : Wf.heap[a2]? = some (.cells (acts2.flatMap Ac.cells).toArray e4 (0, 0)))
    (hS : Wf.heap[s]? = some (.cells (caughtS.flatMap intC).toArray 3 (0, 0))) (b1 : w.heap.size ≤ s) :
    RetP w (.returned (.tuple #[.agg #[.slice (some ⟨c1, 0, none⟩) 2 2, .slice (some ⟨g2, 0, none⟩) 2 k2], .slice (some ⟨s, 0, none⟩) 13 13])) Wf := by
  refine ⟨_, _, _, _, rfl, own_row hI b0 (by simp) rfl (by simp) rfl, hT, rfl, ?_, own_row hS b1 (by simp) rfl (by simp) rfl, hB⟩
  have h := hT.sl
  rw [flat_val] at h
  exact thr_of h h1 h2 h3 h4 (row_lt h1) (row_lt h2) (row_lt h3) (row_lt h4)

set_option maxHeartbeats 2000000 in
theorem r_caught (w : World) : Calls Try.prog 13 #[] w (RetP w) := by
  go_enter Try.func13, Try.ntmps13
  go_wp2_with (at_builtin; (refine wpList_appF rfl _ _ _ rfl _ 24 Try.underlying33 info42 rfl (OwnF.nil (f := valC) _ (w.heap.size + 3)) (.slice (some ⟨w.heap.size + 1 + 1 + 1 + 1, 0, none⟩) 1 1) (by first | omega | (simp <;> omega)) (by rfl) (by rfl) (by simp) rfl (by simp [valC, Value.oneCell']) (by simp) (by simp) ?_); refine Stop.halt ?_)
  refine Stop.go ?_
  intro g1 k1 w1 h1 G1
  have r0 : w1.heap[w.heap.size]? = some (.cells #[.slice none 0 0, .slice none 0 0] 35) := row_grw (by repeat (first | exact row_new' (by simp) | refine row_old ?_ | refine row_other ?_ (by omega))) G1 (by simp [Value.ownBlock])
  have r1 : w1.heap[w.heap.size + 1]? = some (.cells #[.int .i64 0, .int .i64 0] 3) := row_grw (by repeat (first | exact row_new' (by simp) | refine row_old ?_ | refine row_other ?_ (by omega))) G1 (by simp [Value.ownBlock])
  have r2 : w1.heap[w.heap.size + 1 + 1]? = some (.cells #[.slice (some ⟨w.heap.size + 1, 0, none⟩) 2 2, .slice none 0 0] 35) := row_grw (by repeat (first | exact row_new' (by simp) | refine row_old ?_ | refine row_other ?_ (by omega))) G1 (by simp [Value.ownBlock])
  have r3 : w1.heap[w.heap.size + 1 + 1 + 1]? = some (.cells #[.int .i64 2, .int .i64 0, .int .i64 1, .int .i64 2, .int .i64 1, .int .i64 1] 65) := row_grw (by repeat (first | exact row_new' (by simp) | refine row_old ?_ | refine row_other ?_ (by omega))) G1 (by simp [Value.ownBlock])
  have r4 : w1.heap[w.heap.size + 1 + 1 + 1 + 1]? = some (.cells #[.slice (some ⟨w.heap.size + 1 + 1 + 1, 0, none⟩) 2 2] 67) := row_grw (by repeat (first | exact row_new' (by simp) | refine row_old ?_ | refine row_other ?_ (by omega))) G1 (by simp [Value.ownBlock])
  have B1 : Below w.heap.size w w1 := ((((((Below.refl _ _).alloc (Nat.le_refl _) _).alloc (by simp) _).alloc (by first | omega | (simp <;> omega)) _).alloc (by first | omega | (simp <;> omega)) _).alloc (by first | omega | (simp <;> omega)) _).trans (G1.below (by first | omega | (simp <;> omega)) (by simp [Value.ownBlock]))
  have z1 : w.heap.size + 5 ≤ w1.heap.size := by have := G1.size; simp at this; omega
  have hg1 : w.heap.size + 5 ≤ g1 := by have := G1.own g1 rfl; simp [Value.ownBlock] at this; omega
  have c20 := row_cell r2 0
  have c21 := row_cell r2 1
  have f21 := row_free r2 1
  have R0 := hid r0
  have R1 := hid r1
  have R2 := hid r2
  have R3 := hid r3
  have R4 := hid r4
  have BB1 := hid B1
  have HH1 := hid h1
  clear r0 r1 r2 r3 r4 B1 h1 G1
  go_wp2_with (at_builtin; (refine wpList_appF rfl _ _ _ rfl _ 24 Try.underlying33 info42 rfl (((HH1.out.set (g := w.heap.size + 1 + 1) (j := 1) (u := .slice (some ⟨g1, 0, none⟩) 1 k1) (by first | omega | (simp <;> omega))).alloc _).alloc _) (.slice (some ⟨w1.heap.size + 1, 0, none⟩) 1 1) (by first | omega | (simp <;> omega)) (by rfl) (by rfl) (by simp) rfl (by simp [valC, Value.oneCell']) (by simp) (by simp) ?_); refine Stop.halt ?_)
  refine Stop.go ?_
  intro g2 k2 w2 h2 G2
  have q0 : w2.heap[w.heap.size]? = some (.cells #[.slice none 0 0, .slice none 0 0] 35) := row_grw (by repeat (first | exact R0.out | refine row_old ?_ | refine row_other ?_ (by omega))) G2 (by simp [Value.ownBlock]; omega)
  have q1 : w2.heap[w.heap.size + 1]? = some (.cells #[.int .i64 0, .int .i64 0] 3) := row_grw (by repeat (first | exact R1.out | refine row_old ?_ | refine row_other ?_ (by omega))) G2 (by simp [Value.ownBlock]; omega)
  have q3 : w2.heap[w.heap.size + 1 + 1 + 1]? = some (.cells #[.int .i64 2, .int .i64 0, .int .i64 1, .int .i64 2, .int .i64 1, .int .i64 1] 65) := row_grw (by repeat (first | exact R3.out | refine row_old ?_ | refine row_other ?_ (by omega))) G2 (by simp [Value.ownBlock]; omega)
  have q4 : w2.heap[w.heap.size + 1 + 1 + 1 + 1]? = some (.cells #[.slice (some ⟨w.heap.size + 1 + 1 + 1, 0, none⟩) 2 2] 67) := row_grw (by repeat (first | exact R4.out | refine row_old ?_ | refine row_other ?_ (by omega))) G2 (by simp [Value.ownBlock]; omega)
  have q2 := row_grw (g := w.heap.size + 1 + 1) (row_old (row_old (row_set R2.out 1 (.slice (some ⟨g1, 0, none⟩) 1 k1)))) G2 (by simp [Value.ownBlock]; omega)
  have q5 : w2.heap[w1.heap.size]? = some (.cells #[.int .i64 1, .int .i64 0, .int .i64 0, .int .i64 1, .int .i64 1, .int .i64 0] 65) := row_grw (row_old (row_new' (by simp))) G2 (by have := row_lt R4.out; have := (HH1.out.lt g1 rfl).2; simp [Value.ownBlock]; omega)
  have q6 : w2.heap[w1.heap.size + 1]? = some (.cells #[.slice (some ⟨w1.heap.size, 0, none⟩) 2 2] 67) := row_grw (row_new' (by simp)) G2 (by have := (HH1.out.lt g1 rfl).2; simp [Value.ownBlock]; omega)
  have z2 : w1.heap.size + 2 ≤ w2.heap.size := by have := G2.size; simp at this; omega
  have B2 : Below w.heap.size w w2 := BB1.out.trans (((((Below.refl _ _).setCell (p := ⟨w.heap.size + 1 + 1, 1, none⟩) (by show _ ≤ w.heap.size + 1 + 1; omega) _).alloc (by first | omega | (simp <;> omega)) _).alloc (by first | omega | (simp <;> omega)) _).trans (G2.below (by first | omega | (simp <;> omega)) (by simp [Value.ownBlock]; omega)))
  have hg2 : w.heap.size + 5 ≤ g2 := by have := G2.own g2 rfl; simp [Value.ownBlock] at this; omega
  clear R0 R1 R2 R3 R4 BB1 G2 HH1 c20 c21 f21
  have c20 := row_cell q2 0
  have c21 := row_cell q2 1
  have f21 := row_free q2 1
  have c00 := row_cell q0 0
  have c01 := row_cell q0 1
  have f00 := row_free q0 0
  have f01 := row_free q0 1
  have Q0 := hid q0
  have Q1 := hid q1
  have Q2 := hid q2
  have Q3 := hid q3
  have Q4 := hid q4
  have Q5 := hid q5
  have Q6 := hid q6
  have BB2 := hid B2
  have HH2 := hid h2
  have l0 : w.heap.size < w2.heap.size := by omega
  have l2 : w.heap.size + 1 + 1 < w2.heap.size := by omega
  clear q0 q1 q2 q3 q4 q5 q6 B2 h2
  go_wp2
  have hT := ((((HH2.out.set (g := w.heap.size + 1 + 1) (j := 1) (u := .slice (some ⟨g2, 0, none⟩) 2 k2) (by first | omega | (simp <;> omega))).set (g := w.heap.size) (j := 0) (u := .slice (some ⟨w.heap.size + 1, 0, none⟩) 2 2) (by first | omega | (simp <;> omega))).set (g := w.heap.size) (j := 1) (u := .slice (some ⟨g2, 0, none⟩) 2 k2) (by first | omega | (simp <;> omega))).alloc (.cells (caughtS.flatMap intC).toArray 3)).base (B' := w.heap.size) (by first | omega | (simp <;> omega))
  have hB := (((BB2.out.setCell (p := ⟨w.heap.size + 1 + 1, 1, none⟩) (by show _ ≤ w.heap.size + 1 + 1; omega) (.slice (some ⟨g2, 0, none⟩) 2 k2)).setCell (p := ⟨w.heap.size, 0, none⟩) (Nat.le_refl _) (.slice (some ⟨w.heap.size + 1, 0, none⟩) 2 2)).setCell (p := ⟨w.heap.size, 1, none⟩) (Nat.le_refl _) (.slice (some ⟨g2, 0, none⟩) 2 k2)).alloc (by first | omega | (simp <;> omega)) (.cells (caughtS.flatMap intC).toArray 3)
  have hq := row_old (o := .cells (caughtS.flatMap intC).toArray 3) (row_set (row_set (row_other (g' := w.heap.size + 1 + 1) (j := 1) (v := .slice (some ⟨g2, 0, none⟩) 2 k2) Q0.out (by omega)) 0 (.slice (some ⟨w.heap.size + 1, 0, none⟩) 2 2)) 1 (.slice (some ⟨g2, 0, none⟩) 2 k2))
  have x0 := row_cell hq 0
  have x1 := row_cell hq 1
  simp only [caughtS, List.flatMap_cons, List.flatMap_nil, intC, List.cons_append, List.nil_append, List.append_nil] at x0 x1
  exact bodyPost_ret (v := .tuple #[.agg #[.slice (some ⟨w.heap.size + 1, 0, none⟩) 2 2, .slice (some ⟨g2, 0, none⟩) 2 k2], .slice (some ⟨w2.heap.size, 0, none⟩) 13 13]) (by simp [results, Try.results13, go_sem, x0, x1]) rfl
    (caught_fin hB (by repeat (first | exact Q1.out | refine row_old ?_ | refine row_other ?_ (by omega))) (by first | omega | (simp <;> omega)) hT (by repeat (first | exact Q4.out | refine row_old ?_ | refine row_other ?_ (by omega))) (by repeat (first | exact Q6.out | refine row_old ?_ | refine row_other ?_ (by omega))) (by repeat (first | exact Q3.out | refine row_old ?_ | refine row_other ?_ (by omega))) (by repeat (first | exact Q5.out | refine row_old ?_ | refine row_other ?_ (by omega))) (row_new' (by simp)) (by first | omega | (simp <;> omega)))
end Go.Proofs.Ytcombolmacokbaa
