/- The chapters' examples: the programs. Turned by wip/tools/law20.sh; genlam.py. Conditions: those of each theorem, as typed. -/
import Derived.Test.YtogphaiomlfofaaDoorTaLM
set_option linter.unusedVariables false
set_option linter.unusedSimpArgs false
namespace Go.Proofs.YtogphaiomlfofaaDoor
open Go.RowKit
set_option linter.unusedVariables false
set_option linter.unusedSimpArgs false
attribute [local irreducible] wpL

def ExPost (P : Pg) (w : World) (e : Ending) (w' : World) : Prop := ∃ vc vt, e = .returned (.agg #[vc, vt]) ∧ PgIs w' w'.heap.size vc vt P ∧ Below w.heap.size w w'
theorem sl_row {w : World} {g : Nat} {cs : Array Value} {t : TypeId} {sz n c : Nat} (h : w.heap[g]? = some (.cells cs t (0, 0))) (hn : n ≤ 9223372036854775807) (hs : cs.size = n * sz) : Sl w w.heap.size sz (.slice (some ⟨g, 0, none⟩) n c) n cs.toList :=
  ⟨_, _, rfl, hn, by simpa using hs, fun _ => ⟨g, 0, rfl, row_lt h, fun j u hu => by rw [Nat.zero_add, row_cell h]; simpa using hu⟩⟩
theorem isl_row1 {α : Type} {R : World → Nat → Value → α → Prop} {w : World} {g c : Nat} {u : Value} {t : TypeId} {x : α} (h : w.heap[g]? = some (.cells #[u] t (0, 0))) (hu : R w w.heap.size u x) : IsL R w w.heap.size (.slice (some ⟨g, 0, none⟩) 1 c) [x] :=
  ⟨_, sl_row h (by decide) rfl, fun k v y hv hy => by
    rcases k with _ | k
    · simp at hv hy; subst hv hy; exact hu
    · simp at hy⟩
theorem isl_row2 {α : Type} {R : World → Nat → Value → α → Prop} {w : World} {g c : Nat} {u u' : Value} {t : TypeId} {x x' : α} (h : w.heap[g]? = some (.cells #[u, u'] t (0, 0))) (hu : R w w.heap.size u x) (hu' : R w w.heap.size u' x') : IsL R w w.heap.size (.slice (some ⟨g, 0, none⟩) 2 c) [x, x'] :=
  ⟨_, sl_row h (by decide) rfl, fun k v y hv hy => by
    rcases k with _ | _ | k
    · simp at hv hy; subst hv hy; exact hu
    · simp at hv hy; subst hv hy; exact hu'
    · simp at hy⟩
theorem l_ex20_1 (c : Int) (w : World) : Calls Tryd.prog 22 #[.int .i64 c] w fun e w' => e = .returned (.agg #[.int .i64 3, .int .i64 c, .int .i64 1]) ∧ Below w.heap.size w w' := by
  go_enter Tryd.func22, Tryd.ntmps22
  go_wp2
  refine bodyPost_ret (v := .agg #[.int .i64 3, .int .i64 c, .int .i64 1]) (by simp [results, Tryd.results22, go_sem]) rfl ⟨rfl, ?_⟩
  exact (Below.refl w.heap.size w).alloc (Nat.le_refl _) _
theorem l_ex20_2 (c : Int) (w : World) : Calls Tryd.prog 23 #[.int .i64 c] w fun e w' => e = .returned (.agg #[.int .i64 1, .int .i64 c, .int .i64 0]) ∧ Below w.heap.size w w' := by
  go_enter Tryd.func23, Tryd.ntmps23
  go_wp2
  refine bodyPost_ret (v := .agg #[.int .i64 1, .int .i64 c, .int .i64 0]) (by simp [results, Tryd.results23, go_sem]) rfl ⟨rfl, ?_⟩
  exact (Below.refl w.heap.size w).alloc (Nat.le_refl _) _
def exP20 : Pg := ⟨[0, 0], [[[⟨3, 0, 1⟩, ⟨3, 1, 1⟩]], [[⟨1, 0, 0⟩, ⟨1, 1, 0⟩]]]⟩
set_option maxRecDepth 100000 in
theorem l_ex20 (w : World) : Calls Tryd.prog 14 #[] w (ExPost exP20 w) := by
  have b0 : Below w.heap.size w ((w.alloc (.cells #[.slice none 0 0, .slice none 0 0] 25)).alloc (.cells #[.int .i64 0, .int .i64 0] 3)) := ((Below.refl _ w).alloc (Nat.le_refl _) _).alloc (by simp) _
  have r0 := row_old (o := .cells #[.int .i64 0, .int .i64 0] 3) (row_new w (.cells #[.slice none 0 0, .slice none 0 0] 25))
  have r1 := row_new' (w := w.alloc (.cells #[.slice none 0 0, .slice none 0 0] 25)) (o := .cells #[.int .i64 0, .int .i64 0] 3) (g := w.heap.size + 1) (by simp)
  go_enter Tryd.func14, Tryd.ntmps14
  go_wp2_with fail
  generalize (w.alloc (.cells #[.slice none 0 0, .slice none 0 0] 25)).alloc (.cells #[.int .i64 0, .int .i64 0] 3) = W at *
  refine (l_ex20_1 0 _).mono ?_
  rintro e W1 ⟨rfl, b1⟩
  go_wp2_with fail
  refine (l_ex20_1 1 _).mono ?_
  rintro e W2 ⟨rfl, b2⟩
  have b2 := b1.trans (b2.mono b1.size)
  have r0 := row_below r0 b2 (row_lt r0)
  have r1 := row_below r1 b2 (row_lt r1)
  have lw2 := row_lt r1
  have b2 := b0.trans (b2.mono b0.size)
  clear b0 b1
  have ra := row_old (o := .cells #[.slice (some ⟨W2.heap.size, 0, none⟩) 2 2] 33) (row_new W2 (.cells #[.int .i64 3, .int .i64 0, .int .i64 1, .int .i64 3, .int .i64 1, .int .i64 1] 35))
  have rt := row_new' (w := W2.alloc (.cells #[.int .i64 3, .int .i64 0, .int .i64 1, .int .i64 3, .int .i64 1, .int .i64 1] 35)) (o := .cells #[.slice (some ⟨W2.heap.size, 0, none⟩) 2 2] 33) (g := W2.heap.size + 1) (by simp)
  have bx : Below W2.heap.size W2 ((W2.alloc (.cells #[.int .i64 3, .int .i64 0, .int .i64 1, .int .i64 3, .int .i64 1, .int .i64 1] 35)).alloc (.cells #[.slice (some ⟨W2.heap.size, 0, none⟩) 2 2] 33)) := ((Below.refl _ W2).alloc (Nat.le_refl _) _).alloc (by simp) _
  have r0 := row_below r0 bx (row_lt r0)
  have r1 := row_below r1 bx (row_lt r1)
  have b2 := b2.trans (bx.mono b2.size)
  go_wp2_with fail
  generalize (W2.alloc (.cells #[.int .i64 3, .int .i64 0, .int .i64 1, .int .i64 3, .int .i64 1, .int .i64 1] 35)).alloc (.cells #[.slice (some ⟨W2.heap.size, 0, none⟩) 2 2] 33) = X at *
  refine (l_ex20_2 0 _).mono ?_
  rintro e W3 ⟨rfl, b3⟩
  go_wp2_with fail
  refine (l_ex20_2 1 _).mono ?_
  rintro e W4 ⟨rfl, b4⟩
  have b4 := b3.trans (b4.mono b3.size)
  have r0 := row_below r0 b4 (row_lt r0)
  have r1 := row_below r1 b4 (row_lt r1)
  have ra := row_below ra b4 (row_lt ra)
  have rt := row_below rt b4 (row_lt rt)
  have b5 := b2.trans (b4.mono b2.size)
  have l0 := row_lt r0
  have l1 : w.heap.size < W4.heap.size + 1 := by omega
  have l2 : w.heap.size < W4.heap.size + 1 + 1 := by omega
  have y0 := row_cell r0 0
  have y1 := row_cell r0 1
  simp at y0 y1
  have yf : ∀ j, W4.frozen? ⟨w.heap.size, j, none⟩ = false := fun j => row_free r0 j
  have R0 := hid r0
  have R1 := hid r1
  have RA := hid ra
  have RT := hid rt
  have B5 := hid b5
  clear r0 r1 ra rt b2 b3 b4 b5 bx
  go_wp2
  have hsz : ((W4.setCell ⟨w.heap.size, 0, none⟩ (.slice (some ⟨w.heap.size + 1, 0, none⟩) 2 2)).setCell ⟨w.heap.size, 1, none⟩ (.slice (some ⟨W4.heap.size + 1 + 1, 0, none⟩) 2 2)).heap.size = W4.heap.size := by simp
  have hsz1 : (((W4.setCell ⟨w.heap.size, 0, none⟩ (.slice (some ⟨w.heap.size + 1, 0, none⟩) 2 2)).setCell ⟨w.heap.size, 1, none⟩ (.slice (some ⟨W4.heap.size + 1 + 1, 0, none⟩) 2 2)).alloc (.cells #[.int .i64 1, .int .i64 0, .int .i64 0, .int .i64 1, .int .i64 1, .int .i64 0] 35)).heap.size = W4.heap.size + 1 := by simp
  have hsz2 : ((((W4.setCell ⟨w.heap.size, 0, none⟩ (.slice (some ⟨w.heap.size + 1, 0, none⟩) 2 2)).setCell ⟨w.heap.size, 1, none⟩ (.slice (some ⟨W4.heap.size + 1 + 1, 0, none⟩) 2 2)).alloc (.cells #[.int .i64 1, .int .i64 0, .int .i64 0, .int .i64 1, .int .i64 1, .int .i64 0] 35)).alloc (.cells #[.slice (some ⟨W4.heap.size, 0, none⟩) 2 2] 33)).heap.size = W4.heap.size + 1 + 1 := by simp
  have nA : w.heap.size ≠ W2.heap.size := by omega
  have nT : w.heap.size ≠ W2.heap.size + 1 := by omega
  have k0 := row_old (o := .cells #[.slice (some ⟨W2.heap.size + 1, 0, none⟩) 1 1, .slice (some ⟨W4.heap.size + 1, 0, none⟩) 1 1] 32) (row_old (o := .cells #[.slice (some ⟨W4.heap.size, 0, none⟩) 2 2] 33) (row_old (o := .cells #[.int .i64 1, .int .i64 0, .int .i64 0, .int .i64 1, .int .i64 1, .int .i64 0] 35) (row_set (row_set R0.out 0 (.slice (some ⟨w.heap.size + 1, 0, none⟩) 2 2)) 1 (.slice (some ⟨W4.heap.size + 1 + 1, 0, none⟩) 2 2))))
  have k1 := row_old (o := .cells #[.slice (some ⟨W2.heap.size + 1, 0, none⟩) 1 1, .slice (some ⟨W4.heap.size + 1, 0, none⟩) 1 1] 32) (row_old (o := .cells #[.slice (some ⟨W4.heap.size, 0, none⟩) 2 2] 33) (row_old (o := .cells #[.int .i64 1, .int .i64 0, .int .i64 0, .int .i64 1, .int .i64 1, .int .i64 0] 35) (row_other (g' := w.heap.size) (j := 1) (v := .slice (some ⟨W4.heap.size + 1 + 1, 0, none⟩) 2 2) (row_other (g' := w.heap.size) (j := 0) (v := .slice (some ⟨w.heap.size + 1, 0, none⟩) 2 2) R1.out (by omega)) (by omega))))
  have ka := row_old (o := .cells #[.slice (some ⟨W2.heap.size + 1, 0, none⟩) 1 1, .slice (some ⟨W4.heap.size + 1, 0, none⟩) 1 1] 32) (row_old (o := .cells #[.slice (some ⟨W4.heap.size, 0, none⟩) 2 2] 33) (row_old (o := .cells #[.int .i64 1, .int .i64 0, .int .i64 0, .int .i64 1, .int .i64 1, .int .i64 0] 35) (row_other (g' := w.heap.size) (j := 1) (v := .slice (some ⟨W4.heap.size + 1 + 1, 0, none⟩) 2 2) (row_other (g' := w.heap.size) (j := 0) (v := .slice (some ⟨w.heap.size + 1, 0, none⟩) 2 2) RA.out nA) nA)))
  have kt := row_old (o := .cells #[.slice (some ⟨W2.heap.size + 1, 0, none⟩) 1 1, .slice (some ⟨W4.heap.size + 1, 0, none⟩) 1 1] 32) (row_old (o := .cells #[.slice (some ⟨W4.heap.size, 0, none⟩) 2 2] 33) (row_old (o := .cells #[.int .i64 1, .int .i64 0, .int .i64 0, .int .i64 1, .int .i64 1, .int .i64 0] 35) (row_other (g' := w.heap.size) (j := 1) (v := .slice (some ⟨W4.heap.size + 1 + 1, 0, none⟩) 2 2) (row_other (g' := w.heap.size) (j := 0) (v := .slice (some ⟨w.heap.size + 1, 0, none⟩) 2 2) RT.out nT) nT)))
  have ma := row_old (o := .cells #[.slice (some ⟨W2.heap.size + 1, 0, none⟩) 1 1, .slice (some ⟨W4.heap.size + 1, 0, none⟩) 1 1] 32) (row_old (o := .cells #[.slice (some ⟨W4.heap.size, 0, none⟩) 2 2] 33) (row_new' (o := .cells #[.int .i64 1, .int .i64 0, .int .i64 0, .int .i64 1, .int .i64 1, .int .i64 0] 35) hsz.symm))
  have mt := row_old (o := .cells #[.slice (some ⟨W2.heap.size + 1, 0, none⟩) 1 1, .slice (some ⟨W4.heap.size + 1, 0, none⟩) 1 1] 32) (row_new' (o := .cells #[.slice (some ⟨W4.heap.size, 0, none⟩) 2 2] 33) hsz1.symm)
  have mh := row_new' (o := .cells #[.slice (some ⟨W2.heap.size + 1, 0, none⟩) 1 1, .slice (some ⟨W4.heap.size + 1, 0, none⟩) 1 1] 32) hsz2.symm
  have bz : Below w.heap.size w (((((W4.setCell ⟨w.heap.size, 0, none⟩ (.slice (some ⟨w.heap.size + 1, 0, none⟩) 2 2)).setCell ⟨w.heap.size, 1, none⟩ (.slice (some ⟨W4.heap.size + 1 + 1, 0, none⟩) 2 2)).alloc (.cells #[.int .i64 1, .int .i64 0, .int .i64 0, .int .i64 1, .int .i64 1, .int .i64 0] 35)).alloc (.cells #[.slice (some ⟨W4.heap.size, 0, none⟩) 2 2] 33)).alloc (.cells #[.slice (some ⟨W2.heap.size + 1, 0, none⟩) 1 1, .slice (some ⟨W4.heap.size + 1, 0, none⟩) 1 1] 32)) :=
    ((((B5.out.setCell (p := ⟨w.heap.size, 0, none⟩) (Nat.le_refl _) _).setCell (p := ⟨w.heap.size, 1, none⟩) (Nat.le_refl _) _).alloc (by omega) _).alloc (by omega) _).alloc (by omega) _
  generalize ((((W4.setCell ⟨w.heap.size, 0, none⟩ (.slice (some ⟨w.heap.size + 1, 0, none⟩) 2 2)).setCell ⟨w.heap.size, 1, none⟩ (.slice (some ⟨W4.heap.size + 1 + 1, 0, none⟩) 2 2)).alloc (.cells #[.int .i64 1, .int .i64 0, .int .i64 0, .int .i64 1, .int .i64 1, .int .i64 0] 35)).alloc (.cells #[.slice (some ⟨W4.heap.size, 0, none⟩) 2 2] 33)).alloc (.cells #[.slice (some ⟨W2.heap.size + 1, 0, none⟩) 1 1, .slice (some ⟨W4.heap.size + 1, 0, none⟩) 1 1] 32) = Z at *
  have c0 := row_cell k0 0
  have c1 := row_cell k0 1
  simp at c0 c1
  refine bodyPost_ret (v := .agg #[.slice (some ⟨w.heap.size + 1, 0, none⟩) 2 2, .slice (some ⟨W4.heap.size + 1 + 1, 0, none⟩) 2 2]) (by simp [results, Tryd.results14, go_sem, c0, c1]) rfl ⟨_, _, rfl, ⟨sl_row k1 (by decide) rfl, ?_⟩, bz⟩
  exact isl_row2 mh (isl_row1 kt (sl_row ka (by decide) rfl)) (isl_row1 mt (sl_row ma (by decide) rfl))
end Go.Proofs.YtogphaiomlfofaaDoor
