/- The program's Caught and Separates. Conditions: those of each theorem, as typed. -/
import Derived.Test.YtcombolmacokbaaCaught
namespace Go.Proofs.Ytcombolmacokbaa
open Go.RowKit

def RetV (w : World) (v : Value) (e : Ending) (w' : World) : Prop := e = .returned v ∧ Below w.heap.size w w'
theorem p_act1 (i : Int) (w : World) : Calls Try.prog 28 #[.int .i64 i] w (RetV w (.agg #[.int .i64 2, .int .i64 i, .int .i64 1])) := by
  go_enter Try.func28, Try.ntmps28
  go_wp2
  have hr := row_set (row_set (row_set (row_new w (.cells #[.int .i64 0, .int .i64 0, .int .i64 0] 65)) 0 (.int .i64 2)) 1 (.int .i64 i)) 2 (.int .i64 1)
  have c0 := row_cell hr 0
  have c1 := row_cell hr 1
  have c2 := row_cell hr 2
  exact bodyPost_ret (v := .agg #[.int .i64 2, .int .i64 i, .int .i64 1]) (by simp [results, Try.results28, go_sem, c0, c1, c2]) rfl
    ⟨rfl, (Below.refl _ _).alloc (Nat.le_refl _) _⟩
theorem p_act2 (i : Int) (w : World) : Calls Try.prog 29 #[.int .i64 i] w (RetV w (.agg #[.int .i64 1, .int .i64 i, .int .i64 0])) := by
  go_enter Try.func29, Try.ntmps29
  go_wp2
  have hr := row_set (row_set (row_set (row_new w (.cells #[.int .i64 0, .int .i64 0, .int .i64 0] 65)) 0 (.int .i64 1)) 1 (.int .i64 i)) 2 (.int .i64 0)
  have c0 := row_cell hr 0
  have c1 := row_cell hr 1
  have c2 := row_cell hr 2
  exact bodyPost_ret (v := .agg #[.int .i64 1, .int .i64 i, .int .i64 0]) (by simp [results, Try.results29, go_sem, c0, c1, c2]) rfl
    ⟨rfl, (Below.refl _ _).alloc (Nat.le_refl _) _⟩

set_option maxHeartbeats 2000000 in
theorem p_caught (w : World) : Calls Try.prog 10 #[] w (RetP w) := by
  go_enter Try.func10, Try.ntmps10
  go_wp2_with fail
  have hB0 : Below w.heap.size w ((w.alloc (.cells #[.slice none 0 0, .slice none 0 0] 35)).alloc (.cells #[.int .i64 0, .int .i64 0] 3)) := ((Below.refl _ _).alloc (Nat.le_refl _) _).alloc (by simp) _
  have r0 : ((w.alloc (.cells #[.slice none 0 0, .slice none 0 0] 35)).alloc (.cells #[.int .i64 0, .int .i64 0] 3)).heap[w.heap.size]? = some (.cells #[.slice none 0 0, .slice none 0 0] 35) := row_old (row_new _ _)
  have r1 : ((w.alloc (.cells #[.slice none 0 0, .slice none 0 0] 35)).alloc (.cells #[.int .i64 0, .int .i64 0] 3)).heap[w.heap.size + 1]? = some (.cells #[.int .i64 0, .int .i64 0] 3) := row_new' (by simp)
  have hz0 : ((w.alloc (.cells #[.slice none 0 0, .slice none 0 0] 35)).alloc (.cells #[.int .i64 0, .int .i64 0] 3)).heap.size = w.heap.size + 2 := by simp
  refine (p_act1 _ _).mono ?_
  rintro e w1 ⟨rfl, b1⟩
  have B1 := hid (hB0.trans (b1.mono (by omega)))
  have R0 := hid (row_below r0 b1 (row_lt r0))
  have R1 := hid (row_below r1 b1 (row_lt r1))
  have z1 := b1.size
  rw [hz0] at z1
  clear b1 r0 r1 hB0 hz0
  go_wp2_with fail
  refine (p_act1 _ _).mono ?_
  rintro e w2 ⟨rfl, b1⟩
  have B2 := hid (B1.out.trans (b1.mono (by omega)))
  have P0 := hid (row_below R0.out b1 (by omega))
  have P1 := hid (row_below R1.out b1 (by omega))
  have z2 := b1.size
  clear b1 R0 R1 B1
  go_wp2_with fail
  refine (p_act2 _ _).mono ?_
  rintro e w3 ⟨rfl, b1⟩
  have z3 := b1.size
  simp at z3
  have B3 := hid (((B2.out.alloc (by omega) _).alloc (by simp; omega) _).trans (b1.mono (by simp; omega)))
  have Q0 := hid (row_below (row_old (row_old P0.out)) b1 (by simp; omega))
  have Q1 := hid (row_below (row_old (row_old P1.out)) b1 (by simp; omega))
  have Q2 := hid (row_below (row_old (row_new w2 (.cells (acts1.flatMap Ac.cells).toArray 65))) b1 (by first | omega | (simp <;> omega)))
  have Q3 := hid (row_below (row_new' (w := w2.alloc (.cells (acts1.flatMap Ac.cells).toArray 65)) (o := .cells #[.slice (some ⟨w2.heap.size, 0, none⟩) 2 2] 67) (g := w2.heap.size + 1) (by simp)) b1 (by first | omega | (simp <;> omega)))
  clear b1 P0 P1 B2
  go_wp2_with fail
  refine (p_act2 _ _).mono ?_
  rintro e w4 ⟨rfl, b1⟩
  have z4 := b1.size
  have B4 := hid (B3.out.trans (b1.mono (by omega)))
  have P0 := hid (row_below Q0.out b1 (by omega))
  have P1 := hid (row_below Q1.out b1 (by omega))
  have P2 := hid (row_below Q2.out b1 (by omega))
  have P3 := hid (row_below Q3.out b1 (by omega))
  clear b1 Q0 Q1 Q2 Q3 B3
  have c0 := row_cell P0.out 0
  have c1 := row_cell P0.out 1
  have f0 := row_free P0.out 0
  have f1 := row_free P0.out 1
  have l0 : w.heap.size < w4.heap.size := by omega
  have l1 : w.heap.size ≤ w4.heap.size := by omega
  have l2 : w.heap.size ≤ w4.heap.size + 1 := by omega
  have l3 : w.heap.size ≤ w4.heap.size + 1 + 1 := by omega
  have l4 : w.heap.size ≤ w4.heap.size + 1 + 1 + 1 := by omega
  have l5 : w.heap.size ≤ w4.heap.size + 1 + 1 + 1 + 1 := by omega
  have m1 : w.heap.size < w4.heap.size + 1 := by omega
  have m2 : w.heap.size < w4.heap.size + 1 + 1 := by omega
  have m3 : w.heap.size < w4.heap.size + 1 + 1 + 1 := by omega
  have m4 : w.heap.size < w4.heap.size + 1 + 1 + 1 + 1 := by omega
  go_wp2
  have hr := row_old (o := .cells (caughtS.flatMap intC).toArray 3) (row_old (o := .cells #[.slice (some ⟨w.heap.size + 1, 0, none⟩) 2 2, .slice (some ⟨w4.heap.size + 1 + 1, 0, none⟩) 2 2] 35) (row_old (o := .cells #[.slice (some ⟨w2.heap.size + 1, 0, none⟩) 1 1, .slice (some ⟨w4.heap.size + 1, 0, none⟩) 1 1] 42) (row_old (o := .cells #[.slice (some ⟨w4.heap.size, 0, none⟩) 2 2] 67) (row_old (o := .cells (acts2.flatMap Ac.cells).toArray 65) (row_set (row_set P0.out 0 (.slice (some ⟨w.heap.size + 1, 0, none⟩) 2 2)) 1 (.slice (some ⟨w4.heap.size + 1 + 1, 0, none⟩) 2 2))))))
  have x0 := row_cell hr 0
  have x1 := row_cell hr 1
  simp only [caughtS, List.flatMap_cons, List.flatMap_nil, intC, List.cons_append, List.nil_append, List.append_nil, acts2, Ac.cells] at x0 x1
  have hsz : ((w4.setCell ⟨w.heap.size, 0, none⟩ (.slice (some ⟨w.heap.size + 1, 0, none⟩) 2 2)).setCell ⟨w.heap.size, 1, none⟩ (.slice (some ⟨w4.heap.size + 1 + 1, 0, none⟩) 2 2)).heap.size = w4.heap.size := by simp
  have hB : Below w.heap.size w (((((((w4.setCell ⟨w.heap.size, 0, none⟩ (.slice (some ⟨w.heap.size + 1, 0, none⟩) 2 2)).setCell ⟨w.heap.size, 1, none⟩ (.slice (some ⟨w4.heap.size + 1 + 1, 0, none⟩) 2 2)).alloc (.cells (acts2.flatMap Ac.cells).toArray 65)).alloc (.cells #[.slice (some ⟨w4.heap.size, 0, none⟩) 2 2] 67)).alloc (.cells #[.slice (some ⟨w2.heap.size + 1, 0, none⟩) 1 1, .slice (some ⟨w4.heap.size + 1, 0, none⟩) 1 1] 42)).alloc (.cells #[.slice (some ⟨w.heap.size + 1, 0, none⟩) 2 2, .slice (some ⟨w4.heap.size + 1 + 1, 0, none⟩) 2 2] 35)).alloc (.cells (caughtS.flatMap intC).toArray 3)) :=
    ((((((B4.out.setCell (p := ⟨w.heap.size, 0, none⟩) (Nat.le_refl _) _).setCell (p := ⟨w.heap.size, 1, none⟩) (Nat.le_refl _) _).alloc (by first | omega | (simp <;> omega)) _).alloc (by first | omega | (simp <;> omega)) _).alloc (by first | omega | (simp <;> omega)) _).alloc (by first | omega | (simp <;> omega)) _).alloc (by first | omega | (simp <;> omega)) _
  have hT2 := row_old (o := .cells (caughtS.flatMap intC).toArray 3) (row_old (o := .cells #[.slice (some ⟨w.heap.size + 1, 0, none⟩) 2 2, .slice (some ⟨w4.heap.size + 1 + 1, 0, none⟩) 2 2] 35) (row_new' (w := ((((w4.setCell ⟨w.heap.size, 0, none⟩ (.slice (some ⟨w.heap.size + 1, 0, none⟩) 2 2)).setCell ⟨w.heap.size, 1, none⟩ (.slice (some ⟨w4.heap.size + 1 + 1, 0, none⟩) 2 2)).alloc (.cells (acts2.flatMap Ac.cells).toArray 65)).alloc (.cells #[.slice (some ⟨w4.heap.size, 0, none⟩) 2 2] 67))) (o := .cells #[.slice (some ⟨w2.heap.size + 1, 0, none⟩) 1 1, .slice (some ⟨w4.heap.size + 1, 0, none⟩) 1 1] 42) (g := w4.heap.size + 1 + 1) (by simp)))
  have fin := caught_fin hB (row_old (row_old (row_old (row_old (row_old (row_other (row_other P1.out (by omega)) (by omega))))))) (by first | omega | (simp <;> omega))
      (own_row (f := valC) hT2 (by first | omega | (simp <;> omega)) (by simp) rfl (by rw [flat_val]) rfl) (row_old (row_old (row_old (row_old (row_old (row_other (row_other P3.out (by omega)) (by omega))))))) (row_old (row_old (row_old (row_new' (by simp))))) (row_old (row_old (row_old (row_old (row_old (row_other (row_other P2.out (by omega)) (by omega))))))) (row_old (row_old (row_old (row_old (row_new' (by simp)))))) (s := w4.heap.size + 1 + 1 + 1 + 1) (row_new' (by simp)) (by first | omega | (simp <;> omega))
  have FIN := hid fin
  clear fin hT2 hB hr
  exact bodyPost_ret (v := .tuple #[.agg #[.slice (some ⟨w.heap.size + 1, 0, none⟩) 2 2, .slice (some ⟨w4.heap.size + 1 + 1, 0, none⟩) 2 2], .slice (some ⟨w4.heap.size + 1 + 1 + 1 + 1, 0, none⟩) 13 13]) (by simp [results, Try.results10, go_sem, x0, x1]) rfl FIN.out
end Go.Proofs.Ytcombolmacokbaa
