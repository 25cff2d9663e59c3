/- The law's own bound on the program's samples; Separates. Conditions: those of each theorem, as typed. -/
import Derived.Test.YtcombolmacokbaaTell
import Derived.Test.YtcombolmacokbaaCaughtP
namespace Go.Proofs.Ytcombolmacokbaa
open Go.RowKit

theorem RetHB.ex {w w' : World} {r : List Ob × List Ev × Bool} {e : Ending} (h : RetHB w r e w') : ∃ a c a' c', e = .returned (.tuple #[.agg #[.slice a r.1.length c, .slice a' r.2.1.length c'], .bool r.2.2]) ∧
    OwnO w' w.heap.size (.slice a r.1.length c) r.1 ∧ OwnE w' w.heap.size (.slice a' r.2.1.length c') r.2.1 ∧ Below w.heap.size w w' := by
  obtain ⟨ov, ev, rfl, h1, h2, h3⟩ := h
  obtain ⟨a, c, rfl, -⟩ := h1.sl.ex
  obtain ⟨a', c', rfl, -⟩ := h2.sl.ex
  exact ⟨a, c, a', c', rfl, h1, h2, h3⟩

theorem hist0 : histOf (⟨#[115, 116, 97, 108, 101]⟩ : ByteArray).toList = (staleO, staleE, true) := by simp [histOf, ba_toList]
theorem hist1 : histOf (⟨#[116, 111, 114, 110]⟩ : ByteArray).toList = (tornO, tornE, true) := by simp [histOf, ba_toList]
theorem hist2 : histOf (⟨#[101, 97, 114, 108, 121]⟩ : ByteArray).toList = (earlyO, earlyE, true) := by simp [histOf, ba_toList]
theorem hist3 : histOf (⟨#[112, 108, 97, 105, 110]⟩ : ByteArray).toList = (plainO, plainE, true) := by simp [histOf, ba_toList]
theorem wide3 : wideOf 3 = ([⟨1, 0⟩], wideE 3, true) := rfl

def sepOf (n : Int) : ByteArray := if n = 2 then ⟨#[115, 116, 97, 108, 101]⟩ else if n = 3 then ⟨#[116, 111, 114, 110]⟩ else if n = 4 then ⟨#[101, 97, 114, 108, 121]⟩ else ⟨#[]⟩
theorem p_separates (n : Int) (w : World) : Calls Try.prog 19 #[.int .i64 n] w fun e w' => e = .returned (.tuple #[.string (sepOf n), .bool (decide (n = 2 ∨ n = 3 ∨ n = 4))]) ∧ w' = w := by
  go_enter Try.func19, Try.ntmps19
  go_wp2
  all_goals
    refine bodyPost_ret (v := .tuple #[.string (sepOf n), .bool (decide (n = 2 ∨ n = 3 ∨ n = 4))]) ?_ rfl ⟨rfl, rfl⟩
    simp_all [results, Try.results19, go_sem, sepOf]

theorem p_first (w : World) : Calls Try.prog 6 #[] w fun e w' => e = .returned (.bool true) ∧ Below w.heap.size w w' := by
  go_enter Try.func6, Try.ntmps6
  go_wp2_with fail
  refine (p_get _ _).mono ?_
  rw [hist0]
  intro e w1 h
  obtain ⟨a1, c1, a1', c1', rfl, -, -, b1⟩ := h.ex
  clear h
  have B1 := hid b1
  clear b1
  go_wp2_with fail
  refine (p_get _ _).mono ?_
  rw [hist1]
  intro e w2 h
  obtain ⟨a2, c2, a2', c2', rfl, -, -, b2⟩ := h.ex
  clear h
  have z2 : w1.heap.size + 1 ≤ w2.heap.size := by have := b2.size; simpa using this
  have B2 := hid ((B1.out.alloc (B1.out.size) _).trans (b2.mono (by have := B1.out.size; simp; omega)))
  have R1_2 := hid (row_below (row_new w1 (.cells #[.slice a1 staleO.length c1, .slice a1' staleE.length c1'] 28)) b2 (by first | omega | (simp <;> omega)))
  clear b2 B1 
  go_wp2_with fail
  refine (p_get _ _).mono ?_
  rw [hist2]
  intro e w3 h
  obtain ⟨a3, c3, a3', c3', rfl, -, -, b3⟩ := h.ex
  clear h
  have z3 : w2.heap.size + 1 ≤ w3.heap.size := by have := b3.size; simpa using this
  have B3 := hid ((B2.out.alloc (B2.out.size) _).trans (b3.mono (by have := B2.out.size; simp; omega)))
  have R1_3 := hid (row_below (row_old R1_2.out) b3 (by first | omega | (simp <;> omega)))
  have R2_3 := hid (row_below (row_new w2 (.cells #[.slice a2 tornO.length c2, .slice a2' tornE.length c2'] 28)) b3 (by first | omega | (simp <;> omega)))
  clear b3 B2 R1_2
  go_wp2_with fail
  refine (p_get _ _).mono ?_
  rw [hist3]
  intro e w4 h
  obtain ⟨a4, c4, a4', c4', rfl, -, -, b4⟩ := h.ex
  clear h
  have z4 : w3.heap.size + 1 ≤ w4.heap.size := by have := b4.size; simpa using this
  have B4 := hid ((B3.out.alloc (B3.out.size) _).trans (b4.mono (by have := B3.out.size; simp; omega)))
  have R1_4 := hid (row_below (row_old R1_3.out) b4 (by first | omega | (simp <;> omega)))
  have R2_4 := hid (row_below (row_old R2_3.out) b4 (by first | omega | (simp <;> omega)))
  have R3_4 := hid (row_below (row_new w3 (.cells #[.slice a3 earlyO.length c3, .slice a3' earlyE.length c3'] 28)) b4 (by first | omega | (simp <;> omega)))
  clear b4 B3 R1_3 R2_3
  go_wp2_with fail
  refine (p_wide _ _).mono ?_
  rw [wide3]
  intro e w5 h
  obtain ⟨a5, c5, a5', c5', rfl, -, -, b5⟩ := h.ex
  clear h
  have z5 : w4.heap.size + 1 ≤ w5.heap.size := by have := b5.size; simpa using this
  have B5 := hid ((B4.out.alloc (B4.out.size) _).trans (b5.mono (by have := B4.out.size; simp; omega)))
  have R1_5 := hid (row_below (row_old R1_4.out) b5 (by first | omega | (simp <;> omega)))
  have R2_5 := hid (row_below (row_old R2_4.out) b5 (by first | omega | (simp <;> omega)))
  have R3_5 := hid (row_below (row_old R3_4.out) b5 (by first | omega | (simp <;> omega)))
  have R4_5 := hid (row_below (row_new w4 (.cells #[.slice a4 plainO.length c4, .slice a4' plainE.length c4'] 28)) b5 (by first | omega | (simp <;> omega)))
  clear b5 B4 R1_4 R2_4 R3_4
  have d1 := row_cell R1_5.out 1
  have l1 : w1.heap.size < w5.heap.size := by omega
  have d2 := row_cell R2_5.out 1
  have l2 : w2.heap.size < w5.heap.size := by omega
  have d3 := row_cell R3_5.out 1
  have l3 : w3.heap.size < w5.heap.size := by omega
  have d4 := row_cell R4_5.out 1
  have l4 : w4.heap.size < w5.heap.size := by omega
  clear R1_5 R2_5 R3_5 R4_5
  have hB := hid (B5.out.alloc (B5.out.size) (.cells #[.slice a5 [(⟨1, 0⟩ : Ob)].length c5, .slice a5' (wideE 3).length c5'] 28))
  clear B5
  go_wp2
  go_ret
  exact ⟨rfl, hB.out⟩
end Go.Proofs.Ytcombolmacokbaa
