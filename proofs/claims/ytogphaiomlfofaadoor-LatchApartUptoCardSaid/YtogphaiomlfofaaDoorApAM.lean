/- LatchApart: what it calls of the document: Ints, Acts, Program; and Place. Conditions: those of each theorem, as typed. -/
import Derived.Test.YtogphaiomlfofaaDoorQD05
set_option linter.unusedVariables false
set_option linter.unusedSimpArgs false
namespace Go.Proofs.YtogphaiomlfofaaDoor
open Go.RowKit
set_option linter.unusedVariables false
set_option linter.unusedSimpArgs false
attribute [local irreducible] wpL RN.wpL

theorem place_x (x : Int) (h1 : 1 ≤ x) (h2 : x ≤ 12) (w : World) : Calls Tryd.prog 11 #[.int .i64 x] w fun e w' => e = .returned (.tuple #[.int .i64 ((x - 1) / 3), .int .i64 ((x - 1) % 3), .bool true]) ∧ w = w' := by
  have q1 : decide (x < 1) = false := by simp; omega
  have q2 : decide (x > 12) = false := by simp; omega
  have q3 : decide (12 < x) = false := by simp; omega
  have e3 : (x - 1).tdiv 3 = (x - 1) / 3 := Int.tdiv_eq_ediv_of_nonneg (by omega)
  have e4 : (x - 1).tmod 3 = (x - 1) % 3 := Int.tmod_eq_emod_of_nonneg (by omega)
  have w1 : wrap64 (x - 1) = x - 1 := IntWalk.wrap64_in _ (by omega)
  have w2 : wrap64 ((x - 1) / 3) = (x - 1) / 3 := IntWalk.wrap64_in _ (by omega)
  have w3 : wrap64 ((x - 1) % 3) = (x - 1) % 3 := IntWalk.wrap64_in _ (by omega)
  go_enter Tryd.func11, Tryd.ntmps11
  go_wp2
  exact bodyPost_ret (v := .tuple #[.int .i64 ((x - 1) / 3), .int .i64 ((x - 1) % 3), .bool true]) (by simp [results, Tryd.results11, go_sem]) rfl ⟨rfl, rfl⟩
theorem place_id (i k : Nat) (hi : i < 4) (hk : k < 3) (w : World) : Calls Tryd.prog 11 #[.int .i64 (idOf i k)] w fun e w' => e = .returned (.tuple #[.int .i64 i, .int .i64 k, .bool true]) ∧ w = w' := by
  have h := place_x (idOf i k) (by unfold idOf; omega) (by unfold idOf; omega) w
  have e1 : (idOf i k - 1) / 3 = i := by unfold idOf; omega
  have e2 : (idOf i k - 1) % 3 = k := by unfold idOf; omega
  rwa [e1, e2] at h
set_option maxRecDepth 100000 in
set_option maxHeartbeats 1000000 in
theorem ref_Ints (v : Value) (l : List Int) (w : World) (h : Sl w w.heap.size 1 v l.length (l.map (.int .i64))) (hl : l.length ≤ 1000000) :
    Calls Tryd.prog 16 #[v] w fun e w' => ∃ v', e = .returned v' ∧ OwnI w' w.heap.size v' l ∧ Below w.heap.size w w' := by
  obtain ⟨sa, sc, rfl, -⟩ := h.ex
  have H := hid h
  clear h
  go_enter Tryd.func16, Tryd.ntmps16
  go_wp2_with (at_make; refine wpList_makeF (f := intC) (e := 3) (sz := 1) (B := w.heap.size) rfl _ _ _ rfl _ 8 Tryd.underlying22 infoI rfl rfl (by first | omega | (simp <;> omega)) (by first | omega | (simp <;> omega)) (by first | omega | (simp <;> omega)) ?_; refine Stop.halt ?_)
  refine Stop.go ?_
  intro w1 o1 b1 z1
  have B1 := hid b1
  have O1 := hid o1
  clear b1 o1
  go_wp2_with fail
  go_loopw [3, 4] (fun v p wr => ∃ (k : Nat), k ≤ l.length ∧ p = .int .i64 k ∧ OwnI wr w.heap.size v (l.take k) ∧ Below w.heap.size w wr) (fun _ p _ => l.length - (intOf p).toNat)
  case atStart => exact ⟨0, by omega, by go_num, O1.out, B1.out⟩
  case round =>
    obtain ⟨k, hk, rfl, hO, hB⟩ := hrel
    obtain ⟨ao, co, rfl, -⟩ := hO.form2
    have hlo : (l.take k).length = k := by rw [List.length_take]; omega
    rw [hlo] at hO ⊢
    have zB := hB.size
    have HB := hid hB
    have HO := hid hO
    clear hB hO
    by_cases hlt : k < l.length
    · obtain ⟨b, off, c, rfl, hb, hc, hcc⟩ := (H.out.below (w := w) (w' := wr) HB.out : Sl wr w.heap.size 1 (.slice sa l.length sc) l.length (l.map (.int .i64))).intAt hlt
      have hbz : b < wr.heap.size := by omega
      have HC := hid hc
      clear hc
      go_wp2_with (at_builtin; refine wpList_appF rfl _ _ _ rfl _ 8 Tryd.underlying22 infoI rfl HO.out c (by first | omega | (simp <;> omega)) (by rfl) (by rfl) (by first | rfl | simp) rfl (in_one _) (by first | omega | (simp only [List.length_append, List.length_cons, List.length_nil, List.length_replicate]; omega)) (by first | omega | (simp only [List.length_append, List.length_cons, List.length_nil, List.length_replicate]; omega)) ?_; refine Stop.halt ?_)
      refine Stop.go ?_
      intro g5 c5 w5 o5 G5
      have B5 := hid (HB.out.trans (G5.below zB fun q h => (HO.out.lt q h).1))
      have O5 := hid o5
      clear o5 G5 hcc
      go_wp2_with fail
      go_roundw
      case rel => exact ⟨k + 1, by omega, by go_num, by rw [take_step HC.out]; exact O5.out, B5.out⟩
      case measure => simp [intOf]; omega
    · obtain rfl : k = l.length := by omega
      rw [List.take_length] at HO
      go_wp2
      go_ret
      exact ⟨_, rfl, HO.out, HB.out⟩

set_option maxRecDepth 100000 in
set_option maxHeartbeats 1000000 in
theorem ref_Acts (v : Value) (l : List Ac) (w : World) (h : Sl w w.heap.size 3 v l.length (l.flatMap Ac.cells)) (hl : l.length ≤ 1000000) :
    Calls Tryd.prog 17 #[v] w fun e w' => ∃ v', e = .returned v' ∧ OwnActs w' w.heap.size v' l ∧ Below w.heap.size w w' := by
  obtain ⟨sa, sc, rfl, -⟩ := h.ex
  have H := hid h
  clear h
  go_enter Tryd.func17, Tryd.ntmps17
  go_wp2_with (at_make; refine wpList_makeF (f := Ac.cells) (e := 35) (sz := 3) (B := w.heap.size) rfl _ _ _ rfl _ 24 Tryd.underlying33 infoA rfl rfl (by first | omega | (simp <;> omega)) (by first | omega | (simp <;> omega)) (by first | omega | (simp <;> omega)) ?_; refine Stop.halt ?_)
  refine Stop.go ?_
  intro w1 o1 b1 z1
  have B1 := hid b1
  have O1 := hid o1
  clear b1 o1
  go_wp2_with fail
  go_loopw [3, 4] (fun v p wr => ∃ (k : Nat), k ≤ l.length ∧ p = .int .i64 k ∧ OwnActs wr w.heap.size v (l.take k) ∧ Below w.heap.size w wr) (fun _ p _ => l.length - (intOf p).toNat)
  case atStart => exact ⟨0, by omega, by go_num, O1.out, B1.out⟩
  case round =>
    obtain ⟨k, hk, rfl, hO, hB⟩ := hrel
    obtain ⟨ao, co, rfl, -⟩ := OwnF.form2 hO
    have hlo : (l.take k).length = k := by rw [List.length_take]; omega
    rw [hlo] at hO ⊢
    have zB := hB.size
    have HB := hid hB
    have HO := hid hO
    clear hB hO
    by_cases hlt : k < l.length
    · obtain ⟨b, off, a, rfl, hb, ha, hc⟩ := (H.out.below (w := w) (w' := wr) HB.out : Sl wr w.heap.size 3 (.slice sa l.length sc) l.length (l.flatMap Ac.cells)).atF Ac.len rfl hlt
      have hbz : b < wr.heap.size := by omega
      have q0 : wr.cell? ⟨b, off + k * 3, none⟩ = some (.int .i64 a.kind) := hc 0 (by decide)
      have q1 : wr.cell? ⟨b, off + k * 3 + 1, none⟩ = some (.int .i64 a.cell) := hc 1 (by decide)
      have q2 : wr.cell? ⟨b, off + k * 3 + 2, none⟩ = some (.int .i64 a.val) := hc 2 (by decide)
      have HC := hid ha
      clear hc ha
      go_wp2_with (at_builtin; refine wpList_appF rfl _ _ _ rfl _ 24 Tryd.underlying33 infoA rfl HO.out a (by first | omega | (simp <;> omega)) (by rfl) (by rfl) (by first | rfl | simp) rfl (ac_one _) (by first | omega | (simp only [List.length_append, List.length_cons, List.length_nil, List.length_replicate]; omega)) (by first | omega | (simp only [List.length_append, List.length_cons, List.length_nil, List.length_replicate]; omega)) ?_; refine Stop.halt ?_)
      refine Stop.go ?_
      intro g5 c5 w5 o5 G5
      have B5 := hid (HB.out.trans (Grw.below G5 zB fun q h => (OwnF.lt HO.out q h).1))
      have O5 := hid o5
      clear o5 G5 q0 q1 q2
      go_wp2_with fail
      go_roundw
      case rel => exact ⟨k + 1, by omega, by go_num, by rw [take_step HC.out]; exact O5.out, B5.out⟩
      case measure => simp [intOf]; omega
    · obtain rfl : k = l.length := by omega
      rw [List.take_length] at HO
      go_wp2
      go_ret
      exact ⟨_, rfl, HO.out, HB.out⟩
end Go.Proofs.YtogphaiomlfofaaDoor
