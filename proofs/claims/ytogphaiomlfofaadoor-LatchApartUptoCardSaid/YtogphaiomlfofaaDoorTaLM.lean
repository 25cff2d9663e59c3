/- Small things that the laws of the engines call: which programs are looked at; how many transactions. Turned by wip/tools/law20.sh; genlal.py. Conditions: those of each theorem, as typed. -/
import Derived.Test.YtogphaiomlfofaaDoorToKM
set_option linter.unusedVariables false
set_option linter.unusedSimpArgs false
namespace Go.Proofs.YtogphaiomlfofaaDoor
open Go.RowKit
set_option linter.unusedVariables false
set_option linter.unusedSimpArgs false
attribute [local irreducible] wpL

def SmallRet (P : Pg) (w : World) (e : Ending) (w' : World) : Prop := ∃ b : Bool, e = .returned (.bool b) ∧ (b = true → P.threads.length ≤ 20) ∧ Below w.heap.size w w'
set_option maxRecDepth 100000 in
set_option maxHeartbeats 1000000 in
theorem l_small20 (vc vt : Value) (P : Pg) (w : World) (h : PgIs w w.heap.size vc vt P) :
    Calls Tryd.prog 5 #[.agg #[vc, vt]] w (SmallRet P w) := by
  obtain ⟨ac, cc, rfl, mc⟩ := h.cells.ex
  obtain ⟨at', ct, rfl, mt⟩ := h.thr.ex
  have r0 := row_new w (.cells #[.slice ac P.cells.length cc, .slice at' P.threads.length ct] 25)
  have b0 : Below w.heap.size w (w.alloc (.cells #[.slice ac P.cells.length cc, .slice at' P.threads.length ct] 25)) := (Below.refl _ w).alloc (Nat.le_refl _) _
  have H0 := hid ((h.below b0).more b0.size)
  have B0 := hid b0
  have z0 := row_lt r0
  clear h b0
  go_enter Tryd.func5, Tryd.ntmps5
  go_wp2_with fail
  generalize w.alloc (.cells #[.slice ac P.cells.length cc, .slice at' P.threads.length ct] 25) = W at *
  have d0 : W.cell? ⟨w.heap.size, 0, none⟩ = some (.slice ac P.cells.length cc) := row_cell r0 0
  have d1 : W.cell? ⟨w.heap.size, 1, none⟩ = some (.slice at' P.threads.length ct) := row_cell r0 1
  clear r0
  go_loop [3, 4] (fun n i => ∃ (k : Nat) (m : Int), k ≤ P.threads.length ∧ k ≤ 21 ∧ i = .int .i64 k ∧ n = .int .i64 m) (fun _ i => 21 - (intOf i).toNat)
  case atStart => exact ⟨0, 0, by omega, by omega, by go_num, rfl⟩
  case round =>
    obtain ⟨k, m, hk, hk2, rfl, rfl⟩ := hrel
    by_cases hlt : k < P.threads.length
    · by_cases h20 : k ≤ 20
      · obtain ⟨b, off, u, t, hat, hb, ht, hu, hut⟩ := H0.out.thr.at rfl hlt
        obtain ⟨au, cu, rfl, mu⟩ := hut.ex
        have HUT := hid hut
        subst hat
        clear hut ht
        obtain ⟨q, hmin⟩ : ∃ q : Int, ∀ (ts : Array TypeId) (ty : TypeId) (X : World), (Builtin.min_ ts ty #[.int .i64 (t.length : Int), .int .i64 100]).run Tryd.prog X = .ok (.int .i64 q) X := ⟨_, fun ts ty X => run_min_int2 ..⟩
        go_wp2_with fail
        clear hmin
        go_loop [3, 5] (fun n i => ∃ (j : Nat) (m : Int), j ≤ t.length ∧ j ≤ 21 ∧ i = .int .i64 j ∧ n = .int .i64 m) (fun _ i => 21 - (intOf i).toNat)
        case atStart => exact ⟨0, _, by omega, by omega, by go_num, rfl⟩
        case round =>
          obtain ⟨j, m2, hj, hj2, rfl, rfl⟩ := hrel
          by_cases hlj : j < t.length
          · by_cases h20j : j ≤ 20
            · obtain ⟨b2, off2, u2, l, hal, hb2, hl2, hu2, hul⟩ := HUT.out.at rfl hlj
              obtain ⟨al, cl, rfl, ml⟩ := Sl.ex (show Sl W W.heap.size 3 u2 l.length (l.flatMap Ac.cells) from hul)
              subst hal
              clear hul hl2
              obtain ⟨q2, hmin⟩ : ∃ q : Int, ∀ (ts : Array TypeId) (ty : TypeId) (X : World), (Builtin.min_ ts ty #[.int .i64 (l.length : Int), .int .i64 100]).run Tryd.prog X = .ok (.int .i64 q) X := ⟨_, fun ts ty X => run_min_int2 ..⟩
              go_wp2_with fail
              go_round
              case rel => exact ⟨j + 1, _, by omega, by omega, by go_num, rfl⟩
              case measure => simp [intOf]; omega
            · obtain rfl : j = 21 := by omega
              go_wp2_with fail
              go_round
              case rel => exact ⟨k + 1, _, by omega, by omega, by go_num, rfl⟩
              case measure => simp [intOf]; omega
          · obtain rfl : j = t.length := by omega
            go_wp2_with fail
            go_round
            case rel => exact ⟨k + 1, _, by omega, by omega, by go_num, rfl⟩
            case measure => simp [intOf]; omega
      · obtain rfl : k = 21 := by omega
        have q : decide (P.threads.length ≤ 20) = false := by simp; omega
        go_wp2
        go_ret
        exact ⟨_, rfl, fun h => by simp at h, B0.out⟩
    · obtain rfl : k = P.threads.length := by omega
      by_cases h20 : P.threads.length ≤ 20
      · by_cases hc1 : P.cells.length ≤ 100
        · go_wp2
          go_ret
          exact ⟨_, rfl, fun _ => h20, B0.out⟩
        · have q : decide (P.cells.length ≤ 100) = false := by simp; omega
          go_wp2
          go_ret
          exact ⟨_, rfl, fun _ => h20, B0.out⟩
      · have q : decide (P.threads.length ≤ 20) = false := by simp; omega
        go_wp2
        go_ret
        exact ⟨_, rfl, fun h => by simp at h, B0.out⟩
end Go.Proofs.YtogphaiomlfofaaDoor
