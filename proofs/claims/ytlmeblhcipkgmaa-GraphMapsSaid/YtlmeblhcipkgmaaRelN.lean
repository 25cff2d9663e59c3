/- The chapter's examples on relations. Conditions: those of each theorem, as typed. -/
import Derived.Test.YtlmeblhcipkgmaaRelL
namespace Go.Proofs.Ytlmeblhcipkgmaa
open Go.RowKit Go.Maps

instance (x : Int) : Decidable (dI x) := inferInstanceAs (Decidable ((Lit.int .i64 x).wf = true))
def L0 : List Pr := [(1, 2), (2, 3), (5, 5)]
def C0 : List Pr := [(1, 2), (1, 3), (2, 3), (5, 5)]
theorem putAll0 : putAll [(2, 3), (1, 2), (5, 5)] = L0 := by decide
theorem clo0 : IsClo L0 C0 := by
  refine ⟨by unfold Srt C0; decide, fun a b => ⟨fun h => ?_, fun h => ?_⟩⟩
  · simp only [C0, List.mem_cons, Prod.mk.injEq, List.not_mem_nil, or_false] at h
    rcases h with ⟨rfl, rfl⟩ | ⟨rfl, rfl⟩ | ⟨rfl, rfl⟩ | ⟨rfl, rfl⟩
    · exact .one (by simp [L0])
    · exact .more (.one (show ((1 : Int), (2 : Int)) ∈ L0 by simp [L0])) (by simp [L0])
    · exact .one (by simp [L0])
    · exact .one (by simp [L0])
  · induction h with
    | one h =>
      simp only [L0, List.mem_cons, Prod.mk.injEq, List.not_mem_nil, or_false] at h
      simp only [C0, List.mem_cons, Prod.mk.injEq, List.not_mem_nil, or_false]
      omega
    | more _ h ih =>
      simp only [L0, List.mem_cons, Prod.mk.injEq, List.not_mem_nil, or_false] at h
      simp only [C0, List.mem_cons, Prod.mk.injEq, List.not_mem_nil, or_false] at ih ⊢
      omega
theorem fit1 : fitsB L0 [1, 2, 3] = true := by decide
theorem fit2 : fitsB L0 [5] = false := by decide
theorem fit3 : fitsB L0 [2, 9, 1] = false := by decide
theorem has0 : decide (((1 : Int), (3 : Int)) ∈ C0) = true := by decide
theorem circle0 : hasCircle C0 = true := by decide
theorem area0 : area L0 = 9 := by decide

set_option maxHeartbeats 1000000 in
theorem rel_first (w : World) : Calls Try.prog 15 #[] w fun e w' => e = .returned (.bool true) ∧ Below w.heap.size w w' := by
  go_enter Try.func15, Try.ntmps15
  go_wp2_with fail
  have h0 := hid (OwnF.lit (f := pairC) (e := 40) (sz := 2) w w.heap.size (Nat.le_refl _) [((2 : Int), (3 : Int)), (1, 2), (5, 5)] pairC_len (by simp)).sl
  refine (rel_made (l := [((2 : Int), (3 : Int)), (1, 2), (5, 5)]) h0.out rfl (Nat.le_refl _) (by intro x hx; simp at hx; rcases hx with rfl | rfl | rfl <;> exact ⟨by decide, by decide⟩) (by decide)).mono ?_
  rintro e w1 ⟨p, v1, rfl, r1, l1, b1⟩
  rw [putAll0] at r1 l1
  obtain ⟨a1, c1, rfl, -⟩ := Sl.ex l1
  have hl0 : L0.length = 3 := rfl
  have R1 := hid r1
  have V1 := hid l1
  have B1 := hid (((Below.refl w.heap.size w).alloc (Nat.le_refl _) (.cells ([((2 : Int), (3 : Int)), (1, 2), (5, 5)].flatMap pairC).toArray 40)).trans (b1.mono (by simp)))
  clear r1 l1 b1 h0
  go_wp2_with fail
  refine (rel_is R1.out (Nat.le_refl _) (by decide) V1.out).mono ?_
  rintro e w2 ⟨rfl, b2⟩
  have R2 := hid (R1.out.below b2 (Nat.le_refl _))
  have B2 := hid (B1.out.trans (b2.mono B1.out.size))
  have z2 : w1.heap.size ≤ w2.heap.size := b2.size
  clear b2 V1 B1
  go_wp2_with fail
  refine (rel_closure R2.out z2 (by rw [area0]; decide)).mono ?_
  rintro e w3 ⟨p3, C, rfl, r3, hc3, b3⟩
  obtain rfl := hc3.uniq clo0
  have R3 := hid (R2.out.below b3 z2)
  have Q3 := hid r3
  have B3 := hid (B2.out.trans (b3.mono B2.out.size))
  have z3 : w1.heap.size ≤ w3.heap.size := Nat.le_trans z2 b3.size
  clear r3 b3 hc3 R2 B2 z2
  go_wp2_with fail
  refine (rel_has Q3.out 1 3 (by decide) (by decide)).mono ?_
  rintro e w4 ⟨rfl, rfl⟩
  rw [has0]
  go_wp2_with fail
  refine (rel_len Q3.out (Nat.le_refl _) (by decide)).mono ?_
  rintro e w4 ⟨rfl, b4⟩
  rw [show C0.length = 4 from rfl]
  have R4 := hid (R3.out.below b4 z3)
  have B4 := hid (B3.out.trans (b4.mono B3.out.size))
  have z4 : w1.heap.size ≤ w4.heap.size := Nat.le_trans z3 b4.size
  clear b4 R3 B3 Q3
  go_wp2_with fail
  refine (rel_circle R4.out z4 (by rw [area0]; decide)).mono ?_
  rintro e w5 ⟨C, hc5, rfl, b5⟩
  obtain rfl := hc5.uniq clo0
  rw [circle0]
  have R5 := hid (R4.out.below b5 z4)
  have B5 := hid (B4.out.trans (b5.mono B4.out.size))
  have z5 : w1.heap.size ≤ w5.heap.size := Nat.le_trans z4 b5.size
  clear b5 R4 B4 hc5
  go_wp2_with fail
  refine (rel_fits (R5.out.below ((Below.refl w5.heap.size w5).alloc (Nat.le_refl _) (.cells ([(1 : Int), 2, 3].flatMap intC).toArray 3)) z5) _ [1, 2, 3] 3 3 _ rfl (OwnF.lit (f := intC) (e := 3) (sz := 1) w5 w5.heap.size (Nat.le_refl _) [(1 : Int), 2, 3] intC_len (by simp)).sl (by intro x hx; simp at hx; rcases hx with rfl | rfl | rfl <;> decide) (by decide) (by decide)).mono ?_
  rintro e w6 ⟨rfl, rfl⟩
  rw [fit1]
  have R6 := hid (R5.out.below ((Below.refl w5.heap.size w5).alloc (Nat.le_refl _) (.cells ([(1 : Int), 2, 3].flatMap intC).toArray 3)) z5)
  have B6 := hid (B5.out.alloc B5.out.size (.cells ([(1 : Int), 2, 3].flatMap intC).toArray 3))
  have z6 : w1.heap.size ≤ (w5.alloc (.cells ([(1 : Int), 2, 3].flatMap intC).toArray 3)).heap.size := by rw [World.size_alloc]; omega
  generalize w5.alloc (.cells ([(1 : Int), 2, 3].flatMap intC).toArray 3) = w6 at *
  clear R5 B5 z5
  go_wp2_with fail
  refine (rel_fits (R6.out.below ((Below.refl w6.heap.size w6).alloc (Nat.le_refl _) (.cells ([(5 : Int)].flatMap intC).toArray 3)) z6) _ [5] 1 1 _ rfl (OwnF.lit (f := intC) (e := 3) (sz := 1) w6 w6.heap.size (Nat.le_refl _) [(5 : Int)] intC_len (by simp)).sl (by intro x hx; simp at hx; subst hx; decide) (by decide) (by decide)).mono ?_
  rintro e w7 ⟨rfl, rfl⟩
  rw [fit2]
  have R7 := hid (R6.out.below ((Below.refl w6.heap.size w6).alloc (Nat.le_refl _) (.cells ([(5 : Int)].flatMap intC).toArray 3)) z6)
  have B7 := hid (B6.out.alloc B6.out.size (.cells ([(5 : Int)].flatMap intC).toArray 3))
  have z7 : w1.heap.size ≤ (w6.alloc (.cells ([(5 : Int)].flatMap intC).toArray 3)).heap.size := by rw [World.size_alloc]; omega
  generalize w6.alloc (.cells ([(5 : Int)].flatMap intC).toArray 3) = w7 at *
  clear R6 B6 z6
  go_wp2_with fail
  refine (rel_fits (R7.out.below ((Below.refl w7.heap.size w7).alloc (Nat.le_refl _) (.cells ([(2 : Int), 9, 1].flatMap intC).toArray 3)) z7) _ [2, 9, 1] 3 3 _ rfl (OwnF.lit (f := intC) (e := 3) (sz := 1) w7 w7.heap.size (Nat.le_refl _) [(2 : Int), 9, 1] intC_len (by simp)).sl (by intro x hx; simp at hx; rcases hx with rfl | rfl | rfl <;> decide) (by decide) (by decide)).mono ?_
  rintro e w8 ⟨rfl, rfl⟩
  rw [fit3]
  have B8 := hid (B7.out.alloc B7.out.size (.cells ([(2 : Int), 9, 1].flatMap intC).toArray 3))
  generalize w7.alloc (.cells ([(2 : Int), 9, 1].flatMap intC).toArray 3) = w8 at *
  clear R7 B7 z7
  go_wp2
  go_ret
  exact ⟨rfl, B8.out⟩
end Go.Proofs.Ytlmeblhcipkgmaa
