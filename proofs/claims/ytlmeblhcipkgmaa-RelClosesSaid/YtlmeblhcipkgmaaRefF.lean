/- What the document's copy of a list of numbers is. Conditions: those of each theorem, as typed. -/
import Derived.Test.YtlmeblhcipkgmaaRefE
import Derived.OwnWalk
namespace Go.Proofs.Ytlmeblhcipkgmaa
open Go.RowKit Go.Maps
set_option linter.unusedVariables false

section
variable {w : World} {v : Value}
set_option maxHeartbeats 1000000 in
theorem ref_ints {l : List Int} (h : LI w v l) (hl : l.length ≤ 1000000) : Calls Try.prog 18 #[v] w fun e w' => ∃ v', e = .returned v' ∧ OwnI w' w.heap.size v' l ∧ Below w.heap.size w w' := by
  obtain ⟨al, cl, n, rfl, hn, hm, h⟩ := LI.open h
  rw [hn] at hl
  have H := hid h
  have HN := hid hn
  clear h hn
  obtain ⟨i, hi, hz0, hz1, hz2⟩ : ∃ i, Try.prog.info? 3 = some i ∧ i.zero = some (.int .i64 0) ∧ i.size = 1 ∧ i.bytes = 8 := by
    have := infoI
    cases hh : Try.prog.info? 3 with
    | none => rw [hh] at this; simp at this
    | some i => rw [hh] at this; simp at this; exact ⟨i, rfl, this.1, this.2.1, this.2.2⟩
  go_enter Try.func18, Try.ntmps18
  go_wp2_with (at_make; refine wpList_make_own _ rfl _ _ _ rfl w.heap.size 3 i _ 1 Try.underlying23 hi hz0 hz1 .i64 .i64 (n : Int) n (by rfl) (by rfl) rfl (by rw [hz2]; omega) (by unfold maxLen; omega) (Nat.le_refl _) ?_; refine Stop.halt ?_)
  refine Stop.go ?_
  intro w1 o1 g1
  have hb1 : Below w.heap.size w w1 := (Below.refl w.heap.size w).grown g1 (Nat.le_refl _) (fun _ h => by cases h)
  have HO := hid (show OwnI w1 w.heap.size (.slice (some ⟨w.heap.size, 0, none⟩) 0 n) [] from o1)
  have HB := hid hb1
  clear o1 g1 hb1
  go_wp2_with fail
  go_loopw [3, 4] (fun u j wr => ∃ (k : Nat) (A : List Int), k ≤ n ∧ j = .int .i64 k ∧ A = l.take k ∧ OwnI wr w.heap.size u A ∧ Below w.heap.size w wr) (fun _ j _ => n - (intOf j).toNat)
  case atStart => exact ⟨0, [], by omega, by go_num, rfl, HO.out, HB.out⟩
  case round =>
    obtain ⟨k, A, hk, rfl, hA, hO, hB⟩ := hrel
    obtain ⟨a5, c5, rfl, -⟩ := hO.sl.ex
    have hAl : A.length = k := by rw [hA, List.length_take]; have := HN.out; omega
    have HA := hid hA.symm
    have HO2 := hid hO
    have HB2 := hid hB
    have hz := hB.size
    clear hA hO hB HO HB
    by_cases hlt : k < n
    · obtain ⟨b2, off2, x2, rfl, hb2, hx2, hc2⟩ := (H.out.below HB2.out).ints hlt HN.out
      have HX2 := hid hx2
      clear hx2
      go_wp2_with (at_builtin; refine wpList_appF rfl _ _ _ rfl _ 8 Try.underlying23 infoI rfl HO2.out x2 (by first | omega | (simp <;> omega)) (by rfl) (by rfl) (by first | rfl | simp) rfl (in_one _) (by first | omega | (simp only [List.length_append, List.length_cons, List.length_nil, List.length_replicate]; omega)) (by first | omega | (simp only [List.length_append, List.length_cons, List.length_nil, List.length_replicate]; omega)) ?_; refine Stop.halt ?_)
      refine Stop.go ?_
      intro gn cn wn hn Gn
      have HO3 := hid hn
      have HB3 := hid (HB2.out.trans (Gn.below hz fun q h => (HO2.out.lt q (by rw [hAl]; exact h)).1))
      clear hn Gn hc2
      go_wp2_with fail
      go_roundw
      case rel => exact ⟨k + 1, _, by omega, by go_num, rfl, by rw [take_step HX2.out, HA.out]; exact HO3.out, HB3.out⟩
      case measure => simp [intOf]; omega
    · obtain rfl : k = n := by omega
      have HE := hid (show l.take k = l by rw [← HN.out]; exact List.take_length)
      go_wp2
      go_ret
      exact ⟨_, rfl, by rw [← HE.out, HA.out]; exact HO2.out, HB2.out⟩
end
end Go.Proofs.Ytlmeblhcipkgmaa
