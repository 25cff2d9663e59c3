/- What the program's relations of whole numbers do: Circle, Fits. Conditions: those of each theorem, as typed. -/
import Derived.Test.YtlmeblhcipkgmaaRelC
namespace Go.Proofs.Ytlmeblhcipkgmaa
open Go.RowKit Go.Maps

theorem circle_yes {C : List Pr} {x : Int} (h : (x, x) ∈ C) : hasCircle C = true := by
  unfold hasCircle
  exact List.any_eq_true.2 ⟨_, h, by simp⟩
theorem circle_no {C : List Pr} (h : ∀ x, (x, x) ∉ C) : hasCircle C = false := by
  unfold hasCircle
  rw [List.any_eq_false]
  rintro ⟨x, y⟩ hm e
  simp only [beq_iff_eq] at e
  subst e
  exact h x hm

section
variable {w : World} {lo hi p : Nat} {L : List Pr}
theorem rel_circle (h : RelAt w lo hi p L) (hhi : hi ≤ w.heap.size) (hA : area L ≤ 1000000) : Calls Try.prog 22 #[.pointer (some ⟨p, 0, none⟩)] w fun e w' =>
    ∃ C, IsClo L C ∧ e = .returned (.bool (hasCircle C)) ∧ Below w.heap.size w w' := by
  go_enter Try.func22, Try.ntmps22
  go_wp2_with fail
  refine (rel_closure h hhi hA).mono ?_
  rintro e w1 ⟨p2, C, rfl, hC, hclo, hB⟩
  have HR := hid hC
  obtain ⟨b, M, h1⟩ := hC
  have hp := row_cell h1.ptr 0
  have H := hid h1
  have hbw : b < w1.heap.size := h1.hb.2
  have HC := hid hclo
  have HB := hid hB
  have z1 := hB.size
  clear h1 hclo hB
  go_wp2_with (at_range; refine Stop.halt ?_)
  refine Stop.go ?_
  refine H.out.out.wpList_range keyI H.out.domM H.out.srtM Try.underlying98 rfl rfl (by rfl) ?_
  intro w2 hr2 hg2 hz2
  have HG := hid hr2
  have HB2 := hid (below_ranged (Below.refl w1.heap.size w1) hg2 (Nat.le_refl _))
  clear hr2 hg2 hz2
  go_wp2_with fail
  go_frame
  go_loopg [4] M.length (fun k _ wr => ∃ S, RngO wr b w1.heap.size M S k ∧ (∀ x, x ∈ heads C → S x = false → (x, x) ∉ C) ∧ Below w1.heap.size w1 wr)
  case atStart => exact ⟨_, HG.out, fun x _ h => by simp at h, HB2.out⟩
  case round =>
    obtain ⟨S, hrg, hm, hB⟩ := hrel
    have HG := hid hrg
    have HM := hid hm
    have HB3 := hid hB
    clear hrg hm hB HB2
    go_wp2_with (at_next; refine Stop.halt ?_)
    refine Stop.go ?_
    refine HG.out.wpList_next keyI elem_map H.out.domM H.out.srtM rfl rfl (by rfl) ?_ ?_
    · intro hd
      have hno : Hid (hasCircle C = false) := hid (circle_no fun x hx => by
        have hx1 : x ∈ heads C := mem_heads.2 ⟨x, hx⟩
        have : x ∈ M.map (·.1) := by rw [H.out.keys]; exact hx1
        obtain ⟨q, hq, hq2⟩ := List.mem_map.1 this
        exact HM.out x hx1 (by rw [← hq2]; exact hd q hq) hx)
      clear hd
      go_wp2
      go_ret
      exact ⟨C, HC.out, by rw [hno.out]; rfl, HB.out.trans (HB3.out.mono z1)⟩
    · intro x u w3 k3 hxm hS hrg3 hlt3 hg3 hz3 hen
      have HB4 := hid (below_next HB3.out hg3 HB3.out.size (Nat.le_refl _))
      have HG3 := hid hrg3
      have HS := hid hS
      have hxd : dI x := H.out.domM _ hxm
      clear hrg3 hg3 hS hxm hz3
      by_cases hin : (x, x) ∈ C
      · have hd : decide ((x, x) ∈ C) = true := by simpa using hin
        have hyes := hid (circle_yes hin)
        go_wp2_with fail
        refine (rel_has (HR.out.below HB4.out (Nat.le_refl _)) x x hxd hxd).mono ?_
        rintro e w4 ⟨rfl, rfl⟩
        rw [hd]
        clear hd hin
        go_wp2
        go_ret
        exact ⟨C, HC.out, by rw [hyes.out]; rfl, HB.out.trans (HB4.out.mono z1)⟩
      · have hd : decide ((x, x) ∈ C) = false := by simpa using hin
        have HN := hid hin
        go_wp2_with fail
        refine (rel_has (HR.out.below HB4.out (Nat.le_refl _)) x x hxd hxd).mono ?_
        rintro e w4 ⟨rfl, rfl⟩
        rw [hd]
        clear hd hin
        go_wp2_with fail
        go_roundg k3
        case measure => exact hlt3
        case rel =>
          refine ⟨_, HG3.out, fun z hz hS2 => ?_, HB4.out⟩
          by_cases e : z = x
          · subst e; exact HN.out
          · have e2 : (z == x) = false := by simpa using e
            rw [e2] at hS2
            simp only [Bool.not_false, Bool.and_true] at hS2
            exact HM.out z hz hS2

theorem fits_no {o : List Int} {i j : Nat} {a c : Int} (hi : o[i]? = some a) (hj : o[j]? = some c) (hij : i ≤ j) (h : (c, a) ∈ L) : fitsB L o = false := by
  cases hf : fitsB L o
  · rfl
  · have h1 := fitsB_iff.1 hf j i hij (List.getElem?_eq_some_iff.1 hj).1
    simp only [List.getD_eq_getElem?_getD, hi, hj, Option.getD_some] at h1
    exact absurd h h1

set_option maxHeartbeats 400000 in
theorem rel_fits (h : RelAt w lo hi p L) (ao : Option Addr) (o : List Int) (n co B : Nat) (hn : o.length = n) (ho : Sl w B 1 (.slice ao n co) n (o.flatMap intC)) (hod : ∀ x ∈ o, dI x) (hnc : n ≤ co) (hcm : co ≤ 9223372036854775807) :
    Calls Try.prog 19 #[.pointer (some ⟨p, 0, none⟩), .slice ao n co] w fun e w' => e = .returned (.bool (fitsB L o)) ∧ w = w' := by
  have HR := hid h
  have HO := hid ho
  have HD := hid hod
  have Hn := hid hn
  clear h ho hod hn
  go_enter Try.func19, Try.ntmps19
  go_wp2_with fail
  go_loopw [11] (fun i wr => ∃ k : Nat, k ≤ n ∧ i = .int .i64 k ∧ (∀ i' j, i' < k → i' ≤ j → j < n → (o.getD j 0, o.getD i' 0) ∉ L) ∧ wr = w) (fun i _ => n - (intOf i).toNat)
  case atStart => exact ⟨0, by omega, by go_num, fun _ _ h => by omega, rfl⟩
  case round =>
    obtain ⟨k, hk, rfl, hm, rfl⟩ := hrel
    have HM := hid hm
    clear hm
    by_cases hlt : k < n
    · obtain ⟨g, off, x, rfl, hg, hx, hc⟩ := HO.out.ints hlt Hn.out
      have hxd := HD.out x (List.mem_of_getElem? hx)
      have hxg : Hid (o.getD k 0 = x) := hid (by rw [List.getD_eq_getElem?_getD, hx]; rfl)
      have HX := hid hx
      have hkc : k < co := by omega
      have i1 : (0 : Int) ≤ (k : Int) := by omega
      have i2 : (k : Int) ≤ (n : Int) := by omega
      have i3 : (n : Int) ≤ (co : Int) := by omega
      clear hx
      go_wp2_with fail
      go_loopw [20] (fun i wq => ∃ j : Nat, j ≤ n - k ∧ i = .int .i64 j ∧ (∀ j', j' < j → (o.getD (k + j') 0, x) ∉ L) ∧ wq = wr) (fun i _ => n - k - (intOf i).toNat)
      case atStart => exact ⟨0, by omega, by go_num, fun _ h => by omega, rfl⟩
      case round =>
        obtain ⟨j, hj, rfl, hm, rfl⟩ := hrel
        have HJ := hid hm
        clear hm
        by_cases hlj : j < n - k
        · obtain ⟨g2, off2, y, e2, hg2, hy, hcy⟩ := HO.out.ints (k := k + j) (by omega) Hn.out
          simp only [Option.some.injEq, Addr.mk.injEq, and_true] at e2
          obtain ⟨rfl, rfl⟩ := e2
          rw [← Nat.add_assoc] at hcy
          have hyd := HD.out y (List.mem_of_getElem? hy)
          have hyg : Hid (o.getD (k + j) 0 = y) := hid (by rw [List.getD_eq_getElem?_getD, hy]; rfl)
          have HY := hid hy
          have hj2 : (j : Int) < ((n - k : Nat) : Int) := by omega
          clear hy
          by_cases hin : (y, x) ∈ L
          · have hd : decide ((y, x) ∈ L) = true := by simpa using hin
            have hf : Hid (fitsB L o = false) := hid (fits_no HX.out HY.out (by omega) hin)
            go_wp2_with fail
            refine (rel_has HR.out y x hyd hxd).mono ?_
            rintro e w4 ⟨rfl, rfl⟩
            rw [hd]
            clear hd hin
            go_wp2
            go_ret
            exact ⟨by rw [hf.out]; rfl, rfl⟩
          · have hd : decide ((y, x) ∈ L) = false := by simpa using hin
            have HN := hid hin
            go_wp2_with fail
            refine (rel_has HR.out y x hyd hxd).mono ?_
            rintro e w4 ⟨rfl, rfl⟩
            rw [hd]
            clear hd hin
            go_wp2_with fail
            go_roundw
            case rel =>
              refine ⟨j + 1, by omega, by go_num, fun j' h => ?_, by first | rfl | trivial⟩
              by_cases e : j' = j
              · subst e; rw [hyg.out]; exact HN.out
              · exact HJ.out j' (by omega)
            case measure => simp [intOf]; omega
        · obtain rfl : j = n - k := by omega
          go_wp2_with fail
          go_roundw
          case rel =>
            refine ⟨k + 1, by omega, by go_num, fun i' j' h1 h2 h3 => ?_, by first | rfl | trivial⟩
            by_cases e : i' = k
            · subst e
              have := HJ.out (j' - i') (by omega)
              rw [show i' + (j' - i') = j' from by omega] at this
              rw [hxg.out]
              exact this
            · exact HM.out i' j' (by omega) h2 h3
          case measure => simp [intOf]; omega
    · obtain rfl : k = n := by omega
      have hf : Hid (fitsB L o = true) := hid (fitsB_iff.2 fun i j h1 h2 => HM.out j i (by rw [Hn.out] at h2; omega) h1 (by rw [← Hn.out]; exact h2))
      go_wp2
      go_ret
      exact ⟨by rw [hf.out]; rfl, rfl⟩
end
end Go.Proofs.Ytlmeblhcipkgmaa
