/- What the program's relations of names do: Circle. Conditions: those of each theorem, as typed. -/
import Derived.Test.YtlmeblhcipkgmaaTelC
import Derived.Test.YtlmeblhcipkgmaaRelI
namespace Go.Proofs.Ytlmeblhcipkgmaa.Tx
open Go.RowKit Go.Maps
section
variable {w : World} {lo hi p : Nat} {L : List Pr}
theorem rel_circle (h : RelAt w lo hi p L) (hhi : hi ≤ w.heap.size) (hA : area L ≤ 1000000) : Calls Try.prog 30 #[.pointer (some ⟨p, 0, none⟩)] w fun e w' =>
    ∃ C, IsClo L C ∧ e = .returned (.bool (hasCircle C)) ∧ Below w.heap.size w w' := by
  go_enter Try.func30, Try.ntmps30
  go_wp2_with fail
  refine (rel_closure h hhi hA).mono ?_
  rintro e w1 ⟨p2, C, rfl, hC, hclo, hB⟩
  have HR := hid hC
  obtain ⟨b, M, h1⟩ := hC
  have hp := row_cell h1.ptr 0
  have H := hid h1
  have hbw : b < w1.heap.size := h1.hb.2
  have HC := hid hclo
  have HB := hid hB
  have z1 := hB.size
  clear h1 hclo hB
  go_wp2_with (at_range; refine Stop.halt ?_)
  refine Stop.go ?_
  refine H.out.out.wpList_range keyN H.out.domM H.out.srtM Try.underlying101 rfl rfl (by rfl) ?_
  intro w2 hr2 hg2 hz2
  have HG := hid hr2
  have HB2 := hid (below_ranged (Below.refl w1.heap.size w1) hg2 (Nat.le_refl _))
  clear hr2 hg2 hz2
  go_wp2_with fail
  go_frame
  go_loopg [4] M.length (fun k _ wr => ∃ S, RngO wr b w1.heap.size M S k ∧ (∀ x, x ∈ heads C → S x = false → (x, x) ∉ C) ∧ Below w1.heap.size w1 wr)
  case atStart => exact ⟨_, HG.out, fun x _ h => by simp at h, HB2.out⟩
  case round =>
    obtain ⟨S, hrg, hm, hB⟩ := hrel
    have HG := hid hrg
    have HM := hid hm
    have HB3 := hid hB
    clear hrg hm hB HB2
    go_wp2_with (at_next; refine Stop.halt ?_)
    refine Stop.go ?_
    refine HG.out.wpList_next keyN elem_map H.out.domM H.out.srtM rfl rfl (by rfl) ?_ ?_
    · intro hd
      have hno : Hid (hasCircle C = false) := hid (circle_no fun x hx => by
        have hx1 : x ∈ heads C := mem_heads.2 ⟨x, hx⟩
        have : x ∈ M.map (·.1) := by rw [H.out.keys]; exact hx1
        obtain ⟨q, hq, hq2⟩ := List.mem_map.1 this
        exact HM.out x hx1 (by rw [← hq2]; exact hd q hq) hx)
      clear hd
      go_wp2
      go_ret
      exact ⟨C, HC.out, by rw [hno.out]; rfl, HB.out.trans (HB3.out.mono z1)⟩
    · intro x u w3 k3 hxm hS hrg3 hlt3 hg3 hz3 hen
      have HB4 := hid (below_next HB3.out hg3 HB3.out.size (Nat.le_refl _))
      have HG3 := hid hrg3
      have HS := hid hS
      have hxd : dS x := H.out.domM _ hxm
      clear hrg3 hg3 hS hxm hz3
      by_cases hin : (x, x) ∈ C
      · have hd : decide ((x, x) ∈ C) = true := by simpa using hin
        have hyes := hid (circle_yes hin)
        go_wp2_with fail
        refine (rel_has (HR.out.below HB4.out (Nat.le_refl _)) x x hxd hxd).mono ?_
        rintro e w4 ⟨rfl, rfl⟩
        rw [hd]
        clear hd hin
        go_wp2
        go_ret
        exact ⟨C, HC.out, by rw [hyes.out]; rfl, HB.out.trans (HB4.out.mono z1)⟩
      · have hd : decide ((x, x) ∈ C) = false := by simpa using hin
        have HN := hid hin
        go_wp2_with fail
        refine (rel_has (HR.out.below HB4.out (Nat.le_refl _)) x x hxd hxd).mono ?_
        rintro e w4 ⟨rfl, rfl⟩
        rw [hd]
        clear hd hin
        go_wp2_with fail
        go_roundg k3
        case measure => exact hlt3
        case rel =>
          refine ⟨_, HG3.out, fun z hz hS2 => ?_, HB4.out⟩
          by_cases e : z = x
          · subst e; exact HN.out
          · have e2 : (z == x) = false := by simpa using e
            rw [e2] at hS2
            simp only [Bool.not_false, Bool.and_true] at hS2
            exact HM.out z hz hS2

end
end Go.Proofs.Ytlmeblhcipkgmaa.Tx
