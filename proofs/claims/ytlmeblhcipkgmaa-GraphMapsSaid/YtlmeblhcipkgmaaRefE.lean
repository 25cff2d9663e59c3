/- What the document's relations of whole numbers do: Circle, Fits. Conditions: those of each theorem, as typed. -/
import Derived.Test.YtlmeblhcipkgmaaRefD
import Derived.Test.YtlmeblhcipkgmaaRelI
namespace Go.Proofs.Ytlmeblhcipkgmaa
open Go.RowKit Go.Maps
set_option linter.unusedVariables false
attribute [local irreducible] wpL

theorem LP.ofN {w : World} {v : Value} {l : List Pr} {n : Nat} (hn : l.length = n) {B : Nat} (h : Sl w B 2 v n (l.flatMap pairC)) (hB : B ≤ w.heap.size) : LP w v l := by subst hn; exact h.more hB
section
variable {w : World} {v : Value}
set_option maxHeartbeats 1000000 in
theorem ref_circle {L : List Pr} (h : LP w v L) (hs : Srt L) (hAr : area L ≤ 1000000) : Calls Try.prog 23 #[v] w fun e w' => ∃ C, IsClo L C ∧ e = .returned (.bool (hasCircle C)) ∧ Below w.heap.size w w' := by
  go_enter Try.func23, Try.ntmps23
  go_wp2_with fail
  refine (ref_closure h hs hAr).mono ?_
  rintro e w1 ⟨v1, C, rfl, h1, hc, b1⟩
  obtain ⟨al, cl, n, rfl, hn, hm, h1⟩ := LP.open h1
  have H := hid h1
  have HN := hid hn
  have HC := hid hc
  have B1 := hid b1
  clear h1 hn hc b1
  go_wp2_with fail
  go_loopw [4] (fun i wr => ∃ k : Nat, k ≤ n ∧ i = .int .i64 k ∧ (∀ j x, j < k → C[j]? = some x → x.1 ≠ x.2) ∧ Sl wr wr.heap.size 2 (.slice al n cl) n (C.flatMap pairC) ∧ Below w.heap.size w wr) (fun i _ => n - (intOf i).toNat)
  case atStart => exact ⟨0, by omega, by go_num, fun _ _ h => by omega, H.out, B1.out⟩
  case round =>
    obtain ⟨k, hk, rfl, hr, hS, hB⟩ := hrel
    have HR := hid hr
    have HS := hid hS
    have HB := hid hB
    clear hr hS hB H B1
    by_cases hlt : k < n
    · obtain ⟨b, off, x, rfl, hb, hx, c1, c2⟩ := HS.out.pairs hlt HN.out
      have HX := hid hx
      clear hx
      by_cases e1 : x.1 = x.2
      · have t1 : (x.1 == x.2) = true := by simpa using e1
        have hin : Hid (hasCircle C = true) := hid (circle_yes (x := x.1) (by
          have := List.mem_of_getElem? HX.out
          have hx2 : x = (x.1, x.1) := by rw [Prod.ext_iff]; exact ⟨rfl, e1.symm⟩
          rwa [hx2] at this))
        clear e1
        go_wp2
        refine wp_region_x [0, 0, 0, 0, 1, 0, 0, 0, 0, 1, 0] [0, 1, 2, 3, 4, 5, 6, 7, 8, 9, 10] (by kernel_rfl) (by kernel_rfl) rfl (by kernel_rfl) ?_
        simp only [selX, guardAt, List.getElem?_cons_zero, List.getElem?_cons_succ, List.getD_cons_zero, List.getD_cons_succ]
        repeat (first
          | (refine wpL_p (fun K hK => ?_); go_simp; refine hK _ _ ?_; clear hK K)
          | (refine wpL_r (fun K hK => ?_); apply Exists.intro; refine ⟨fun w2 hw2 => ?_, hK _ _ ?_⟩; (have hk1 := hw2.cell; have hk3 := hw2.heap; clear hw2; go_simp; with_reducible rfl); clear hK K; simp only [Act.put, List.setIfInBounds_toArray, List.set_cons_zero, List.set_cons_succ])
          | (refine wpL_yes rfl rfl ?_)
          | (refine wpL_no rfl rfl (fun K hK => ?_); simp only [Act.put, List.setIfInBounds_toArray, List.set_cons_zero, List.set_cons_succ]; refine hK _ _ ?_; clear hK K)
          | (refine wpL_nil ?_))
        go_wp2
        go_ret
        exact ⟨C, HC.out, by rw [hin.out]; rfl, HB.out.drew⟩
      · have t1 : (x.1 == x.2) = false := by simpa using e1
        have hne : Hid (x.1 ≠ x.2) := hid e1
        clear e1
        go_wp2
        refine wp_region_x [0, 0, 0, 0, 1, 0, 0, 0, 0, 1, 0] [0, 1, 2, 3, 4, 5, 6, 7, 8, 9, 10] (by kernel_rfl) (by kernel_rfl) rfl (by kernel_rfl) ?_
        simp only [selX, guardAt, List.getElem?_cons_zero, List.getElem?_cons_succ, List.getD_cons_zero, List.getD_cons_succ]
        repeat (first
          | (refine wpL_p (fun K hK => ?_); go_simp; refine hK _ _ ?_; clear hK K)
          | (refine wpL_r (fun K hK => ?_); apply Exists.intro; refine ⟨fun w2 hw2 => ?_, hK _ _ ?_⟩; (have hk1 := hw2.cell; have hk3 := hw2.heap; clear hw2; go_simp; with_reducible rfl); clear hK K; simp only [Act.put, List.setIfInBounds_toArray, List.set_cons_zero, List.set_cons_succ])
          | (refine wpL_yes rfl rfl ?_)
          | (refine wpL_no rfl rfl (fun K hK => ?_); simp only [Act.put, List.setIfInBounds_toArray, List.set_cons_zero, List.set_cons_succ]; refine hK _ _ ?_; clear hK K)
          | (refine wpL_nil ?_))
        go_wp2_with fail
        go_roundw
        case rel => exact ⟨k + 1, by omega, by go_num, fun j y hj hy => by
          by_cases e : j = k
          · subst e; rw [HX.out] at hy; cases hy; exact hne.out
          · exact HR.out j y (by omega) hy, HS.out.drew, HB.out.drew⟩
        case measure => simp [intOf]; omega
    · have hno : Hid (hasCircle C = false) := hid (circle_no fun x hm => by
        obtain ⟨j, hj, e⟩ := List.getElem_of_mem hm
        have hjn : j < n := by rw [← HN.out]; exact hj
        exact HR.out j (x, x) (by omega) (by rw [← e]; exact List.getElem?_eq_getElem hj) rfl)
      go_wp2
      go_ret
      exact ⟨C, HC.out, by rw [hno.out]; rfl, HB.out⟩

set_option maxHeartbeats 1000000 in
theorem ref_fits {L : List Pr} (h : LP w v L) {ao : Option Addr} {o : List Int} {n co B : Nat} (hn : o.length = n) (ho : Sl w B 1 (.slice ao n co) n (o.flatMap intC)) (hB : B ≤ w.heap.size) (hm : n ≤ 9223372036854775807) :
    Calls Try.prog 24 #[v, .slice ao n co] w fun e w' => e = .returned (.bool (fitsB L o)) ∧ Below w.heap.size w w' := by
  obtain ⟨al, cl, m, rfl, hLn, hm2, h⟩ := LP.open h
  have H := hid h
  have HO := hid ho
  have HN := hid hn
  have HM := hid hLn
  clear h ho hn hLn
  go_enter Try.func24, Try.ntmps24
  go_wp2_with fail
  go_loopw [5] (fun i wr => ∃ k : Nat, k ≤ n ∧ i = .int .i64 k ∧ (∀ j i', j < k → i' ≤ j → (o.getD j 0, o.getD i' 0) ∉ L) ∧ Below w.heap.size w wr) (fun i _ => n - (intOf i).toNat)
  case atStart => exact ⟨0, by omega, by go_num, fun _ _ h => by omega, Below.refl _ _⟩
  case round =>
    obtain ⟨k, hk, rfl, hr, hb1⟩ := hrel
    have HR := hid hr
    have HB := hid hb1
    clear hr hb1
    by_cases hlt : k < n
    · obtain ⟨g, off, x, rfl, hg, hx, hc⟩ := HO.out.ints hlt HN.out
      have hxg : Hid (o.getD k 0 = x) := hid (by rw [List.getD_eq_getElem?_getD, hx]; rfl)
      have HX := hid hx
      clear hx
      go_wp2_with fail
      go_loopw [6] (fun i wq => ∃ j : Nat, j ≤ k + 1 ∧ i = .int .i64 j ∧ (∀ j', j' < j → (x, o.getD j' 0) ∉ L) ∧ Below w.heap.size w wq) (fun i _ => k + 1 - (intOf i).toNat)
      case atStart => exact ⟨0, by omega, by go_num, fun _ h => by omega, HB.out⟩
      case round =>
        obtain ⟨j, hj, rfl, hq, hb2⟩ := hrel
        have HJ := hid hq
        have HQ := hid hb2
        clear hq hb2
        by_cases hlj : j < k + 1
        · have hlj2 : j ≤ k := by omega
          have hjn : j < n := by omega
          obtain ⟨g2, off2, y, e2, hg2, hy, hcy⟩ := (HO.out.below (HQ.out.mono hB)).ints (k := j) (by omega) HN.out
          obtain ⟨g3, off3, x3, e3, hg3, hx3, hcx⟩ := (HO.out.below (HQ.out.mono hB)).ints hlt HN.out
          simp only [Option.some.injEq, Addr.mk.injEq, and_true] at e2 e3
          obtain ⟨rfl, rfl⟩ := e2
          obtain ⟨rfl, rfl⟩ := e3
          obtain rfl : x = x3 := by have := HX.out; rw [hx3] at this; exact (Option.some.inj this).symm
          have hyg : Hid (o.getD j 0 = y) := hid (by rw [List.getD_eq_getElem?_getD, hy]; rfl)
          have HY := hid hy
          clear hy hx3
          by_cases hin : (x, y) ∈ L
          · have hd : decide ((x, y) ∈ L) = true := by simpa using hin
            have hf : Hid (fitsB L o = false) := hid (fits_no HY.out HX.out (by omega) hin)
            go_wp2
            refine wp_region_x [0, 0, 0, 0, 1, 0, 0, 0, 1, 2] [0, 1, 2, 3, 4, 5, 6, 7, 8, 9] (by kernel_rfl) (by kernel_rfl) rfl (by kernel_rfl) ?_
            simp only [selX, guardAt, List.getElem?_cons_zero, List.getElem?_cons_succ, List.getD_cons_zero, List.getD_cons_succ]
            repeat (first
              | (refine wpL_p (fun K hK => ?_); go_simp; refine hK _ _ ?_; clear hK K)
              | (refine wpL_r (fun K hK => ?_); apply Exists.intro; refine ⟨fun w2 hw2 => ?_, hK _ _ ?_⟩; (have hk1 := hw2.cell; have hk3 := hw2.heap; clear hw2; go_simp; with_reducible rfl); clear hK K; simp only [Act.put, List.setIfInBounds_toArray, List.set_cons_zero, List.set_cons_succ])
              | (refine wpL_yes rfl rfl ?_)
              | (refine wpL_no rfl rfl (fun K hK => ?_); simp only [Act.put, List.setIfInBounds_toArray, List.set_cons_zero, List.set_cons_succ]; refine hK _ _ ?_; clear hK K)
              | (refine wpL_nil ?_))
            refine wpL_e (fun K hK => ?_)
            go_simp
            refine (ref_has (v := .slice al m cl) (L := L) (show LP _ _ L from LP.ofN HM.out (H.out.below HQ.out).drew (by rw [World.size_drew]; exact HQ.out.size)) x y).mono ?_
            rintro e w3 ⟨rfl, rfl⟩
            rw [hd]
            refine hK _ _ ?_
            clear hK K hd hin
            repeat (first
              | (refine wpL_p (fun K hK => ?_); go_simp; refine hK _ _ ?_; clear hK K)
              | (refine wpL_r (fun K hK => ?_); apply Exists.intro; refine ⟨fun w2 hw2 => ?_, hK _ _ ?_⟩; (have hk1 := hw2.cell; have hk3 := hw2.heap; clear hw2; go_simp; with_reducible rfl); clear hK K; simp only [Act.put, List.setIfInBounds_toArray, List.set_cons_zero, List.set_cons_succ])
              | (refine wpL_yes rfl rfl ?_)
              | (refine wpL_no rfl rfl (fun K hK => ?_); simp only [Act.put, List.setIfInBounds_toArray, List.set_cons_zero, List.set_cons_succ]; refine hK _ _ ?_; clear hK K)
              | (refine wpL_nil ?_))
            go_wp2
            go_ret
            exact ⟨by rw [hf.out]; rfl, HQ.out.drew⟩
          · have hd : decide ((x, y) ∈ L) = false := by simpa using hin
            have HNI := hid hin
            go_wp2
            refine wp_region_x [0, 0, 0, 0, 1, 0, 0, 0, 1, 2] [0, 1, 2, 3, 4, 5, 6, 7, 8, 9] (by kernel_rfl) (by kernel_rfl) rfl (by kernel_rfl) ?_
            simp only [selX, guardAt, List.getElem?_cons_zero, List.getElem?_cons_succ, List.getD_cons_zero, List.getD_cons_succ]
            repeat (first
              | (refine wpL_p (fun K hK => ?_); go_simp; refine hK _ _ ?_; clear hK K)
              | (refine wpL_r (fun K hK => ?_); apply Exists.intro; refine ⟨fun w2 hw2 => ?_, hK _ _ ?_⟩; (have hk1 := hw2.cell; have hk3 := hw2.heap; clear hw2; go_simp; with_reducible rfl); clear hK K; simp only [Act.put, List.setIfInBounds_toArray, List.set_cons_zero, List.set_cons_succ])
              | (refine wpL_yes rfl rfl ?_)
              | (refine wpL_no rfl rfl (fun K hK => ?_); simp only [Act.put, List.setIfInBounds_toArray, List.set_cons_zero, List.set_cons_succ]; refine hK _ _ ?_; clear hK K)
              | (refine wpL_nil ?_))
            refine wpL_e (fun K hK => ?_)
            go_simp
            refine (ref_has (v := .slice al m cl) (L := L) (show LP _ _ L from LP.ofN HM.out (H.out.below HQ.out).drew (by rw [World.size_drew]; exact HQ.out.size)) x y).mono ?_
            rintro e w3 ⟨rfl, rfl⟩
            rw [hd]
            refine hK _ _ ?_
            clear hK K hd hin
            repeat (first
              | (refine wpL_p (fun K hK => ?_); go_simp; refine hK _ _ ?_; clear hK K)
              | (refine wpL_r (fun K hK => ?_); apply Exists.intro; refine ⟨fun w2 hw2 => ?_, hK _ _ ?_⟩; (have hk1 := hw2.cell; have hk3 := hw2.heap; clear hw2; go_simp; with_reducible rfl); clear hK K; simp only [Act.put, List.setIfInBounds_toArray, List.set_cons_zero, List.set_cons_succ])
              | (refine wpL_yes rfl rfl ?_)
              | (refine wpL_no rfl rfl (fun K hK => ?_); simp only [Act.put, List.setIfInBounds_toArray, List.set_cons_zero, List.set_cons_succ]; refine hK _ _ ?_; clear hK K)
              | (refine wpL_nil ?_))
            go_wp2_with fail
            go_roundw
            case rel =>
              refine ⟨j + 1, by omega, by go_num, fun j' h => ?_, HQ.out.drew⟩
              by_cases e : j' = j
              · subst e; rw [hyg.out]; exact HNI.out
              · exact HJ.out j' (by omega)
            case measure => simp [intOf]; omega
        · have hlj2 : ¬ j ≤ k := by omega
          obtain rfl : j = k + 1 := by omega
          go_wp2_with fail
          go_roundw
          case rel =>
            refine ⟨k + 1, by omega, by go_num, fun i' j' h1 h2 => ?_, HQ.out⟩
            by_cases e : i' = k
            · subst e
              rw [hxg.out]
              exact HJ.out j' (by omega)
            · exact HR.out i' j' (by omega) h2
          case measure => simp [intOf]; omega
    · obtain rfl : k = n := by omega
      have hf : Hid (fitsB L o = true) := hid (fitsB_iff.2 fun i j h1 h2 => HR.out i j (by rw [HN.out] at h2; exact h2) h1)
      go_wp2
      go_ret
      exact ⟨by rw [hf.out]; rfl, HB.out⟩
end
end Go.Proofs.Ytlmeblhcipkgmaa
