/- The law that closes once. Conditions: those of each theorem, as typed. -/
import Derived.Test.YtlmeblhcipkgmaaRelN
import Derived.Test.YtlmeblhcipkgmaaRefE
import Derived.Test.YtlmeblhcipkgmaaFits
namespace Go.Proofs.Ytlmeblhcipkgmaa
open Go.RowKit Go.Maps
set_option linter.unusedVariables false
attribute [local irreducible] wpL

theorem circle_snoc {C : List Pr} {k : Nat} {x : Pr} (h : C[k]? = some x) : hasCircle (C.take (k + 1)) = (hasCircle (C.take k) || x.1 == x.2) := by
  rw [take_step h]
  simp [hasCircle, List.any_append]
theorem tc_far {L C : List Pr} (h : IsClo L C) {x y : Pr} (hx : x ∈ C) (hy : y ∈ L) (e : y.1 = x.2) : (x.1, y.2) ∈ C :=
  (h.mem _ _).2 (((h.mem x.1 x.2).1 hx).trans (.one (by rw [← e]; exact hy)))
section
variable {w : World} {v : Value}
set_option maxRecDepth 100000 in
set_option maxHeartbeats 2000000 in
theorem law_once {l : List Pr} {n B : Nat} (h : Sl w B 2 v n (l.flatMap pairC)) (hn : l.length = n) (hB : B ≤ w.heap.size) (hd : ∀ x ∈ l, dI x.1 ∧ dI x.2) :
    Calls Try.prog 5 #[v] w fun e w' => e = .returned (.bool true) ∧ Below w.heap.size w w' := by
  obtain ⟨al, cl, rfl, hm⟩ := h.ex
  have H := hid h
  have HN := hid hn
  have HD := hid hd
  clear h hn hd
  go_enter Try.func5, Try.ntmps5
  go_wp2_with fail
  refine (rel_first w).mono ?_
  rintro e w1 ⟨rfl, b1⟩
  have B1 := hid b1
  have z1 := b1.size
  clear b1
  by_cases hl : n ≤ 60
  · have HA := hid (area_put HN.out hl)
    have hLl : (putAll l).length ≤ 60 := by
      have := length_putAll l
      have := HN.out
      omega
    go_wp2_with fail
    refine (rel_made (H.out.below (B1.out.mono hB)) HN.out (by omega) HD.out (by omega)).mono ?_
    rintro e w2 ⟨p, v2, rfl, r2, l2, b2⟩
    generalize putAll l = L at *
    have R2 := hid r2
    have HLD := hid r2.dom
    have B2 := hid (B1.out.trans (b2.mono z1))
    have z2 := B2.out.size
    clear r2 l2 b2 B1
    go_wp2_with fail
    refine (rel_closure R2.out (Nat.le_refl _) HA.out).mono ?_
    rintro e w3 ⟨p3, C, rfl, r3, hc3, b3⟩
    have HC := hid hc3
    have hCl : C.length ≤ 1000000 := Nat.le_trans (clo_le hc3) HA.out
    have HCA := hid (show area C ≤ 1000000 by rw [hc3.area]; exact HA.out)
    have HCD := hid r3.dom
    have Q3 := hid r3
    have R3 := hid ((R2.out.below b3 (Nat.le_refl _)).raise b3.size)
    have B3 := hid (B2.out.trans (b3.mono z2))
    clear r3 hc3 b3 R2 B2 z2
    go_wp2_with fail
    refine (rel_closure Q3.out (Nat.le_refl _) HCA.out).mono ?_
    rintro e w4 ⟨p4, D, rfl, r4, hc4, b4⟩
    rw [hc4.uniq HC.out.again] at r4
    clear hc4
    have D4 := hid r4
    have R4 := hid ((R3.out.below b4 (Nat.le_refl _)).raise b4.size)
    have Q4 := hid ((Q3.out.below b4 (Nat.le_refl _)).raise b4.size)
    have B4 := hid (B3.out.trans (b4.mono B3.out.size))
    clear r4 b4 R3 Q3 B3
    have hne : ((C.length : Int) != (C.length : Int)) = false := by simp
    go_wp2_with fail
    refine (rel_len D4.out (Nat.le_refl _) hCl).mono ?_
    rintro e w5 ⟨rfl, b5⟩
    have R5 := hid ((R4.out.below b5 (Nat.le_refl _)).raise b5.size)
    have Q5 := hid ((Q4.out.below b5 (Nat.le_refl _)).raise b5.size)
    have B5 := hid (B4.out.trans (b5.mono B4.out.size))
    clear b5 R4 Q4 B4 D4
    go_wp2_with fail
    refine (rel_len Q5.out (Nat.le_refl _) hCl).mono ?_
    rintro e w6 ⟨rfl, b6⟩
    have R6 := hid ((R5.out.below b6 (Nat.le_refl _)).raise b6.size)
    have Q6 := hid ((Q5.out.below b6 (Nat.le_refl _)).raise b6.size)
    have B6 := hid (B5.out.trans (b6.mono B5.out.size))
    clear b6 R5 Q5 B5
    go_wp2_with fail
    refine (rel_pairs R6.out (Nat.le_refl _) (by omega)).mono ?_
    rintro e w7 ⟨v7, rfl, h7, b7⟩
    obtain ⟨a7, c7, rfl, -⟩ := h7.sl.ex
    have P7 := hid h7.sl
    have R7 := hid ((R6.out.below b7 (Nat.le_refl _)).raise b7.size)
    have Q7 := hid ((Q6.out.below b7 (Nat.le_refl _)).raise b7.size)
    have B7 := hid (B6.out.trans (b7.mono B6.out.size))
    clear h7 b7 R6 Q6 B6
    obtain ⟨m, hm2⟩ : ∃ m, m = L.length := ⟨_, rfl⟩
    rw [← hm2] at hLl P7 ⊢
    have HM := hid hm2.symm
    have HSUB := hid (fun x (hx : x ∈ L) => HC.out.sub hx : ∀ x ∈ L, x ∈ C)
    clear hm2
    go_wp2_with fail
    go_loopw [9] (fun i wr => ∃ k : Nat, k ≤ m ∧ i = .int .i64 k ∧ Sl wr wr.heap.size 2 (.slice a7 m c7) m (L.flatMap pairC) ∧ RelAt wr w1.heap.size wr.heap.size p L ∧ RelAt wr w2.heap.size wr.heap.size p3 C ∧ Below w.heap.size w wr) (fun i _ => m - (intOf i).toNat)
    case atStart => exact ⟨0, by omega, by go_num, P7.out, R7.out, Q7.out, B7.out⟩
    case round =>
      obtain ⟨k, hk, rfl, hP, hR, hQ, hb⟩ := hrel
      have P8 := hid hP
      have R8 := hid hR
      have Q8 := hid hQ
      have B8 := hid hb
      clear hP hR hQ hb P7 R7 Q7 B7
      by_cases hlt : k < m
      · obtain ⟨b, off, x, rfl, hb, hx, c1, c2⟩ := P8.out.pairs hlt HM.out
        have hxd := HLD.out x (List.mem_of_getElem? hx)
        have hd1 : decide ((x.1, x.2) ∈ C) = true := by simpa using HSUB.out x (List.mem_of_getElem? hx)
        clear hx
        go_wp2
        refine wp_region_x [0, 0, 0, 0, 0, 1, 0, 0, 0, 0, 1, 2, 0] [0, 1, 2, 3, 4, 5, 6, 7, 8, 9, 10, 11, 12] (by kernel_rfl) (by kernel_rfl) rfl (by kernel_rfl) ?_
        simp only [selX, guardAt, List.getElem?_cons_zero, List.getElem?_cons_succ, List.getD_cons_zero, List.getD_cons_succ]
        repeat (first
          | (refine wpL_p (fun K hK => ?_); go_simp; refine hK _ _ ?_; clear hK K)
          | (refine wpL_r (fun K hK => ?_); apply Exists.intro; refine ⟨fun w2 hw2 => ?_, hK _ _ ?_⟩; (have hk1 := hw2.cell; have hk3 := hw2.heap; clear hw2; go_simp; with_reducible rfl); clear hK K; simp only [Act.put, List.setIfInBounds_toArray, List.set_cons_zero, List.set_cons_succ])
          | (refine wpL_yes rfl rfl ?_)
          | (refine wpL_no rfl rfl (fun K hK => ?_); simp only [Act.put, List.setIfInBounds_toArray, List.set_cons_zero, List.set_cons_succ]; refine hK _ _ ?_; clear hK K)
          | (refine wpL_nil ?_))
        refine wpL_e (fun K hK => ?_)
        go_simp
        refine (rel_has (Q8.out.below ((Below.refl wr.heap.size wr).drew) (Nat.le_refl _)) x.1 x.2 hxd.1 hxd.2).mono ?_
        rintro e w9 ⟨rfl, rfl⟩
        rw [hd1]
        refine hK _ _ ?_
        clear hK K hd1
        repeat (first
          | (refine wpL_p (fun K hK => ?_); go_simp; refine hK _ _ ?_; clear hK K)
          | (refine wpL_r (fun K hK => ?_); apply Exists.intro; refine ⟨fun w2 hw2 => ?_, hK _ _ ?_⟩; (have hk1 := hw2.cell; have hk3 := hw2.heap; clear hw2; go_simp; with_reducible rfl); clear hK K; simp only [Act.put, List.setIfInBounds_toArray, List.set_cons_zero, List.set_cons_succ])
          | (refine wpL_yes rfl rfl ?_)
          | (refine wpL_no rfl rfl (fun K hK => ?_); simp only [Act.put, List.setIfInBounds_toArray, List.set_cons_zero, List.set_cons_succ]; refine hK _ _ ?_; clear hK K)
          | (refine wpL_nil ?_))
        go_wp2_with fail
        go_roundw
        case rel => exact ⟨k + 1, by omega, by go_num, P8.out.drew, R8.out.below ((Below.refl wr.heap.size wr).drew) (Nat.le_refl _), Q8.out.below ((Below.refl wr.heap.size wr).drew) (Nat.le_refl _), B8.out.drew⟩
        case measure => simp [intOf]; omega
      · obtain rfl : k = m := by omega
        go_wp2_with fail
        refine (rel_pairs Q8.out (Nat.le_refl _) hCl).mono ?_
        rintro e w9 ⟨v9, rfl, h9, b9⟩
        obtain ⟨a9, c9, rfl, -⟩ := h9.sl.ex
        have P9 := hid (Sl.up P8.out (Keep.of_below b9))
        have Y9 := hid h9.sl
        have R9 := hid ((R8.out.below b9 (Nat.le_refl _)).raise b9.size)
        have Q9 := hid ((Q8.out.below b9 (Nat.le_refl _)).raise b9.size)
        have B9 := hid (B8.out.trans (b9.mono B8.out.size))
        clear h9 b9 P8 R8 Q8 B8
        obtain ⟨mc, hmc⟩ : ∃ mc, mc = C.length := ⟨_, rfl⟩
        rw [← hmc] at hCl Y9 ⊢
        have HMC := hid hmc.symm
        have HTR := hid (fun x (hx : x ∈ C) y (hy : y ∈ L) (e : y.1 = x.2) => tc_far HC.out hx hy e : ∀ x ∈ C, ∀ y ∈ L, y.1 = x.2 → (x.1, y.2) ∈ C)
        clear hmc hne
        go_wp2_with fail
        go_loopw [11, 12] (fun s i wr => ∃ (kc : Nat) (sb : Bool), kc ≤ mc ∧ i = .int .i64 kc ∧ s = .bool sb ∧ hasCircle (C.take kc) = sb ∧ Sl wr wr.heap.size 2 (.slice a7 k c7) k (L.flatMap pairC) ∧ Sl wr wr.heap.size 2 (.slice a9 mc c9) mc (C.flatMap pairC) ∧ RelAt wr w1.heap.size wr.heap.size p L ∧ RelAt wr w2.heap.size wr.heap.size p3 C ∧ Below w.heap.size w wr) (fun _ i _ => mc - (intOf i).toNat)
        case atStart => exact ⟨0, false, by omega, by go_num, rfl, rfl, P9.out, Y9.out, R9.out, Q9.out, B9.out⟩
        case round =>
          obtain ⟨kc, sb, hkc, rfl, rfl, hs, hP, hP2, hR, hQ, hb⟩ := hrel
          have PA := hid hP
          have PA2 := hid hP2
          have RA := hid hR
          have QA := hid hQ
          have BA := hid hb
          have HSB := hid hs
          clear hP hP2 hR hQ hb hs P9 Y9 R9 Q9 B9
          by_cases hlc : kc < mc
          · obtain ⟨g2, o2, x, rfl, hg2, hx, c1, c2⟩ := PA2.out.pairs hlc HMC.out
            have HX := hid hx
            have HSN := hid (circle_snoc hx)
            rw [HSB.out] at HSN
            clear hx
            cases sb with
            | true =>
              have HSELF : Hid (hasCircle (C.take (kc + 1)) = true) := hid (by rw [HSN.out]; rfl)
              clear HSN HSB
              go_wp2
              refine wp_region_x [0, 0, 0, 0, 0, 0, 1, 0, 0, 0, 0, 1, 0, 0, 0] [0, 1, 2, 3, 4, 5, 6, 7, 8, 9, 10, 11, 12, 13, 14] (by kernel_rfl) (by kernel_rfl) rfl (by kernel_rfl) ?_
              simp only [selX, guardAt, List.getElem?_cons_zero, List.getElem?_cons_succ, List.getD_cons_zero, List.getD_cons_succ, Option.bind_some]
              repeat (first
                | (refine wpL_p (fun K hK => ?_); go_simp; refine hK _ _ ?_; clear hK K)
                | (refine wpL_r (fun K hK => ?_); apply Exists.intro; refine ⟨fun w2 hw2 => ?_, hK _ _ ?_⟩; (have hk1 := hw2.cell; have hk3 := hw2.heap; clear hw2; go_simp; with_reducible rfl); clear hK K; simp only [Act.put, List.setIfInBounds_toArray, List.set_cons_zero, List.set_cons_succ])
                | (refine wpL_yes rfl rfl ?_)
                | (refine wpL_no rfl rfl (fun K hK => ?_); simp only [Act.put, List.setIfInBounds_toArray, List.set_cons_zero, List.set_cons_succ]; refine hK _ _ ?_; clear hK K)
                | (refine wpL_nil ?_))
              have PB := hid PA.out.drew
              have PC := hid PA2.out.drew
              have RB := hid (RA.out.below ((Below.refl wr.heap.size wr).drew) (Nat.le_refl _))
              have QB := hid (QA.out.below ((Below.refl wr.heap.size wr).drew) (Nat.le_refl _))
              have BB := hid BA.out.drew
              clear PA PA2 RA QA BA c1 c2
              go_wp2_with fail
              go_loopw [13] (fun i wq => ∃ j : Nat, j ≤ k ∧ i = .int .i64 j ∧ Sl wq wq.heap.size 2 (.slice a7 k c7) k (L.flatMap pairC) ∧ Sl wq wq.heap.size 2 (.slice (some ⟨g2, o2, none⟩) mc c9) mc (C.flatMap pairC) ∧ RelAt wq w1.heap.size wq.heap.size p L ∧ RelAt wq w2.heap.size wq.heap.size p3 C ∧ Below w.heap.size w wq) (fun i _ => k - (intOf i).toNat)
              case atStart => exact ⟨0, by omega, by go_num, PB.out, PC.out, RB.out, QB.out, BB.out⟩
              case round =>
                obtain ⟨j, hj, rfl, hP, hP2, hR, hQ, hb⟩ := hrel
                have PD := hid hP
                have PE := hid hP2
                have RD := hid hR
                have QD := hid hQ
                have BD := hid hb
                clear hP hP2 hR hQ hb PB PC RB QB BB
                by_cases hlj : j < k
                · obtain ⟨g3, o3, y, rfl, hg3, hy, d1, d2⟩ := PD.out.pairs hlj HM.out
                  obtain ⟨g4, o4, x4, e4, hg4, hx4, d3, d4⟩ := PE.out.pairs hlc HMC.out
                  simp only [Option.some.injEq, Addr.mk.injEq, and_true] at e4
                  obtain ⟨rfl, rfl⟩ := e4
                  obtain rfl : x = x4 := by have := HX.out; rw [hx4] at this; exact (Option.some.inj this).symm
                  have hxd := HCD.out x (List.mem_of_getElem? hx4)
                  have hyd := HLD.out y (List.mem_of_getElem? hy)
                  have HIN := hid (HTR.out x (List.mem_of_getElem? hx4) y (List.mem_of_getElem? hy))
                  clear hy hx4
                  by_cases e3 : y.1 = x.2
                  · have t3 : (y.1 == x.2) = true := by simpa using e3
                    have hd1 : decide ((x.1, y.2) ∈ C) = true := by simpa using HIN.out e3
                    clear e3 HIN
                    go_wp2
                    refine wp_region_x [0, 0, 0, 0, 1, 0, 0, 0, 0, 1, 0, 0, 0, 0, 0, 0, 0, 1, 0, 0, 0, 0, 1, 2, 0, 0] [0, 1, 2, 3, 4, 5, 6, 7, 8, 9, 10, 11, 12, 13, 14, 15, 16, 17, 18, 19, 20, 21, 22, 23, 24, 25] (by kernel_rfl) (by kernel_rfl) rfl (by kernel_rfl) ?_
                    simp only [selX, guardAt, List.getElem?_cons_zero, List.getElem?_cons_succ, List.getD_cons_zero, List.getD_cons_succ, Option.bind_some]
                    repeat (first
                      | (refine wpL_p (fun K hK => ?_); go_simp; refine hK _ _ ?_; clear hK K)
                      | (refine wpL_r (fun K hK => ?_); apply Exists.intro; refine ⟨fun w2 hw2 => ?_, hK _ _ ?_⟩; (have hk1 := hw2.cell; have hk3 := hw2.heap; clear hw2; go_simp; with_reducible rfl); clear hK K; simp only [Act.put, List.setIfInBounds_toArray, List.set_cons_zero, List.set_cons_succ])
                      | (refine wpL_yes rfl rfl ?_)
                      | (refine wpL_no rfl rfl (fun K hK => ?_); simp only [Act.put, List.setIfInBounds_toArray, List.set_cons_zero, List.set_cons_succ]; refine hK _ _ ?_; clear hK K)
                      | (refine wpL_nil ?_))
                    refine wpL_e (fun K hK => ?_)
                    go_simp
                    refine (rel_has (QD.out.below ((Below.refl wr.heap.size wr).drew) (Nat.le_refl _)) x.1 y.2 hxd.1 hyd.2).mono ?_
                    rintro e wF ⟨rfl, rfl⟩
                    rw [hd1]
                    refine hK _ _ ?_
                    clear hK K hd1
                    repeat (first
                      | (refine wpL_p (fun K hK => ?_); go_simp; refine hK _ _ ?_; clear hK K)
                      | (refine wpL_r (fun K hK => ?_); apply Exists.intro; refine ⟨fun w2 hw2 => ?_, hK _ _ ?_⟩; (have hk1 := hw2.cell; have hk3 := hw2.heap; clear hw2; go_simp; with_reducible rfl); clear hK K; simp only [Act.put, List.setIfInBounds_toArray, List.set_cons_zero, List.set_cons_succ])
                      | (refine wpL_yes rfl rfl ?_)
                      | (refine wpL_no rfl rfl (fun K hK => ?_); simp only [Act.put, List.setIfInBounds_toArray, List.set_cons_zero, List.set_cons_succ]; refine hK _ _ ?_; clear hK K)
                      | (refine wpL_nil ?_))
                    go_wp2_with fail
                    go_roundw
                    case rel => exact ⟨j + 1, by omega, by go_num, PD.out.drew, PE.out.drew, RD.out.below ((Below.refl wr.heap.size wr).drew) (Nat.le_refl _), QD.out.below ((Below.refl wr.heap.size wr).drew) (Nat.le_refl _), BD.out.drew⟩
                    case measure => simp [intOf]; omega
                  · have t3 : (y.1 == x.2) = false := by simpa using e3
                    clear e3 HIN
                    go_wp2
                    refine wp_region_x [0, 0, 0, 0, 1, 0, 0, 0, 0, 1, 0, 0, 0, 0, 0, 0, 0, 1, 0, 0, 0, 0, 1, 2, 0, 0] [0, 1, 2, 3, 4, 5, 6, 7, 8, 9, 10, 11, 12, 13, 14, 15, 16, 17, 18, 19, 20, 21, 22, 23, 24, 25] (by kernel_rfl) (by kernel_rfl) rfl (by kernel_rfl) ?_
                    simp only [selX, guardAt, List.getElem?_cons_zero, List.getElem?_cons_succ, List.getD_cons_zero, List.getD_cons_succ, Option.bind_some]
                    repeat (first
                      | (refine wpL_p (fun K hK => ?_); go_simp; refine hK _ _ ?_; clear hK K)
                      | (refine wpL_r (fun K hK => ?_); apply Exists.intro; refine ⟨fun w2 hw2 => ?_, hK _ _ ?_⟩; (have hk1 := hw2.cell; have hk3 := hw2.heap; clear hw2; go_simp; with_reducible rfl); clear hK K; simp only [Act.put, List.setIfInBounds_toArray, List.set_cons_zero, List.set_cons_succ])
                      | (refine wpL_yes rfl rfl ?_)
                      | (refine wpL_no rfl rfl (fun K hK => ?_); simp only [Act.put, List.setIfInBounds_toArray, List.set_cons_zero, List.set_cons_succ]; refine hK _ _ ?_; clear hK K)
                      | (refine wpL_nil ?_))
                    go_wp2_with fail
                    go_roundw
                    case rel => exact ⟨j + 1, by omega, by go_num, PD.out.drew, PE.out.drew, RD.out.below ((Below.refl wr.heap.size wr).drew) (Nat.le_refl _), QD.out.below ((Below.refl wr.heap.size wr).drew) (Nat.le_refl _), BD.out.drew⟩
                    case measure => simp [intOf]; omega
                · obtain rfl : j = k := by omega
                  go_wp2_with fail
                  go_roundw
                  case rel => exact ⟨kc + 1, _, by omega, by go_num, rfl, HSELF.out, PD.out, PE.out, RD.out, QD.out, BD.out⟩
                  case measure => simp [intOf]; omega
            | false =>
              by_cases e1 : x.1 = x.2
              · have t1 : (x.1 == x.2) = true := by simpa using e1
                have HSELF : Hid (hasCircle (C.take (kc + 1)) = true) := hid (by rw [HSN.out, t1]; rfl)
                clear HSN HSB e1
                go_wp2
                refine wp_region_x [0, 0, 0, 0, 0, 0, 1, 0, 0, 0, 0, 1, 0, 0, 0] [0, 1, 2, 3, 4, 5, 6, 7, 8, 9, 10, 11, 12, 13, 14] (by kernel_rfl) (by kernel_rfl) rfl (by kernel_rfl) ?_
                simp only [selX, guardAt, List.getElem?_cons_zero, List.getElem?_cons_succ, List.getD_cons_zero, List.getD_cons_succ, Option.bind_some]
                repeat (first
                  | (refine wpL_p (fun K hK => ?_); go_simp; refine hK _ _ ?_; clear hK K)
                  | (refine wpL_r (fun K hK => ?_); apply Exists.intro; refine ⟨fun w2 hw2 => ?_, hK _ _ ?_⟩; (have hk1 := hw2.cell; have hk3 := hw2.heap; clear hw2; go_simp; with_reducible rfl); clear hK K; simp only [Act.put, List.setIfInBounds_toArray, List.set_cons_zero, List.set_cons_succ])
                  | (refine wpL_yes rfl rfl ?_)
                  | (refine wpL_no rfl rfl (fun K hK => ?_); simp only [Act.put, List.setIfInBounds_toArray, List.set_cons_zero, List.set_cons_succ]; refine hK _ _ ?_; clear hK K)
                  | (refine wpL_nil ?_))
                have PB := hid PA.out.drew
                have PC := hid PA2.out.drew
                have RB := hid (RA.out.below ((Below.refl wr.heap.size wr).drew) (Nat.le_refl _))
                have QB := hid (QA.out.below ((Below.refl wr.heap.size wr).drew) (Nat.le_refl _))
                have BB := hid BA.out.drew
                clear PA PA2 RA QA BA c1 c2
                go_wp2_with fail
                go_loopw [13] (fun i wq => ∃ j : Nat, j ≤ k ∧ i = .int .i64 j ∧ Sl wq wq.heap.size 2 (.slice a7 k c7) k (L.flatMap pairC) ∧ Sl wq wq.heap.size 2 (.slice (some ⟨g2, o2, none⟩) mc c9) mc (C.flatMap pairC) ∧ RelAt wq w1.heap.size wq.heap.size p L ∧ RelAt wq w2.heap.size wq.heap.size p3 C ∧ Below w.heap.size w wq) (fun i _ => k - (intOf i).toNat)
                case atStart => exact ⟨0, by omega, by go_num, PB.out, PC.out, RB.out, QB.out, BB.out⟩
                case round =>
                  obtain ⟨j, hj, rfl, hP, hP2, hR, hQ, hb⟩ := hrel
                  have PD := hid hP
                  have PE := hid hP2
                  have RD := hid hR
                  have QD := hid hQ
                  have BD := hid hb
                  clear hP hP2 hR hQ hb PB PC RB QB BB
                  by_cases hlj : j < k
                  · obtain ⟨g3, o3, y, rfl, hg3, hy, d1, d2⟩ := PD.out.pairs hlj HM.out
                    obtain ⟨g4, o4, x4, e4, hg4, hx4, d3, d4⟩ := PE.out.pairs hlc HMC.out
                    simp only [Option.some.injEq, Addr.mk.injEq, and_true] at e4
                    obtain ⟨rfl, rfl⟩ := e4
                    obtain rfl : x = x4 := by have := HX.out; rw [hx4] at this; exact (Option.some.inj this).symm
                    have hxd := HCD.out x (List.mem_of_getElem? hx4)
                    have hyd := HLD.out y (List.mem_of_getElem? hy)
                    have HIN := hid (HTR.out x (List.mem_of_getElem? hx4) y (List.mem_of_getElem? hy))
                    clear hy hx4
                    by_cases e3 : y.1 = x.2
                    · have t3 : (y.1 == x.2) = true := by simpa using e3
                      have hd1 : decide ((x.1, y.2) ∈ C) = true := by simpa using HIN.out e3
                      clear e3 HIN
                      go_wp2
                      refine wp_region_x [0, 0, 0, 0, 1, 0, 0, 0, 0, 1, 0, 0, 0, 0, 0, 0, 0, 1, 0, 0, 0, 0, 1, 2, 0, 0] [0, 1, 2, 3, 4, 5, 6, 7, 8, 9, 10, 11, 12, 13, 14, 15, 16, 17, 18, 19, 20, 21, 22, 23, 24, 25] (by kernel_rfl) (by kernel_rfl) rfl (by kernel_rfl) ?_
                      simp only [selX, guardAt, List.getElem?_cons_zero, List.getElem?_cons_succ, List.getD_cons_zero, List.getD_cons_succ, Option.bind_some]
                      repeat (first
                        | (refine wpL_p (fun K hK => ?_); go_simp; refine hK _ _ ?_; clear hK K)
                        | (refine wpL_r (fun K hK => ?_); apply Exists.intro; refine ⟨fun w2 hw2 => ?_, hK _ _ ?_⟩; (have hk1 := hw2.cell; have hk3 := hw2.heap; clear hw2; go_simp; with_reducible rfl); clear hK K; simp only [Act.put, List.setIfInBounds_toArray, List.set_cons_zero, List.set_cons_succ])
                        | (refine wpL_yes rfl rfl ?_)
                        | (refine wpL_no rfl rfl (fun K hK => ?_); simp only [Act.put, List.setIfInBounds_toArray, List.set_cons_zero, List.set_cons_succ]; refine hK _ _ ?_; clear hK K)
                        | (refine wpL_nil ?_))
                      refine wpL_e (fun K hK => ?_)
                      go_simp
                      refine (rel_has (QD.out.below ((Below.refl wr.heap.size wr).drew) (Nat.le_refl _)) x.1 y.2 hxd.1 hyd.2).mono ?_
                      rintro e wF ⟨rfl, rfl⟩
                      rw [hd1]
                      refine hK _ _ ?_
                      clear hK K hd1
                      repeat (first
                        | (refine wpL_p (fun K hK => ?_); go_simp; refine hK _ _ ?_; clear hK K)
                        | (refine wpL_r (fun K hK => ?_); apply Exists.intro; refine ⟨fun w2 hw2 => ?_, hK _ _ ?_⟩; (have hk1 := hw2.cell; have hk3 := hw2.heap; clear hw2; go_simp; with_reducible rfl); clear hK K; simp only [Act.put, List.setIfInBounds_toArray, List.set_cons_zero, List.set_cons_succ])
                        | (refine wpL_yes rfl rfl ?_)
                        | (refine wpL_no rfl rfl (fun K hK => ?_); simp only [Act.put, List.setIfInBounds_toArray, List.set_cons_zero, List.set_cons_succ]; refine hK _ _ ?_; clear hK K)
                        | (refine wpL_nil ?_))
                      go_wp2_with fail
                      go_roundw
                      case rel => exact ⟨j + 1, by omega, by go_num, PD.out.drew, PE.out.drew, RD.out.below ((Below.refl wr.heap.size wr).drew) (Nat.le_refl _), QD.out.below ((Below.refl wr.heap.size wr).drew) (Nat.le_refl _), BD.out.drew⟩
                      case measure => simp [intOf]; omega
                    · have t3 : (y.1 == x.2) = false := by simpa using e3
                      clear e3 HIN
                      go_wp2
                      refine wp_region_x [0, 0, 0, 0, 1, 0, 0, 0, 0, 1, 0, 0, 0, 0, 0, 0, 0, 1, 0, 0, 0, 0, 1, 2, 0, 0] [0, 1, 2, 3, 4, 5, 6, 7, 8, 9, 10, 11, 12, 13, 14, 15, 16, 17, 18, 19, 20, 21, 22, 23, 24, 25] (by kernel_rfl) (by kernel_rfl) rfl (by kernel_rfl) ?_
                      simp only [selX, guardAt, List.getElem?_cons_zero, List.getElem?_cons_succ, List.getD_cons_zero, List.getD_cons_succ, Option.bind_some]
                      repeat (first
                        | (refine wpL_p (fun K hK => ?_); go_simp; refine hK _ _ ?_; clear hK K)
                        | (refine wpL_r (fun K hK => ?_); apply Exists.intro; refine ⟨fun w2 hw2 => ?_, hK _ _ ?_⟩; (have hk1 := hw2.cell; have hk3 := hw2.heap; clear hw2; go_simp; with_reducible rfl); clear hK K; simp only [Act.put, List.setIfInBounds_toArray, List.set_cons_zero, List.set_cons_succ])
                        | (refine wpL_yes rfl rfl ?_)
                        | (refine wpL_no rfl rfl (fun K hK => ?_); simp only [Act.put, List.setIfInBounds_toArray, List.set_cons_zero, List.set_cons_succ]; refine hK _ _ ?_; clear hK K)
                        | (refine wpL_nil ?_))
                      go_wp2_with fail
                      go_roundw
                      case rel => exact ⟨j + 1, by omega, by go_num, PD.out.drew, PE.out.drew, RD.out.below ((Below.refl wr.heap.size wr).drew) (Nat.le_refl _), QD.out.below ((Below.refl wr.heap.size wr).drew) (Nat.le_refl _), BD.out.drew⟩
                      case measure => simp [intOf]; omega
                  · obtain rfl : j = k := by omega
                    go_wp2_with fail
                    go_roundw
                    case rel => exact ⟨kc + 1, _, by omega, by go_num, rfl, HSELF.out, PD.out, PE.out, RD.out, QD.out, BD.out⟩
                    case measure => simp [intOf]; omega
              · have t1 : (x.1 == x.2) = false := by simpa using e1
                have HSELF : Hid (hasCircle (C.take (kc + 1)) = false) := hid (by rw [HSN.out, t1]; rfl)
                clear HSN HSB e1
                go_wp2
                refine wp_region_x [0, 0, 0, 0, 0, 0, 1, 0, 0, 0, 0, 1, 0, 0, 0] [0, 1, 2, 3, 4, 5, 6, 7, 8, 9, 10, 11, 12, 13, 14] (by kernel_rfl) (by kernel_rfl) rfl (by kernel_rfl) ?_
                simp only [selX, guardAt, List.getElem?_cons_zero, List.getElem?_cons_succ, List.getD_cons_zero, List.getD_cons_succ, Option.bind_some]
                repeat (first
                  | (refine wpL_p (fun K hK => ?_); go_simp; refine hK _ _ ?_; clear hK K)
                  | (refine wpL_r (fun K hK => ?_); apply Exists.intro; refine ⟨fun w2 hw2 => ?_, hK _ _ ?_⟩; (have hk1 := hw2.cell; have hk3 := hw2.heap; clear hw2; go_simp; with_reducible rfl); clear hK K; simp only [Act.put, List.setIfInBounds_toArray, List.set_cons_zero, List.set_cons_succ])
                  | (refine wpL_yes rfl rfl ?_)
                  | (refine wpL_no rfl rfl (fun K hK => ?_); simp only [Act.put, List.setIfInBounds_toArray, List.set_cons_zero, List.set_cons_succ]; refine hK _ _ ?_; clear hK K)
                  | (refine wpL_nil ?_))
                have PB := hid PA.out.drew
                have PC := hid PA2.out.drew
                have RB := hid (RA.out.below ((Below.refl wr.heap.size wr).drew) (Nat.le_refl _))
                have QB := hid (QA.out.below ((Below.refl wr.heap.size wr).drew) (Nat.le_refl _))
                have BB := hid BA.out.drew
                clear PA PA2 RA QA BA c1 c2
                go_wp2_with fail
                go_loopw [13] (fun i wq => ∃ j : Nat, j ≤ k ∧ i = .int .i64 j ∧ Sl wq wq.heap.size 2 (.slice a7 k c7) k (L.flatMap pairC) ∧ Sl wq wq.heap.size 2 (.slice (some ⟨g2, o2, none⟩) mc c9) mc (C.flatMap pairC) ∧ RelAt wq w1.heap.size wq.heap.size p L ∧ RelAt wq w2.heap.size wq.heap.size p3 C ∧ Below w.heap.size w wq) (fun i _ => k - (intOf i).toNat)
                case atStart => exact ⟨0, by omega, by go_num, PB.out, PC.out, RB.out, QB.out, BB.out⟩
                case round =>
                  obtain ⟨j, hj, rfl, hP, hP2, hR, hQ, hb⟩ := hrel
                  have PD := hid hP
                  have PE := hid hP2
                  have RD := hid hR
                  have QD := hid hQ
                  have BD := hid hb
                  clear hP hP2 hR hQ hb PB PC RB QB BB
                  by_cases hlj : j < k
                  · obtain ⟨g3, o3, y, rfl, hg3, hy, d1, d2⟩ := PD.out.pairs hlj HM.out
                    obtain ⟨g4, o4, x4, e4, hg4, hx4, d3, d4⟩ := PE.out.pairs hlc HMC.out
                    simp only [Option.some.injEq, Addr.mk.injEq, and_true] at e4
                    obtain ⟨rfl, rfl⟩ := e4
                    obtain rfl : x = x4 := by have := HX.out; rw [hx4] at this; exact (Option.some.inj this).symm
                    have hxd := HCD.out x (List.mem_of_getElem? hx4)
                    have hyd := HLD.out y (List.mem_of_getElem? hy)
                    have HIN := hid (HTR.out x (List.mem_of_getElem? hx4) y (List.mem_of_getElem? hy))
                    clear hy hx4
                    by_cases e3 : y.1 = x.2
                    · have t3 : (y.1 == x.2) = true := by simpa using e3
                      have hd1 : decide ((x.1, y.2) ∈ C) = true := by simpa using HIN.out e3
                      clear e3 HIN
                      go_wp2
                      refine wp_region_x [0, 0, 0, 0, 1, 0, 0, 0, 0, 1, 0, 0, 0, 0, 0, 0, 0, 1, 0, 0, 0, 0, 1, 2, 0, 0] [0, 1, 2, 3, 4, 5, 6, 7, 8, 9, 10, 11, 12, 13, 14, 15, 16, 17, 18, 19, 20, 21, 22, 23, 24, 25] (by kernel_rfl) (by kernel_rfl) rfl (by kernel_rfl) ?_
                      simp only [selX, guardAt, List.getElem?_cons_zero, List.getElem?_cons_succ, List.getD_cons_zero, List.getD_cons_succ, Option.bind_some]
                      repeat (first
                        | (refine wpL_p (fun K hK => ?_); go_simp; refine hK _ _ ?_; clear hK K)
                        | (refine wpL_r (fun K hK => ?_); apply Exists.intro; refine ⟨fun w2 hw2 => ?_, hK _ _ ?_⟩; (have hk1 := hw2.cell; have hk3 := hw2.heap; clear hw2; go_simp; with_reducible rfl); clear hK K; simp only [Act.put, List.setIfInBounds_toArray, List.set_cons_zero, List.set_cons_succ])
                        | (refine wpL_yes rfl rfl ?_)
                        | (refine wpL_no rfl rfl (fun K hK => ?_); simp only [Act.put, List.setIfInBounds_toArray, List.set_cons_zero, List.set_cons_succ]; refine hK _ _ ?_; clear hK K)
                        | (refine wpL_nil ?_))
                      refine wpL_e (fun K hK => ?_)
                      go_simp
                      refine (rel_has (QD.out.below ((Below.refl wr.heap.size wr).drew) (Nat.le_refl _)) x.1 y.2 hxd.1 hyd.2).mono ?_
                      rintro e wF ⟨rfl, rfl⟩
                      rw [hd1]
                      refine hK _ _ ?_
                      clear hK K hd1
                      repeat (first
                        | (refine wpL_p (fun K hK => ?_); go_simp; refine hK _ _ ?_; clear hK K)
                        | (refine wpL_r (fun K hK => ?_); apply Exists.intro; refine ⟨fun w2 hw2 => ?_, hK _ _ ?_⟩; (have hk1 := hw2.cell; have hk3 := hw2.heap; clear hw2; go_simp; with_reducible rfl); clear hK K; simp only [Act.put, List.setIfInBounds_toArray, List.set_cons_zero, List.set_cons_succ])
                        | (refine wpL_yes rfl rfl ?_)
                        | (refine wpL_no rfl rfl (fun K hK => ?_); simp only [Act.put, List.setIfInBounds_toArray, List.set_cons_zero, List.set_cons_succ]; refine hK _ _ ?_; clear hK K)
                        | (refine wpL_nil ?_))
                      go_wp2_with fail
                      go_roundw
                      case rel => exact ⟨j + 1, by omega, by go_num, PD.out.drew, PE.out.drew, RD.out.below ((Below.refl wr.heap.size wr).drew) (Nat.le_refl _), QD.out.below ((Below.refl wr.heap.size wr).drew) (Nat.le_refl _), BD.out.drew⟩
                      case measure => simp [intOf]; omega
                    · have t3 : (y.1 == x.2) = false := by simpa using e3
                      clear e3 HIN
                      go_wp2
                      refine wp_region_x [0, 0, 0, 0, 1, 0, 0, 0, 0, 1, 0, 0, 0, 0, 0, 0, 0, 1, 0, 0, 0, 0, 1, 2, 0, 0] [0, 1, 2, 3, 4, 5, 6, 7, 8, 9, 10, 11, 12, 13, 14, 15, 16, 17, 18, 19, 20, 21, 22, 23, 24, 25] (by kernel_rfl) (by kernel_rfl) rfl (by kernel_rfl) ?_
                      simp only [selX, guardAt, List.getElem?_cons_zero, List.getElem?_cons_succ, List.getD_cons_zero, List.getD_cons_succ, Option.bind_some]
                      repeat (first
                        | (refine wpL_p (fun K hK => ?_); go_simp; refine hK _ _ ?_; clear hK K)
                        | (refine wpL_r (fun K hK => ?_); apply Exists.intro; refine ⟨fun w2 hw2 => ?_, hK _ _ ?_⟩; (have hk1 := hw2.cell; have hk3 := hw2.heap; clear hw2; go_simp; with_reducible rfl); clear hK K; simp only [Act.put, List.setIfInBounds_toArray, List.set_cons_zero, List.set_cons_succ])
                        | (refine wpL_yes rfl rfl ?_)
                        | (refine wpL_no rfl rfl (fun K hK => ?_); simp only [Act.put, List.setIfInBounds_toArray, List.set_cons_zero, List.set_cons_succ]; refine hK _ _ ?_; clear hK K)
                        | (refine wpL_nil ?_))
                      go_wp2_with fail
                      go_roundw
                      case rel => exact ⟨j + 1, by omega, by go_num, PD.out.drew, PE.out.drew, RD.out.below ((Below.refl wr.heap.size wr).drew) (Nat.le_refl _), QD.out.below ((Below.refl wr.heap.size wr).drew) (Nat.le_refl _), BD.out.drew⟩
                      case measure => simp [intOf]; omega
                  · obtain rfl : j = k := by omega
                    go_wp2_with fail
                    go_roundw
                    case rel => exact ⟨kc + 1, _, by omega, by go_num, rfl, HSELF.out, PD.out, PE.out, RD.out, QD.out, BD.out⟩
                    case measure => simp [intOf]; omega
          · obtain rfl : kc = mc := by omega
            have hall : hasCircle C = sb := by rw [← HSB.out, ← HMC.out, List.take_length]
            have hbe : ∀ q : Bool, (q == q) = true := fun q => by cases q <;> rfl
            have hq1 := hbe sb
            clear hbe
            go_wp2_with fail
            refine (rel_circle RA.out (Nat.le_refl _) HA.out).mono ?_
            rintro e wG ⟨CG, hcG, rfl, bG⟩
            rw [hcG.uniq HC.out, hall]
            have QG := hid ((QA.out.below bG (Nat.le_refl _)).raise bG.size)
            have BG := hid (BA.out.trans (bG.mono BA.out.size))
            clear hcG bG RA QA BA PA PA2
            go_wp2_with fail
            refine (rel_circle QG.out (Nat.le_refl _) HCA.out).mono ?_
            rintro e wH ⟨CH, hcH, rfl, bH⟩
            rw [circle_again HC.out hcH, hall]
            have BH := hid (BG.out.trans (bH.mono BG.out.size))
            clear hcH bH QG BG
            go_wp2
            go_ret
            exact ⟨rfl, BH.out⟩
  · go_wp2
    go_ret
    exact ⟨rfl, B1.out⟩
end
end Go.Proofs.Ytlmeblhcipkgmaa
