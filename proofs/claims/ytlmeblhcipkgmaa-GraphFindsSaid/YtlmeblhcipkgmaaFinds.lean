/- The law that asks what a graph finds. Conditions: those of each theorem, as typed. -/
import Derived.Test.YtlmeblhcipkgmaaEither
import Derived.Test.YtlmeblhcipkgmaaGsD
import Derived.Test.YtlmeblhcipkgmaaGsT
namespace Go.Proofs.Ytlmeblhcipkgmaa
open Go.RowKit Go.Maps
set_option linter.unusedVariables false
set_option linter.unusedSimpArgs false
attribute [local irreducible] wpL

section
variable {w : World} {vd vi : Value}
set_option maxRecDepth 100000 in
set_option maxHeartbeats 4000000 in
theorem law_finds {l : List Tr} {nd : List Int} {n m B : Nat} (h : Sl w B 3 vd n (l.flatMap trC)) (hn : l.length = n) (hB : B ≤ w.heap.size) (hi : Sl w B 1 vi m (nd.flatMap intC)) (hm : nd.length = m) (hd : ∀ x ∈ l, dI x.1 ∧ dI x.2.1 ∧ dI x.2.2) (hdi : ∀ x ∈ nd, dI x) (a : Int) (ha : dI a) :
    Calls Try.prog 12 #[vd, vi, .int .i64 a] w fun e w' => e = .returned (.bool true) ∧ Below w.heap.size w w' := by
  obtain ⟨al, cl, rfl, hal⟩ := h.ex
  obtain ⟨ai, ci, rfl, hai⟩ := hi.ex
  have H := hid h
  have HI := hid hi
  have HN := hid hn
  have HM := hid hm
  have HD := hid hd
  have HDI := hid hdi
  clear h hi hn hm hd hdi
  go_enter Try.func12, Try.ntmps12
  go_wp2_with fail
  refine (gr_first w).mono ?_
  rintro e w0 ⟨rfl, b0⟩
  have B0 := hid b0
  have z0 : w.heap.size ≤ w0.heap.size := b0.size
  have hB0 : B ≤ w0.heap.size := by omega
  clear b0
  by_cases hn1 : n ≤ 40
  · by_cases hm1 : m ≤ 40
    · go_wp2_with fail
      refine (gr_made (H.out.below (B0.out.mono hB)) HN.out hB0 (HI.out.below (B0.out.mono hB)) HM.out HD.out HDI.out (by omega) (by omega)).mono ?_
      rintro e w1 ⟨p, vn, ve, rfl, g1, q1, b1⟩
      have HED := hid (fun x (hx : x ∈ l) => edge_in (nd := nd) hx)
      have HOK := hid (gN_ok nd (gE_ok l))
      have hL1 := gE_len l
      have hL2 := gN_len (gE l).1 nd
      rw [HN.out] at hL1
      rw [HM.out] at hL2
      obtain ⟨an, cn, rfl, -⟩ := Sl.ex q1.n
      obtain ⟨ae, ce, rfl, -⟩ := Sl.ex q1.e
      generalize gN (gE l).1 nd = N at *
      generalize (gE l).2 = E at *
      have hN9 : N.length ≤ 200 := by omega
      have hE9 : E.length ≤ 40 := by omega
      have z1 : w0.heap.size ≤ w1.heap.size := b1.size
      have B2 := hid ((B0.out.trans (b1.mono z0)).alloc (by omega) (.cells #[.slice an N.length cn, .slice ae E.length ce] 63))
      have G2 := hid ((g1.below ((Below.refl w1.heap.size w1).alloc (Nat.le_refl _) (.cells #[.slice an N.length cn, .slice ae E.length ce] 63)) (Nat.le_refl _)).raise (hi' := (w1.alloc (.cells #[.slice an N.length cn, .slice ae E.length ce] 63)).heap.size) (by simp))
      have HDN := hid g1.domN
      have HRG := hid (q1.below ((Below.refl w1.heap.size w1).alloc (Nat.le_refl _) (.cells #[.slice an N.length cn, .slice ae E.length ce] 63)))
      have HR1 := hid (row_new w1 (.cells #[.slice an N.length cn, .slice ae E.length ce] 63))
      clear g1 q1 b1 hL1 hL2 B0
      generalize hnl : N.length = nl at *
      generalize hel : E.length = el at *
      have HNL := hid hnl
      clear hnl
      have hel' : E.length ≤ 40 := by omega
      have hnl' : N.length ≤ 200 := by rw [HNL.out]; omega
      obtain ⟨w2, hw2⟩ : ∃ w2, w2 = w1.alloc (.cells #[.slice an nl cn, .slice ae el ce] 63) := ⟨_, rfl⟩
      rw [← hw2] at G2 B2 HRG HR1
      have z2 : w1.heap.size + 1 ≤ w2.heap.size := by rw [hw2, World.size_alloc]; omega
      have HW2 := hid hw2
      clear hw2 hel
      go_wp2
      rw [← HW2.out]
      have d0 : w2.cell? ⟨w1.heap.size, 0, none⟩ = some (.slice an nl cn) := row_cell HR1.out 0
      have d1 : w2.cell? ⟨w1.heap.size, 1, none⟩ = some (.slice ae el ce) := row_cell HR1.out 1
      refine wp_region_x [0, 0, 3, 1, 0, 2, 2, 0] [0, 1, 3, 4, 2, 5, 6, 7] (by kernel_rfl) (by kernel_rfl) rfl (by kernel_rfl) ?_
      simp only [selX, guardAt, List.getElem?_cons_zero, List.getElem?_cons_succ, List.getD_cons_zero, List.getD_cons_succ]
      repeat (first
        | (refine wpL_p (fun K hK => ?_); go_simp; refine hK _ _ ?_; clear hK K)
        | (refine wpL_r (fun K hK => ?_); apply Exists.intro; refine ⟨fun w2 hw2 => ?_, hK _ _ ?_⟩; (have hk1 := hw2.cell; have hk3 := hw2.heap; clear hw2; go_simp; with_reducible rfl); clear hK K; simp only [Act.put, List.setIfInBounds_toArray, List.set_cons_zero, List.set_cons_succ])
        | (refine wpL_yes rfl rfl ?_)
        | (refine wpL_no rfl rfl (fun K hK => ?_); simp only [Act.put, List.setIfInBounds_toArray, List.set_cons_zero, List.set_cons_succ]; refine hK _ _ ?_; clear hK K)
        | (refine wpL_nil ?_))
      refine wpL_k (fun K hK => ?_)
      go_simp
      have hnl2 : nl ≤ 200 := hN9
      have hel2 : E.length ≤ 40 := hel'
      have BD := hid (below_drewN w2.heap.size w2 1)
      refine (gr_reach (G2.out.below (show Below w2.heap.size w2 w2.drew from BD.out) (Nat.le_refl _)) (Nat.le_refl _) (by omega) a ha).mono ?_
      rintro e w3 ⟨v3, R3, rfl, h3, hr3, b3⟩
      refine hK _ _ (Keeps.of_below b3) ?_
      clear hK K
      have b3' : Below w2.heap.size w2 w3 := BD.out.trans b3
      have X3 := hid (show LI w3 v3 R3 from h3.sl)
      have HR3 := hid hr3
      have G3 := hid (G2.out.below b3' (Nat.le_refl _))
      have RG3 := hid (HRG.out.below b3')
      have R3' := hid (row_below HR1.out b3' (by omega))
      have B3 := hid (B2.out.trans (b3'.mono B2.out.size))
      have z3 : w2.heap.size ≤ w3.heap.size := b3.size
      clear d0 d1 h3 b3 hr3 b3' G2 HRG HR1 B2 HW2 BD
      repeat (first
        | (refine wpL_p (fun K hK => ?_); go_simp; refine hK _ _ ?_; clear hK K)
        | (refine wpL_r (fun K hK => ?_); apply Exists.intro; refine ⟨fun w2 hw2 => ?_, hK _ _ ?_⟩; (have hk1 := hw2.cell; have hk3 := hw2.heap; clear hw2; go_simp; with_reducible rfl); clear hK K; simp only [Act.put, List.setIfInBounds_toArray, List.set_cons_zero, List.set_cons_succ])
        | (refine wpL_yes rfl rfl ?_)
        | (refine wpL_no rfl rfl (fun K hK => ?_); simp only [Act.put, List.setIfInBounds_toArray, List.set_cons_zero, List.set_cons_succ]; refine hK _ _ ?_; clear hK K)
        | (refine wpL_nil ?_))
      refine wpL_e (fun K hK => ?_)
      go_simp
      refine (rg_reach RG3.out (by omega) a).mono ?_
      rintro e w4 ⟨v4, R4, rfl, h4, hr4, b4⟩
      refine hK _ _ ?_
      clear hK K
      have h34 := hr4.uniq HR3.out
      subst h34
      have X4 := hid (show LI w4 v3 R4 from Sl.up X3.out (Keep.of_below b4))
      have Y4 := hid h4
      have G4 := hid (G3.out.below (b4.mono z3) (Nat.le_refl _))
      have RG4 := hid (RG3.out.below b4)
      have R4' := hid (row_below R3'.out b4 (by omega))
      have B4 := hid (B3.out.trans (b4.mono B3.out.size))
      have z4 : w2.heap.size ≤ w4.heap.size := Nat.le_trans z3 b4.size
      clear h4 hr4 b4 X3 G3 RG3 R3' B3 HR3
      repeat (first
        | (refine wpL_p (fun K hK => ?_); go_simp; refine hK _ _ ?_; clear hK K)
        | (refine wpL_r (fun K hK => ?_); apply Exists.intro; refine ⟨fun w2 hw2 => ?_, hK _ _ ?_⟩; (have hk1 := hw2.cell; have hk3 := hw2.heap; clear hw2; go_simp; with_reducible rfl); clear hK K; simp only [Act.put, List.setIfInBounds_toArray, List.set_cons_zero, List.set_cons_succ])
        | (refine wpL_yes rfl rfl ?_)
        | (refine wpL_no rfl rfl (fun K hK => ?_); simp only [Act.put, List.setIfInBounds_toArray, List.set_cons_zero, List.set_cons_succ]; refine hK _ _ ?_; clear hK K)
        | (refine wpL_nil ?_))
      refine wpL_e (fun K hK => ?_)
      go_simp
      refine (same_ints X4.out Y4.out).mono ?_
      rintro e w5 ⟨rfl, b5⟩
      refine hK _ _ ?_
      clear hK K
      have G5 := hid (G4.out.below (b5.mono z4) (Nat.le_refl _))
      have RG5 := hid (RG4.out.below b5)
      have R5' := hid (row_below R4'.out b5 (by omega))
      have B5 := hid (B4.out.trans (b5.mono B4.out.size))
      have z5 : w2.heap.size ≤ w5.heap.size := Nat.le_trans z4 b5.size
      clear b5 X4 Y4 G4 RG4 R4' B4
      repeat (first
        | (refine wpL_p (fun K hK => ?_); go_simp; refine hK _ _ ?_; clear hK K)
        | (refine wpL_r (fun K hK => ?_); apply Exists.intro; refine ⟨fun w2 hw2 => ?_, hK _ _ ?_⟩; (have hk1 := hw2.cell; have hk3 := hw2.heap; clear hw2; go_simp; with_reducible rfl); clear hK K; simp only [Act.put, List.setIfInBounds_toArray, List.set_cons_zero, List.set_cons_succ])
        | (refine wpL_yes rfl rfl ?_)
        | (refine wpL_no rfl rfl (fun K hK => ?_); simp only [Act.put, List.setIfInBounds_toArray, List.set_cons_zero, List.set_cons_succ]; refine hK _ _ ?_; clear hK K)
        | (refine wpL_nil ?_))
      have d0 : w5.cell? ⟨w1.heap.size, 0, none⟩ = some (.slice an nl cn) := row_cell R5'.out 0
      have d1 : w5.cell? ⟨w1.heap.size, 1, none⟩ = some (.slice ae el ce) := row_cell R5'.out 1
      go_wp2
      refine wp_region_x [0, 3, 1, 2, 2, 0] [0, 2, 1, 3, 4, 5] (by kernel_rfl) (by kernel_rfl) rfl (by kernel_rfl) ?_
      simp only [selX, guardAt, List.getElem?_cons_zero, List.getElem?_cons_succ, List.getD_cons_zero, List.getD_cons_succ]
      repeat (first
        | (refine wpL_p (fun K hK => ?_); go_simp; refine hK _ _ ?_; clear hK K)
        | (refine wpL_r (fun K hK => ?_); apply Exists.intro; refine ⟨fun w2 hw2 => ?_, hK _ _ ?_⟩; (have hk1 := hw2.cell; have hk3 := hw2.heap; clear hw2; go_simp; with_reducible rfl); clear hK K; simp only [Act.put, List.setIfInBounds_toArray, List.set_cons_zero, List.set_cons_succ])
        | (refine wpL_yes rfl rfl ?_)
        | (refine wpL_no rfl rfl (fun K hK => ?_); simp only [Act.put, List.setIfInBounds_toArray, List.set_cons_zero, List.set_cons_succ]; refine hK _ _ ?_; clear hK K)
        | (refine wpL_nil ?_))
      refine wpL_k (fun K hK => ?_)
      go_simp
      have BD := hid (below_drewN w5.heap.size w5 1)
      refine (gr_cycle (G5.out.below ((show Below w5.heap.size w5 w5.drew from BD.out).mono z5) (Nat.le_refl _)) z5 (by omega) (by omega)).mono ?_
      rintro e w6 ⟨v6, c6, rfl, h6, hr6, b6⟩
      refine hK _ _ (Keeps.of_below b6) ?_
      clear hK K
      have b6' : Below w5.heap.size w5 w6 := BD.out.trans b6
      have X6 := hid (show LI w6 v6 c6 from h6.sl)
      have HR6 := hid hr6
      have G6 := hid (G5.out.below (b6'.mono z5) (Nat.le_refl _))
      have RG6 := hid (RG5.out.below b6')
      have R6' := hid (row_below R5'.out b6' (by omega))
      have B6 := hid (B5.out.trans (b6'.mono B5.out.size))
      have z6 : w2.heap.size ≤ w6.heap.size := Nat.le_trans z5 b6.size
      clear d0 d1 h6 b6 hr6 b6' G5 RG5 R5' B5 BD
      repeat (first
        | (refine wpL_p (fun K hK => ?_); go_simp; refine hK _ _ ?_; clear hK K)
        | (refine wpL_r (fun K hK => ?_); apply Exists.intro; refine ⟨fun w2 hw2 => ?_, hK _ _ ?_⟩; (have hk1 := hw2.cell; have hk3 := hw2.heap; clear hw2; go_simp; with_reducible rfl); clear hK K; simp only [Act.put, List.setIfInBounds_toArray, List.set_cons_zero, List.set_cons_succ])
        | (refine wpL_yes rfl rfl ?_)
        | (refine wpL_no rfl rfl (fun K hK => ?_); simp only [Act.put, List.setIfInBounds_toArray, List.set_cons_zero, List.set_cons_succ]; refine hK _ _ ?_; clear hK K)
        | (refine wpL_nil ?_))
      refine wpL_e (fun K hK => ?_)
      go_simp
      refine (rg_cycle RG6.out HOK.out (by omega) (by omega)).mono ?_
      rintro e w7 ⟨v7, c7, rfl, h7, hr7, b7⟩
      refine hK _ _ ?_
      clear hK K
      have h67 := hr7.uniq HR6.out
      subst h67
      have X7 := hid (show LI w7 v6 c7 from Sl.up X6.out (Keep.of_below b7))
      have Y7 := hid h7
      have G7 := hid (G6.out.below (b7.mono z6) (Nat.le_refl _))
      have RG7 := hid (RG6.out.below b7)
      have R7' := hid (row_below R6'.out b7 (by omega))
      have B7 := hid (B6.out.trans (b7.mono B6.out.size))
      have z7 : w2.heap.size ≤ w7.heap.size := Nat.le_trans z6 b7.size
      clear h7 hr7 b7 X6 G6 RG6 R6' B6 HR6
      repeat (first
        | (refine wpL_p (fun K hK => ?_); go_simp; refine hK _ _ ?_; clear hK K)
        | (refine wpL_r (fun K hK => ?_); apply Exists.intro; refine ⟨fun w2 hw2 => ?_, hK _ _ ?_⟩; (have hk1 := hw2.cell; have hk3 := hw2.heap; clear hw2; go_simp; with_reducible rfl); clear hK K; simp only [Act.put, List.setIfInBounds_toArray, List.set_cons_zero, List.set_cons_succ])
        | (refine wpL_yes rfl rfl ?_)
        | (refine wpL_no rfl rfl (fun K hK => ?_); simp only [Act.put, List.setIfInBounds_toArray, List.set_cons_zero, List.set_cons_succ]; refine hK _ _ ?_; clear hK K)
        | (refine wpL_nil ?_))
      refine wpL_e (fun K hK => ?_)
      go_simp
      refine (same_ints X7.out Y7.out).mono ?_
      rintro e w8 ⟨rfl, b8⟩
      refine hK _ _ ?_
      clear hK K
      have G8 := hid (G7.out.below (b8.mono z7) (Nat.le_refl _))
      have RG8 := hid (RG7.out.below b8)
      have R8' := hid (row_below R7'.out b8 (by omega))
      have B8 := hid (B7.out.trans (b8.mono B7.out.size))
      have z8 : w2.heap.size ≤ w8.heap.size := Nat.le_trans z7 b8.size
      clear b8 X7 Y7 G7 RG7 R7' B7
      repeat (first
        | (refine wpL_p (fun K hK => ?_); go_simp; refine hK _ _ ?_; clear hK K)
        | (refine wpL_r (fun K hK => ?_); apply Exists.intro; refine ⟨fun w2 hw2 => ?_, hK _ _ ?_⟩; (have hk1 := hw2.cell; have hk3 := hw2.heap; clear hw2; go_simp; with_reducible rfl); clear hK K; simp only [Act.put, List.setIfInBounds_toArray, List.set_cons_zero, List.set_cons_succ])
        | (refine wpL_yes rfl rfl ?_)
        | (refine wpL_no rfl rfl (fun K hK => ?_); simp only [Act.put, List.setIfInBounds_toArray, List.set_cons_zero, List.set_cons_succ]; refine hK _ _ ?_; clear hK K)
        | (refine wpL_nil ?_))
      go_wp2_with fail
      refine (gr_topo G8.out z8 (by omega) (by omega)).mono ?_
      rintro e w9 ⟨v9, o9, rfl, h9, e9, b9⟩
      obtain ⟨a9, c9, rfl, hm9⟩ := h9.sl.ex
      have L9 := hid (show LI w9 (.slice a9 (o9.getD []).length c9) (o9.getD []) from h9.sl)
      have E9 := hid e9
      have G9 := hid (G8.out.below (b9.mono z8) (Nat.le_refl _))
      have RG9 := hid (RG8.out.below b9)
      have R9 := hid (row_below R8'.out b9 (by omega))
      have B9 := hid (B8.out.trans (b9.mono B8.out.size))
      have z9 : w2.heap.size ≤ w9.heap.size := Nat.le_trans z8 b9.size
      have d0 : w9.cell? ⟨w1.heap.size, 0, none⟩ = some (.slice an nl cn) := row_cell R9.out 0
      have d1 : w9.cell? ⟨w1.heap.size, 1, none⟩ = some (.slice ae el ce) := row_cell R9.out 1
      clear h9 e9 b9 G8 RG8 R8' B8
      generalize hn9 : (o9.getD []).length = n9 at *
      have HN9' := hid hn9
      clear hn9
      go_wp2_with fail
      refine (rg_topo RG9.out (by omega)).mono ?_
      rintro e wA ⟨vA, oA, rfl, hA, eA, bA⟩
      rw [← E9.out] at eA
      subst eA
      obtain ⟨aA, cA, rfl, hmA⟩ := Sl.ex hA
      have LA := hid hA
      have L9A := hid (show LI wA (.slice a9 n9 c9) (oA.getD []) from Sl.up L9.out (Keep.of_below bA))
      have GA := hid (G9.out.below (bA.mono z9) (Nat.le_refl _))
      have RGA := hid (RG9.out.below bA)
      have RA := hid (row_below R9.out bA (by omega))
      have BA := hid (B9.out.trans (bA.mono B9.out.size))
      have zA : w2.heap.size ≤ wA.heap.size := Nat.le_trans z9 bA.size
      clear hA bA G9 RG9 R9 B9 L9 d0 d1
      go_wp2_with fail
      refine (same_ints (l := oA.getD []) L9A.out LA.out).mono ?_
      rintro e wB ⟨rfl, bB⟩
      have GB := hid (GA.out.below (bB.mono zA) (Nat.le_refl _))
      have RGB := hid (RGA.out.below bB)
      have RB := hid (row_below RA.out bB (by omega))
      have BB := hid (BA.out.trans (bB.mono BA.out.size))
      have zB : w2.heap.size ≤ wB.heap.size := Nat.le_trans zA bB.size
      have hne : ∀ q : Bool, (q != q) = false := fun q => by cases q <;> rfl
      have hnq := hne oA.isSome
      clear bB GA RGA RA BA LA L9A hne
      go_wp2_with fail
      refine (gr_parts GB.out zB (by omega) (by omega)).mono ?_
      rintro e wC ⟨vC, vs, Q, rfl, hC, hL, hQ, bC⟩
      obtain ⟨aC, cC, rfl, hmC⟩ := hC.sl.ex
      have VC := hid hC
      have QC := hid hL
      have GC := hid (GB.out.below (bC.mono zB) (Nat.le_refl _))
      have RGC := hid (RGB.out.below bC)
      have RC := hid (row_below RB.out bC (by omega))
      have BC := hid (BB.out.trans (bC.mono BB.out.size))
      have zC : w2.heap.size ≤ wC.heap.size := Nat.le_trans zB bC.size
      have d0 : wC.cell? ⟨w1.heap.size, 0, none⟩ = some (.slice an nl cn) := row_cell RC.out 0
      have d1 : wC.cell? ⟨w1.heap.size, 1, none⟩ = some (.slice ae el ce) := row_cell RC.out 1
      clear hC hL bC GB RGB RB BB
      subst hQ
      generalize hqn : vs.length = qn at *
      have HVN := hid hqn
      clear hqn
      go_wp2_with fail
      refine (rg_parts RGC.out HOK.out (by omega) (by omega)).mono ?_
      rintro e wD ⟨vd', vD, dD, vs2, rfl, hP, bD⟩
      have HVN2 : vs2.length = qn := by rw [hP.len, ← QC.out.1]; exact HVN.out
      obtain ⟨aD, cD, rfl, hmD⟩ := hP.own.sl.ex
      rw [HVN2] at hmD ⊢
      have HV2 := hid HVN2
      have PD := hid hP
      have VD := hid (OwnF.below VC.out bD)
      have QD := hid (QC.out.keep (Keep.of_below bD))
      have GD := hid (GC.out.below (bD.mono zC) (Nat.le_refl _))
      have RGD := hid (RGC.out.below bD)
      have RD := hid (row_below RC.out bD (by omega))
      have BD := hid (BC.out.trans (bD.mono BC.out.size))
      have zD : w2.heap.size ≤ wD.heap.size := Nat.le_trans zC bD.size
      clear hP bD VC QC GC RGC RC BC d0 d1 HVN2
      go_wp2_with fail
      go_loopw [19] (fun i wr => ∃ j : Nat, j ≤ qn ∧ i = .int .i64 j ∧ Below wD.heap.size wD wr) (fun i _ => qn - (intOf i).toNat)
      case atStart => exact ⟨0, by omega, by go_num, Below.refl _ _⟩
      case round =>
        obtain ⟨j, hj, rfl, hB⟩ := hrel
        have B5 := hid hB
        have z5' : wD.heap.size ≤ wr.heap.size := hB.size
        clear hB
        by_cases hlt : j < qn
        · obtain ⟨q, hq⟩ : ∃ q, (partsF (prs E) N)[j]? = some q := ⟨_, List.getElem?_eq_getElem (by rw [← QD.out.1, HVN.out]; exact hlt)⟩
          obtain ⟨u, hu⟩ : ∃ u, vs[j]? = some u := ⟨_, List.getElem?_eq_getElem (by rw [HVN.out]; exact hlt)⟩
          obtain ⟨u2, hu2⟩ : ∃ u, vs2[j]? = some u := ⟨_, List.getElem?_eq_getElem (by rw [HV2.out]; exact hlt)⟩
          have hl1 := (QD.out.2 j u q hu hq).sl
          have hl2 := ((PD.out.at' j u2 q hu2 hq).1).sl
          obtain ⟨gv, rfl, hgv, cv⟩ := OwnV.val (OwnF.below VD.out B5.out) HVN.out hu
          obtain ⟨gv2, rfl, hgv2, cv2⟩ := OwnV.val (n := qn) (by have h := OwnF.below PD.out.own B5.out; rw [HV2.out] at h; exact h) HV2.out hu2
          obtain ⟨au, cu, rfl, -⟩ := Sl.ex hl1
          obtain ⟨au2, cu2, rfl, -⟩ := Sl.ex hl2
          have L1 := hid (show LI wr.drew (.slice au q.length cu) q from Sl.up hl1 (Keep.of_below B5.out.drew))
          have L2 := hid (show LI wr.drew (.slice au2 q.length cu2) q from Sl.up hl2 (Keep.of_below B5.out.drew))
          clear hl1 hl2 hu hu2 hq
          generalize q.length = ql at *
          go_wp2
          refine wp_region_x [0, 0, 0, 1, 0, 0, 0, 1, 2, 0] [0, 1, 2, 3, 4, 5, 6, 7, 8, 9] (by kernel_rfl) (by kernel_rfl) rfl (by kernel_rfl) ?_
          simp only [selX, guardAt, List.getElem?_cons_zero, List.getElem?_cons_succ, List.getD_cons_zero, List.getD_cons_succ]
          repeat (first
            | (refine wpL_p (fun K hK => ?_); go_simp; refine hK _ _ ?_; clear hK K)
            | (refine wpL_r (fun K hK => ?_); apply Exists.intro; refine ⟨fun w2 hw2 => ?_, hK _ _ ?_⟩; (have hk1 := hw2.cell; have hk3 := hw2.heap; clear hw2; go_simp; with_reducible rfl); clear hK K; simp only [Act.put, List.setIfInBounds_toArray, List.set_cons_zero, List.set_cons_succ])
            | (refine wpL_yes rfl rfl ?_)
            | (refine wpL_no rfl rfl (fun K hK => ?_); simp only [Act.put, List.setIfInBounds_toArray, List.set_cons_zero, List.set_cons_succ]; refine hK _ _ ?_; clear hK K)
            | (refine wpL_nil ?_))
          refine wpL_e (fun K hK => ?_)
          go_simp
          refine (same_ints L1.out L2.out).mono ?_
          rintro e wE ⟨rfl, bE⟩
          refine hK _ _ ?_
          clear hK K
          have BE := hid (B5.out.drew.trans (bE.mono z5'))
          clear bE L1 L2 cv cv2
          repeat (first
            | (refine wpL_p (fun K hK => ?_); go_simp; refine hK _ _ ?_; clear hK K)
            | (refine wpL_r (fun K hK => ?_); apply Exists.intro; refine ⟨fun w2 hw2 => ?_, hK _ _ ?_⟩; (have hk1 := hw2.cell; have hk3 := hw2.heap; clear hw2; go_simp; with_reducible rfl); clear hK K; simp only [Act.put, List.setIfInBounds_toArray, List.set_cons_zero, List.set_cons_succ])
            | (refine wpL_yes rfl rfl ?_)
            | (refine wpL_no rfl rfl (fun K hK => ?_); simp only [Act.put, List.setIfInBounds_toArray, List.set_cons_zero, List.set_cons_succ]; refine hK _ _ ?_; clear hK K)
            | (refine wpL_nil ?_))
          go_wp2_with fail
          go_roundw
          case rel => exact ⟨j + 1, by omega, by go_num, BE.out⟩
          case measure => simp [intOf]; omega
        · obtain rfl : j = qn := by omega
          have GE := hid ((GD.out.below (B5.out.mono zD) (Nat.le_refl _)).raise (hi' := wr.heap.size) (by omega))
          have RGE := hid (RGD.out.below B5.out)
          have RE := hid (row_below RD.out B5.out (by omega))
          have BE := hid (BD.out.trans (B5.out.mono BD.out.size))
          have d0 : wr.cell? ⟨w1.heap.size, 0, none⟩ = some (.slice an nl cn) := row_cell RE.out 0
          have d1 : wr.cell? ⟨w1.heap.size, 1, none⟩ = some (.slice ae el ce) := row_cell RE.out 1
          clear GD RGD RD BD
          go_wp2_with fail
          refine (gr_is GE.out (Nat.le_refl _) (by omega) (by omega) RGE.out).mono ?_
          rintro e wF ⟨rfl, bF⟩
          have BF := hid (BE.out.trans (bF.mono BE.out.size))
          clear bF d0 d1
          go_wp2
          go_ret
          exact ⟨rfl, BF.out⟩
    · go_wp2
      go_ret
      exact ⟨rfl, B0.out⟩
  · go_wp2
    go_ret
    exact ⟨rfl, B0.out⟩
end
end Go.Proofs.Ytlmeblhcipkgmaa
