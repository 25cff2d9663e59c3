/- The law that plays with graphs. Conditions: those of each theorem, as typed. -/
import Derived.Test.YtlmeblhcipkgmaaGrJ
import Derived.Test.YtlmeblhcipkgmaaGsC
import Derived.Test.YtlmeblhcipkgmaaGrR
namespace Go.Proofs.Ytlmeblhcipkgmaa
open Go.RowKit Go.Maps
set_option linter.unusedVariables false
attribute [local irreducible] wpL

section
variable {w : World} {vd vi : Value}
set_option maxRecDepth 100000 in
set_option maxHeartbeats 4000000 in
theorem law_grplays {l : List Tr} {nd : List Int} {n m B : Nat} (h : Sl w B 3 vd n (l.flatMap trC)) (hn : l.length = n) (hB : B ≤ w.heap.size) (hi : Sl w B 1 vi m (nd.flatMap intC)) (hm : nd.length = m) (hd : ∀ x ∈ l, dI x.1 ∧ dI x.2.1 ∧ dI x.2.2) (hdi : ∀ x ∈ nd, dI x) (a c k : Int) (ha : dI a) (hc : dI c) (hk : dI k) :
    Calls Try.prog 11 #[vd, vi, .int .i64 a, .int .i64 c, .int .i64 k] w fun e w' => e = .returned (.bool true) ∧ Below w.heap.size w w' := by
  obtain ⟨al, cl, rfl, hal⟩ := h.ex
  obtain ⟨ai, ci, rfl, hai⟩ := hi.ex
  have H := hid h
  have HI := hid hi
  have HN := hid hn
  have HM := hid hm
  have HD := hid hd
  have HDI := hid hdi
  clear h hi hn hm hd hdi
  go_enter Try.func11, Try.ntmps11
  go_wp2_with fail
  refine (gr_first w).mono ?_
  rintro e w0 ⟨rfl, b0⟩
  have B0 := hid b0
  have z0 : w.heap.size ≤ w0.heap.size := b0.size
  clear b0
  by_cases hn1 : n ≤ 40
  · by_cases hm1 : m ≤ 40
    · go_wp2_with fail
      refine (gr_new _).mono ?_
      rintro e w1 ⟨p, rfl, g1, b1⟩
      have B1 := hid (B0.out.trans (b1.mono z0))
      have z1 : w0.heap.size ≤ w1.heap.size := b1.size
      have G1 := hid (g1.below ((Below.refl w1.heap.size w1).alloc (Nat.le_refl _) (.cells #[.slice none 0 0, .slice none 0 0] 63)) (Nat.le_refl _))
      have R2 := hid (row_new w1 (.cells #[.slice none 0 0, .slice none 0 0] 63))
      have B2 := hid (B1.out.alloc B1.out.size (.cells #[.slice none 0 0, .slice none 0 0] 63))
      clear g1 b1 B1 B0
      go_wp2_with fail
      obtain ⟨w2, hw2⟩ : ∃ w2, w2 = w1.alloc (.cells #[.slice none 0 0, .slice none 0 0] 63) := ⟨_, rfl⟩
      have z2 : w1.heap.size + 1 ≤ w2.heap.size := by rw [hw2, World.size_alloc]; exact Nat.le_refl _
      rw [← hw2] at G1 R2 B2 ⊢
      have G2 := hid (G1.out.raise (hi' := w2.heap.size) (by omega))
      obtain ⟨hv, hhv⟩ : ∃ hv, hv = w1.heap.size := ⟨_, rfl⟩
      rw [← hhv] at R2 z2 ⊢
      have hvz : w0.heap.size ≤ hv := by omega
      have P0 := hid (RG.nil w2)
      clear hw2 hhv G1
      go_loopw [14] (fun i wr => ∃ (q : Nat) (vn ve : Value), q ≤ n ∧ i = .int .i64 q ∧ wr.heap[hv]? = some (.cells #[vn, ve] 63 (0, 0)) ∧
        GrAt wr w0.heap.size wr.heap.size p (gE (l.take q)).1 (gE (l.take q)).2 ∧ RG wr vn ve (gE (l.take q)).1 (gE (l.take q)).2 ∧ Below w.heap.size w wr) (fun i _ => n - (intOf i).toNat)
      case atStart => exact ⟨0, .slice none 0 0, .slice none 0 0, by omega, by go_num, R2.out, G2.out, P0.out, B2.out⟩
      case round =>
        obtain ⟨q, vn, ve, hq, rfl, hr2, hG, hP, hB2⟩ := hrel
        obtain ⟨an, cn, nn, rfl, hnn, hnm, -⟩ := hP.n.open
        obtain ⟨ae, ce, ne, rfl, hne, hem, -⟩ := hP.e.open
        have hL1 := gE_len (l.take q)
        have hkl : (l.take q).length ≤ 40 := by rw [List.length_take]; omega
        have HSN := hid (gE_snoc (l.take q))
        have HALL := hid (fun h : n ≤ q => show l.take q = l from List.take_of_length_le (by rw [HN.out]; exact h))
        have HOK := hid (gE_ok (l.take q))
        generalize hGG : gE (l.take q) = GG at *
        obtain ⟨N, E⟩ := GG
        have HGG0 := hid hGG
        simp only at hL1 hG hP hnn hne
        clear hGG
        have hN9 : N.length ≤ 80 := by omega
        have hE9 : E.length ≤ 40 := by omega
        have R2 := hid hr2
        have G3 := hid hG
        have P3 := hid hP
        have B3 := hid hB2
        have hz := hB2.size
        have hvl := row_lt hr2
        clear hr2 hG hP hB2 hL1 hnn hne G2 P0 B2
        by_cases hlt : q < n
        · obtain ⟨b, off, x, rfl, hb, hx, c1, c2, c3⟩ := (H.out.below (B3.out.mono hB)).trs hlt HN.out
          have hxd := HD.out x (List.mem_of_getElem? hx)
          have HT := hid (take_step hx)
          clear hx
          have d0 : wr.cell? ⟨hv, 0, none⟩ = some (.slice an nn cn) := row_cell R2.out 0
          have d1 : wr.cell? ⟨hv, 1, none⟩ = some (.slice ae ne ce) := row_cell R2.out 1
          go_wp2_with fail
          have B4a := (Below.refl wr.heap.size wr).alloc (Nat.le_refl _) (.cells #[.int .i64 x.1, .int .i64 x.2.1, .int .i64 x.2.2] 75)
          have HBA := hid (B3.out.trans (B4a.mono hz))
          have HPA := hid (P3.out.below B4a)
          have HGA := hid ((G3.out.below B4a (Nat.le_refl _)).raise B4a.size)
          have HRA := hid (row_below R2.out B4a hvl)
          have RXA := hid (row_new wr (.cells #[.int .i64 x.1, .int .i64 x.2.1, .int .i64 x.2.2] 75))
          have za : wr.heap.size + 1 ≤ (wr.alloc (.cells #[.int .i64 x.1, .int .i64 x.2.1, .int .i64 x.2.2] 75)).heap.size := by simp
          obtain ⟨wa, hwa⟩ : ∃ wa, wa = wr.alloc (.cells #[.int .i64 x.1, .int .i64 x.2.1, .int .i64 x.2.2] 75) := ⟨_, rfl⟩
          rw [← hwa] at HBA HPA HGA HRA RXA za ⊢
          clear hwa B4a c1 c2 c3 d0 d1 G3 P3 B3 R2
          refine (rg_has (vn := .slice an nn cn) HPA.out.e x.1 x.2.1 x.2.2).mono ?_
          rintro e w4 ⟨rfl, b4⟩
          have G4 := hid ((HGA.out.below b4 (Nat.le_refl _)).raise b4.size)
          have P4 := hid (HPA.out.below b4)
          have r4 := row_below HRA.out b4 (by omega)
          have rx := row_below RXA.out b4 (by omega)
          have R4 := hid r4
          have RX := hid rx
          have B4 := hid (HBA.out.trans (b4.mono (by omega)))
          have z4 : wr.heap.size + 1 ≤ w4.heap.size := Nat.le_trans za b4.size
          have d0 : w4.cell? ⟨hv, 0, none⟩ = some (.slice an nn cn) := row_cell r4 0
          have d1 : w4.cell? ⟨hv, 1, none⟩ = some (.slice ae ne ce) := row_cell r4 1
          have x0 : w4.cell? ⟨wr.heap.size, 0, none⟩ = some (.int .i64 x.1) := row_cell rx 0
          have x1 : w4.cell? ⟨wr.heap.size, 1, none⟩ = some (.int .i64 x.2.1) := row_cell rx 1
          have x2 : w4.cell? ⟨wr.heap.size, 2, none⟩ = some (.int .i64 x.2.2) := row_cell rx 2
          clear b4 r4 rx HBA HPA HGA HRA RXA
          by_cases hin : (x.1, x.2.1, x.2.2) ∈ E
          · have hd1 : decide ((x.1, x.2.1, x.2.2) ∈ E) = true := by simpa using hin
            have hd2 : decide ((x.1, x.2.1, x.2.2) ∉ E) = false := by simpa using hin
            clear hin
            rw [hd1]
            go_wp2_with fail
            refine (gr_has G4.out x.1 x.2.1 x.2.2 hxd.1 hxd.2.1 hxd.2.2).mono ?_
            rintro e w5 ⟨rfl, rfl⟩
            rw [hd1]
            go_wp2_with fail
            refine (gr_edge G4.out (Nat.le_refl _) (by omega) (by omega) x.1 x.2.1 x.2.2 hxd.1 hxd.2.1 hxd.2.2).mono ?_
            rintro e w5 ⟨rfl, g5, k5, b5⟩
            rw [hd2]
            have G5 := hid g5
            have P5 := hid (P4.out.keep k5)
            have r25 := k5.cells R4.out
            have rx5 := k5.cells RX.out
            have R5 := hid r25
            have RX5 := hid rx5
            have B5 := hid (B4.out.trans (b5.mono (by omega)))
            have z5 : w4.heap.size ≤ w5.heap.size := k5.size
            have d0 : w5.cell? ⟨hv, 0, none⟩ = some (.slice an nn cn) := row_cell r25 0
            have d1 : w5.cell? ⟨hv, 1, none⟩ = some (.slice ae ne ce) := row_cell r25 1
            have x0 : w5.cell? ⟨wr.heap.size, 0, none⟩ = some (.int .i64 x.1) := row_cell rx5 0
            have x1 : w5.cell? ⟨wr.heap.size, 1, none⟩ = some (.int .i64 x.2.1) := row_cell rx5 1
            have x2 : w5.cell? ⟨wr.heap.size, 2, none⟩ = some (.int .i64 x.2.2) := row_cell rx5 2
            clear g5 k5 b5 r25 rx5 hd1 hd2 G4 P4 R4 RX B4
            go_wp2_with fail
            refine (rg_edge P5.out HOK.out (by omega) (by omega) x.1 x.2.1 x.2.2).mono ?_
            rintro e w6 ⟨vn5, ve5, rfl, g5, b5⟩
            obtain ⟨a5, c5, rfl, hm5⟩ := Sl.ex g5.n
            obtain ⟨a6, c6, rfl, hm6⟩ := Sl.ex g5.e
            have r25 := row_below R5.out b5 (by omega)
            have e0 : w6.cell? ⟨hv, 0, none⟩ = some (.slice an nn cn) := row_cell r25 0
            have e1 : w6.cell? ⟨hv, 1, none⟩ = some (.slice ae ne ce) := row_cell r25 1
            have f1 : ∀ j, w6.frozen? ⟨hv, j, none⟩ = false := fun j => row_free r25 j
            have e1' : (w6.setCell ⟨hv, 0, none⟩ (.slice a5 (insI x.2.1 (insI x.1 N)).length c5)).cell? ⟨hv, 1, none⟩ = some (.slice ae ne ce) := (World.cell?_setCell_other _ _ _ _ (by simp)).trans e1
            have P6 := hid ((g5.set e0 (.slice a5 (insI x.2.1 (insI x.1 N)).length c5)).set e1' (.slice a6 (insT (x.1, x.2.1, x.2.2) E).length c6))
            have G6 := hid ((((G5.out.below b5 (Nat.le_refl _)).raise (hi' := w6.heap.size) b5.size).setC r25 (by decide) (.slice a5 (insI x.2.1 (insI x.1 N)).length c5) (j := 0)).setC (row_set r25 0 (.slice a5 (insI x.2.1 (insI x.1 N)).length c5)) (by decide) (.slice a6 (insT (x.1, x.2.1, x.2.2) E).length c6) (j := 1))
            have R26 := hid (row_set (row_set r25 0 (.slice a5 (insI x.2.1 (insI x.1 N)).length c5)) 1 (.slice a6 (insT (x.1, x.2.1, x.2.2) E).length c6))
            have B6 := hid (((B5.out.trans (b5.mono (by omega))).setCell (p := ⟨hv, 0, none⟩) (by show _ ≤ hv; omega) (.slice a5 (insI x.2.1 (insI x.1 N)).length c5)).setCell (p := ⟨hv, 1, none⟩) (by show _ ≤ hv; omega) (.slice a6 (insT (x.1, x.2.1, x.2.2) E).length c6))
            have z6 : w5.heap.size ≤ w6.heap.size := b5.size
            clear g5 b5 r25 e1' d0 d1 x0 x1 x2 G5 R5 RX5 P5 B5
            go_wp2_with fail
            go_roundw
            case rel => exact ⟨q + 1, _, _, by omega, by go_num, R26.out, by rw [HT.out, HSN.out]; simpa using G6.out, by rw [HT.out, HSN.out]; exact P6.out, B6.out⟩
            case measure => simp [intOf]; omega
          · have hd1 : decide ((x.1, x.2.1, x.2.2) ∈ E) = false := by simpa using hin
            have hd2 : decide ((x.1, x.2.1, x.2.2) ∉ E) = true := by simpa using hin
            clear hin
            rw [hd1]
            go_wp2_with fail
            refine (gr_has G4.out x.1 x.2.1 x.2.2 hxd.1 hxd.2.1 hxd.2.2).mono ?_
            rintro e w5 ⟨rfl, rfl⟩
            rw [hd1]
            go_wp2_with fail
            refine (gr_edge G4.out (Nat.le_refl _) (by omega) (by omega) x.1 x.2.1 x.2.2 hxd.1 hxd.2.1 hxd.2.2).mono ?_
            rintro e w5 ⟨rfl, g5, k5, b5⟩
            rw [hd2]
            have G5 := hid g5
            have P5 := hid (P4.out.keep k5)
            have r25 := k5.cells R4.out
            have rx5 := k5.cells RX.out
            have R5 := hid r25
            have RX5 := hid rx5
            have B5 := hid (B4.out.trans (b5.mono (by omega)))
            have z5 : w4.heap.size ≤ w5.heap.size := k5.size
            have d0 : w5.cell? ⟨hv, 0, none⟩ = some (.slice an nn cn) := row_cell r25 0
            have d1 : w5.cell? ⟨hv, 1, none⟩ = some (.slice ae ne ce) := row_cell r25 1
            have x0 : w5.cell? ⟨wr.heap.size, 0, none⟩ = some (.int .i64 x.1) := row_cell rx5 0
            have x1 : w5.cell? ⟨wr.heap.size, 1, none⟩ = some (.int .i64 x.2.1) := row_cell rx5 1
            have x2 : w5.cell? ⟨wr.heap.size, 2, none⟩ = some (.int .i64 x.2.2) := row_cell rx5 2
            clear g5 k5 b5 r25 rx5 hd1 hd2 G4 P4 R4 RX B4
            go_wp2_with fail
            refine (rg_edge P5.out HOK.out (by omega) (by omega) x.1 x.2.1 x.2.2).mono ?_
            rintro e w6 ⟨vn5, ve5, rfl, g5, b5⟩
            obtain ⟨a5, c5, rfl, hm5⟩ := Sl.ex g5.n
            obtain ⟨a6, c6, rfl, hm6⟩ := Sl.ex g5.e
            have r25 := row_below R5.out b5 (by omega)
            have e0 : w6.cell? ⟨hv, 0, none⟩ = some (.slice an nn cn) := row_cell r25 0
            have e1 : w6.cell? ⟨hv, 1, none⟩ = some (.slice ae ne ce) := row_cell r25 1
            have f1 : ∀ j, w6.frozen? ⟨hv, j, none⟩ = false := fun j => row_free r25 j
            have e1' : (w6.setCell ⟨hv, 0, none⟩ (.slice a5 (insI x.2.1 (insI x.1 N)).length c5)).cell? ⟨hv, 1, none⟩ = some (.slice ae ne ce) := (World.cell?_setCell_other _ _ _ _ (by simp)).trans e1
            have P6 := hid ((g5.set e0 (.slice a5 (insI x.2.1 (insI x.1 N)).length c5)).set e1' (.slice a6 (insT (x.1, x.2.1, x.2.2) E).length c6))
            have G6 := hid ((((G5.out.below b5 (Nat.le_refl _)).raise (hi' := w6.heap.size) b5.size).setC r25 (by decide) (.slice a5 (insI x.2.1 (insI x.1 N)).length c5) (j := 0)).setC (row_set r25 0 (.slice a5 (insI x.2.1 (insI x.1 N)).length c5)) (by decide) (.slice a6 (insT (x.1, x.2.1, x.2.2) E).length c6) (j := 1))
            have R26 := hid (row_set (row_set r25 0 (.slice a5 (insI x.2.1 (insI x.1 N)).length c5)) 1 (.slice a6 (insT (x.1, x.2.1, x.2.2) E).length c6))
            have B6 := hid (((B5.out.trans (b5.mono (by omega))).setCell (p := ⟨hv, 0, none⟩) (by show _ ≤ hv; omega) (.slice a5 (insI x.2.1 (insI x.1 N)).length c5)).setCell (p := ⟨hv, 1, none⟩) (by show _ ≤ hv; omega) (.slice a6 (insT (x.1, x.2.1, x.2.2) E).length c6))
            have z6 : w5.heap.size ≤ w6.heap.size := b5.size
            clear g5 b5 r25 e1' d0 d1 x0 x1 x2 G5 R5 RX5 P5 B5
            go_wp2_with fail
            go_roundw
            case rel => exact ⟨q + 1, _, _, by omega, by go_num, R26.out, by rw [HT.out, HSN.out]; simpa using G6.out, by rw [HT.out, HSN.out]; exact P6.out, B6.out⟩
            case measure => simp [intOf]; omega
        · obtain rfl : q = n := by omega
          have HE := hid (HALL.out (Nat.le_refl _))
          have HGG : Hid (gE l = (N, E)) := hid (by rw [← HE.out]; exact HGG0.out)
          clear HSN HALL HE HGG0
          go_wp2_with fail
          go_loopw [17] (fun i wr => ∃ (j : Nat) (vn ve : Value), j ≤ m ∧ i = .int .i64 j ∧ wr.heap[hv]? = some (.cells #[vn, ve] 63 (0, 0)) ∧
            GrAt wr w0.heap.size wr.heap.size p (gN N (nd.take j)) E ∧ RG wr vn ve (gN N (nd.take j)) E ∧ Below w.heap.size w wr) (fun i _ => m - (intOf i).toNat)
          case atStart => exact ⟨0, _, _, by omega, by go_num, R2.out, G3.out, P3.out, B3.out⟩
          case round =>
            obtain ⟨j, vn, ve, hj, rfl, hr2, hG, hP, hB2⟩ := hrel
            obtain ⟨an, cn, nn, rfl, hnn, hnm, -⟩ := hP.n.open
            obtain ⟨ae, ce, ne, rfl, hne, hem, -⟩ := hP.e.open
            have hL1 := gN_len N (nd.take j)
            have hkl : (nd.take j).length ≤ 40 := by rw [List.length_take]; omega
            have HSN := hid (gN_snoc N (nd.take j))
            have HALL := hid (fun h : m ≤ j => show nd.take j = nd from List.take_of_length_le (by rw [HM.out]; exact h))
            have HOK2 := hid (gN_ok (nd.take j) HOK.out)
            have HNE0 : Hid (gN N (nd.take j) = gN N (nd.take j)) := hid rfl
            generalize hNj : gN N (nd.take j) = Nj at *
            have hN10 : Nj.length ≤ 120 := by omega
            have R2 := hid hr2
            have G3 := hid hG
            have P3 := hid hP
            have B3 := hid hB2
            have hz := hB2.size
            have hvl := row_lt hr2
            have d0 : wr.cell? ⟨hv, 0, none⟩ = some (.slice an nn cn) := row_cell hr2 0
            have d1 : wr.cell? ⟨hv, 1, none⟩ = some (.slice ae ne ce) := row_cell hr2 1
            clear hr2 hG hP hB2 hL1 hnn hne hNj HNE0
            by_cases hlj : j < m
            · obtain ⟨b, off, x, rfl, hb, hx, c1⟩ := (HI.out.below (B3.out.mono hB)).ints hlj HM.out
              have hxd := HDI.out x (List.mem_of_getElem? hx)
              have HT := hid (take_step hx)
              clear hx
              by_cases hin : x ∈ Nj
              · have hd1 : decide (x ∈ Nj) = true := by simpa using hin
                have hd2 : decide (x ∉ Nj) = false := by simpa using hin
                clear hin
                go_wp2
                refine wp_region_x [1, 0, 0, 0, 1, 2, 0, 0] [0, 1, 2, 3, 4, 5, 6, 7] (by kernel_rfl) (by kernel_rfl) rfl (by kernel_rfl) ?_
                simp only [selX, guardAt, List.getElem?_cons_zero, List.getElem?_cons_succ, List.getD_cons_zero, List.getD_cons_succ]
                repeat (first
                  | (refine wpL_p (fun K hK => ?_); go_simp; refine hK _ _ ?_; clear hK K)
                  | (refine wpL_r (fun K hK => ?_); apply Exists.intro; refine ⟨fun w2 hw2 => ?_, hK _ _ ?_⟩; (have hk1 := hw2.cell; have hk3 := hw2.heap; clear hw2; go_simp; with_reducible rfl); clear hK K; simp only [Act.put, List.setIfInBounds_toArray, List.set_cons_zero, List.set_cons_succ])
                  | (refine wpL_yes rfl rfl ?_)
                  | (refine wpL_no rfl rfl (fun K hK => ?_); simp only [Act.put, List.setIfInBounds_toArray, List.set_cons_zero, List.set_cons_succ]; refine hK _ _ ?_; clear hK K)
                  | (refine wpL_nil ?_))
                refine wpL_e (fun K hK => ?_)
                go_simp
                refine (rg_hasNode (show LI wr.drew (.slice an nn cn) Nj from (show RG wr.drew _ _ Nj E from ⟨P3.out.n, P3.out.e⟩).n) x).mono ?_
                rintro e w4 ⟨rfl, b4⟩
                rw [hd1]
                refine hK _ _ ?_
                clear hK K
                have k4 := Keep.of_below b4
                have G4 := hid ((G3.out.below ((Below.refl wr.heap.size wr).drew.trans b4) (Nat.le_refl _)).raise b4.size)
                have R4 := hid (k4.cells (show wr.drew.heap[hv]? = _ from R2.out))
                have P4 := hid ((show RG wr.drew _ _ Nj E from ⟨P3.out.n, P3.out.e⟩).keep k4)
                have B4 := hid (B3.out.drew.trans (b4.mono hz))
                have z4 : wr.heap.size ≤ w4.heap.size := b4.size
                have c1' := cell_keep k4 (show wr.drew.cell? _ = _ from c1)
                clear k4 b4 c1 d0 d1 G3 P3 B3 R2
                repeat (first
                  | (refine wpL_p (fun K hK => ?_); go_simp; refine hK _ _ ?_; clear hK K)
                  | (refine wpL_r (fun K hK => ?_); apply Exists.intro; refine ⟨fun w2 hw2 => ?_, hK _ _ ?_⟩; (have hk1 := hw2.cell; have hk3 := hw2.heap; clear hw2; go_simp; with_reducible rfl); clear hK K; simp only [Act.put, List.setIfInBounds_toArray, List.set_cons_zero, List.set_cons_succ])
                  | (refine wpL_yes rfl rfl ?_)
                  | (refine wpL_no rfl rfl (fun K hK => ?_); simp only [Act.put, List.setIfInBounds_toArray, List.set_cons_zero, List.set_cons_succ]; refine hK _ _ ?_; clear hK K)
                  | (refine wpL_nil ?_))
                go_wp2_with fail
                refine (gr_node G4.out (Nat.le_refl _) (by omega) x hxd).mono ?_
                rintro e w5 ⟨rfl, g5, k5, b5⟩
                rw [hd2]
                have G5 := hid g5
                have P5 := hid (P4.out.keep k5)
                have r25 := k5.cells R4.out
                have R5 := hid r25
                have B5 := hid (B4.out.trans (b5.mono (by omega)))
                have z5 : w4.heap.size ≤ w5.heap.size := k5.size
                have c1'' := cell_keep k5 c1'
                have d0 : w5.cell? ⟨hv, 0, none⟩ = some (.slice an nn cn) := row_cell r25 0
                have d1 : w5.cell? ⟨hv, 1, none⟩ = some (.slice ae ne ce) := row_cell r25 1
                clear g5 k5 b5 r25 hd1 hd2 G4 P4 R4 B4 c1'
                go_wp2
                refine wp_region_x [1, 0, 0, 0, 1, 2, 2] [0, 1, 2, 3, 4, 5, 6] (by kernel_rfl) (by kernel_rfl) rfl (by kernel_rfl) ?_
                simp only [selX, guardAt, List.getElem?_cons_zero, List.getElem?_cons_succ, List.getD_cons_zero, List.getD_cons_succ]
                repeat (first
                  | (refine wpL_p (fun K hK => ?_); go_simp; refine hK _ _ ?_; clear hK K)
                  | (refine wpL_r (fun K hK => ?_); apply Exists.intro; refine ⟨fun w2 hw2 => ?_, hK _ _ ?_⟩; (have hk1 := hw2.cell; have hk3 := hw2.heap; clear hw2; go_simp; with_reducible rfl); clear hK K; simp only [Act.put, List.setIfInBounds_toArray, List.set_cons_zero, List.set_cons_succ])
                  | (refine wpL_yes rfl rfl ?_)
                  | (refine wpL_no rfl rfl (fun K hK => ?_); simp only [Act.put, List.setIfInBounds_toArray, List.set_cons_zero, List.set_cons_succ]; refine hK _ _ ?_; clear hK K)
                  | (refine wpL_nil ?_))
                refine wpL_e (fun K hK => ?_)
                go_simp
                refine (rg_node (show RG w5.drew _ _ Nj E from ⟨P5.out.n, P5.out.e⟩) HOK2.out.srtN (by omega) x).mono ?_
                rintro e w6 ⟨vn5, rfl, g5, b5⟩
                refine hK _ _ ?_
                clear hK K
                obtain ⟨a5, c5, rfl, hm5⟩ := Sl.ex g5.n
                have r25 := row_below (show w5.drew.heap[hv]? = _ from R5.out) b5 (by show _ < w5.heap.size; omega)
                have e0 : w6.cell? ⟨hv, 0, none⟩ = some (.slice an nn cn) := row_cell r25 0
                have e1 : w6.cell? ⟨hv, 1, none⟩ = some (.slice ae ne ce) := row_cell r25 1
                have f1 : ∀ j, w6.frozen? ⟨hv, j, none⟩ = false := fun j => row_free r25 j
                have e1' : (w6.setCell ⟨hv, 0, none⟩ (.slice a5 (insI x Nj).length c5)).cell? ⟨hv, 1, none⟩ = some (.slice ae ne ce) := (World.cell?_setCell_other _ _ _ _ (by simp)).trans e1
                have P6 := hid ((g5.set e0 (.slice a5 (insI x Nj).length c5)).set e1' (.slice ae ne ce))
                have G6 := hid ((((G5.out.below ((Below.refl w5.heap.size w5).drew.trans b5) (Nat.le_refl _)).raise (hi' := w6.heap.size) b5.size).setC r25 (by decide) (.slice a5 (insI x Nj).length c5) (j := 0)).setC (row_set r25 0 (.slice a5 (insI x Nj).length c5)) (by decide) (.slice ae ne ce) (j := 1))
                have R26 := hid (row_set (row_set r25 0 (.slice a5 (insI x Nj).length c5)) 1 (.slice ae ne ce))
                have B6 := hid (((B5.out.drew.trans (b5.mono (by show _ ≤ w5.heap.size; omega))).setCell (p := ⟨hv, 0, none⟩) (by show _ ≤ hv; omega) (.slice a5 (insI x Nj).length c5)).setCell (p := ⟨hv, 1, none⟩) (by show _ ≤ hv; omega) (.slice ae ne ce))
                have z6 : w5.heap.size ≤ w6.heap.size := b5.size
                clear g5 b5 r25 e1' d0 d1 G5 R5 P5 B5 c1''
                repeat (first
                  | (refine wpL_p (fun K hK => ?_); go_simp; refine hK _ _ ?_; clear hK K)
                  | (refine wpL_r (fun K hK => ?_); apply Exists.intro; refine ⟨fun w2 hw2 => ?_, hK _ _ ?_⟩; (have hk1 := hw2.cell; have hk3 := hw2.heap; clear hw2; go_simp; with_reducible rfl); clear hK K; simp only [Act.put, List.setIfInBounds_toArray, List.set_cons_zero, List.set_cons_succ])
                  | (refine wpL_yes rfl rfl ?_)
                  | (refine wpL_no rfl rfl (fun K hK => ?_); simp only [Act.put, List.setIfInBounds_toArray, List.set_cons_zero, List.set_cons_succ]; refine hK _ _ ?_; clear hK K)
                  | (refine wpL_nil ?_))
                refine wpL_e (fun K hK => ?_)
                go_simp
                refine hK _ _ ?_
                clear hK K e0 e1 f1
                repeat (first
                  | (refine wpL_p (fun K hK => ?_); go_simp; refine hK _ _ ?_; clear hK K)
                  | (refine wpL_r (fun K hK => ?_); apply Exists.intro; refine ⟨fun w2 hw2 => ?_, hK _ _ ?_⟩; (have hk1 := hw2.cell; have hk3 := hw2.heap; clear hw2; go_simp; with_reducible rfl); clear hK K; simp only [Act.put, List.setIfInBounds_toArray, List.set_cons_zero, List.set_cons_succ])
                  | (refine wpL_yes rfl rfl ?_)
                  | (refine wpL_no rfl rfl (fun K hK => ?_); simp only [Act.put, List.setIfInBounds_toArray, List.set_cons_zero, List.set_cons_succ]; refine hK _ _ ?_; clear hK K)
                  | (refine wpL_nil ?_))
                go_wp2_with fail
                go_roundw
                case rel => exact ⟨j + 1, _, _, by omega, by go_num, R26.out, by rw [HT.out, HSN.out]; simpa using G6.out, by rw [HT.out, HSN.out]; exact P6.out, B6.out⟩
                case measure => simp [intOf]; omega
              · have hd1 : decide (x ∈ Nj) = false := by simpa using hin
                have hd2 : decide (x ∉ Nj) = true := by simpa using hin
                clear hin
                go_wp2
                refine wp_region_x [1, 0, 0, 0, 1, 2, 0, 0] [0, 1, 2, 3, 4, 5, 6, 7] (by kernel_rfl) (by kernel_rfl) rfl (by kernel_rfl) ?_
                simp only [selX, guardAt, List.getElem?_cons_zero, List.getElem?_cons_succ, List.getD_cons_zero, List.getD_cons_succ]
                repeat (first
                  | (refine wpL_p (fun K hK => ?_); go_simp; refine hK _ _ ?_; clear hK K)
                  | (refine wpL_r (fun K hK => ?_); apply Exists.intro; refine ⟨fun w2 hw2 => ?_, hK _ _ ?_⟩; (have hk1 := hw2.cell; have hk3 := hw2.heap; clear hw2; go_simp; with_reducible rfl); clear hK K; simp only [Act.put, List.setIfInBounds_toArray, List.set_cons_zero, List.set_cons_succ])
                  | (refine wpL_yes rfl rfl ?_)
                  | (refine wpL_no rfl rfl (fun K hK => ?_); simp only [Act.put, List.setIfInBounds_toArray, List.set_cons_zero, List.set_cons_succ]; refine hK _ _ ?_; clear hK K)
                  | (refine wpL_nil ?_))
                refine wpL_e (fun K hK => ?_)
                go_simp
                refine (rg_hasNode (show LI wr.drew (.slice an nn cn) Nj from (show RG wr.drew _ _ Nj E from ⟨P3.out.n, P3.out.e⟩).n) x).mono ?_
                rintro e w4 ⟨rfl, b4⟩
                rw [hd1]
                refine hK _ _ ?_
                clear hK K
                have k4 := Keep.of_below b4
                have G4 := hid ((G3.out.below ((Below.refl wr.heap.size wr).drew.trans b4) (Nat.le_refl _)).raise b4.size)
                have R4 := hid (k4.cells (show wr.drew.heap[hv]? = _ from R2.out))
                have P4 := hid ((show RG wr.drew _ _ Nj E from ⟨P3.out.n, P3.out.e⟩).keep k4)
                have B4 := hid (B3.out.drew.trans (b4.mono hz))
                have z4 : wr.heap.size ≤ w4.heap.size := b4.size
                have c1' := cell_keep k4 (show wr.drew.cell? _ = _ from c1)
                clear k4 b4 c1 d0 d1 G3 P3 B3 R2
                repeat (first
                  | (refine wpL_p (fun K hK => ?_); go_simp; refine hK _ _ ?_; clear hK K)
                  | (refine wpL_r (fun K hK => ?_); apply Exists.intro; refine ⟨fun w2 hw2 => ?_, hK _ _ ?_⟩; (have hk1 := hw2.cell; have hk3 := hw2.heap; clear hw2; go_simp; with_reducible rfl); clear hK K; simp only [Act.put, List.setIfInBounds_toArray, List.set_cons_zero, List.set_cons_succ])
                  | (refine wpL_yes rfl rfl ?_)
                  | (refine wpL_no rfl rfl (fun K hK => ?_); simp only [Act.put, List.setIfInBounds_toArray, List.set_cons_zero, List.set_cons_succ]; refine hK _ _ ?_; clear hK K)
                  | (refine wpL_nil ?_))
                go_wp2_with fail
                refine (gr_node G4.out (Nat.le_refl _) (by omega) x hxd).mono ?_
                rintro e w5 ⟨rfl, g5, k5, b5⟩
                rw [hd2]
                have G5 := hid g5
                have P5 := hid (P4.out.keep k5)
                have r25 := k5.cells R4.out
                have R5 := hid r25
                have B5 := hid (B4.out.trans (b5.mono (by omega)))
                have z5 : w4.heap.size ≤ w5.heap.size := k5.size
                have c1'' := cell_keep k5 c1'
                have d0 : w5.cell? ⟨hv, 0, none⟩ = some (.slice an nn cn) := row_cell r25 0
                have d1 : w5.cell? ⟨hv, 1, none⟩ = some (.slice ae ne ce) := row_cell r25 1
                clear g5 k5 b5 r25 hd1 hd2 G4 P4 R4 B4 c1'
                go_wp2
                refine wp_region_x [1, 0, 0, 0, 1, 2, 2] [0, 1, 2, 3, 4, 5, 6] (by kernel_rfl) (by kernel_rfl) rfl (by kernel_rfl) ?_
                simp only [selX, guardAt, List.getElem?_cons_zero, List.getElem?_cons_succ, List.getD_cons_zero, List.getD_cons_succ]
                repeat (first
                  | (refine wpL_p (fun K hK => ?_); go_simp; refine hK _ _ ?_; clear hK K)
                  | (refine wpL_r (fun K hK => ?_); apply Exists.intro; refine ⟨fun w2 hw2 => ?_, hK _ _ ?_⟩; (have hk1 := hw2.cell; have hk3 := hw2.heap; clear hw2; go_simp; with_reducible rfl); clear hK K; simp only [Act.put, List.setIfInBounds_toArray, List.set_cons_zero, List.set_cons_succ])
                  | (refine wpL_yes rfl rfl ?_)
                  | (refine wpL_no rfl rfl (fun K hK => ?_); simp only [Act.put, List.setIfInBounds_toArray, List.set_cons_zero, List.set_cons_succ]; refine hK _ _ ?_; clear hK K)
                  | (refine wpL_nil ?_))
                refine wpL_e (fun K hK => ?_)
                go_simp
                refine (rg_node (show RG w5.drew _ _ Nj E from ⟨P5.out.n, P5.out.e⟩) HOK2.out.srtN (by omega) x).mono ?_
                rintro e w6 ⟨vn5, rfl, g5, b5⟩
                refine hK _ _ ?_
                clear hK K
                obtain ⟨a5, c5, rfl, hm5⟩ := Sl.ex g5.n
                have r25 := row_below (show w5.drew.heap[hv]? = _ from R5.out) b5 (by show _ < w5.heap.size; omega)
                have e0 : w6.cell? ⟨hv, 0, none⟩ = some (.slice an nn cn) := row_cell r25 0
                have e1 : w6.cell? ⟨hv, 1, none⟩ = some (.slice ae ne ce) := row_cell r25 1
                have f1 : ∀ j, w6.frozen? ⟨hv, j, none⟩ = false := fun j => row_free r25 j
                have e1' : (w6.setCell ⟨hv, 0, none⟩ (.slice a5 (insI x Nj).length c5)).cell? ⟨hv, 1, none⟩ = some (.slice ae ne ce) := (World.cell?_setCell_other _ _ _ _ (by simp)).trans e1
                have P6 := hid ((g5.set e0 (.slice a5 (insI x Nj).length c5)).set e1' (.slice ae ne ce))
                have G6 := hid ((((G5.out.below ((Below.refl w5.heap.size w5).drew.trans b5) (Nat.le_refl _)).raise (hi' := w6.heap.size) b5.size).setC r25 (by decide) (.slice a5 (insI x Nj).length c5) (j := 0)).setC (row_set r25 0 (.slice a5 (insI x Nj).length c5)) (by decide) (.slice ae ne ce) (j := 1))
                have R26 := hid (row_set (row_set r25 0 (.slice a5 (insI x Nj).length c5)) 1 (.slice ae ne ce))
                have B6 := hid (((B5.out.drew.trans (b5.mono (by show _ ≤ w5.heap.size; omega))).setCell (p := ⟨hv, 0, none⟩) (by show _ ≤ hv; omega) (.slice a5 (insI x Nj).length c5)).setCell (p := ⟨hv, 1, none⟩) (by show _ ≤ hv; omega) (.slice ae ne ce))
                have z6 : w5.heap.size ≤ w6.heap.size := b5.size
                clear g5 b5 r25 e1' d0 d1 G5 R5 P5 B5 c1''
                repeat (first
                  | (refine wpL_p (fun K hK => ?_); go_simp; refine hK _ _ ?_; clear hK K)
                  | (refine wpL_r (fun K hK => ?_); apply Exists.intro; refine ⟨fun w2 hw2 => ?_, hK _ _ ?_⟩; (have hk1 := hw2.cell; have hk3 := hw2.heap; clear hw2; go_simp; with_reducible rfl); clear hK K; simp only [Act.put, List.setIfInBounds_toArray, List.set_cons_zero, List.set_cons_succ])
                  | (refine wpL_yes rfl rfl ?_)
                  | (refine wpL_no rfl rfl (fun K hK => ?_); simp only [Act.put, List.setIfInBounds_toArray, List.set_cons_zero, List.set_cons_succ]; refine hK _ _ ?_; clear hK K)
                  | (refine wpL_nil ?_))
                refine wpL_e (fun K hK => ?_)
                go_simp
                refine hK _ _ ?_
                clear hK K e0 e1 f1
                repeat (first
                  | (refine wpL_p (fun K hK => ?_); go_simp; refine hK _ _ ?_; clear hK K)
                  | (refine wpL_r (fun K hK => ?_); apply Exists.intro; refine ⟨fun w2 hw2 => ?_, hK _ _ ?_⟩; (have hk1 := hw2.cell; have hk3 := hw2.heap; clear hw2; go_simp; with_reducible rfl); clear hK K; simp only [Act.put, List.setIfInBounds_toArray, List.set_cons_zero, List.set_cons_succ])
                  | (refine wpL_yes rfl rfl ?_)
                  | (refine wpL_no rfl rfl (fun K hK => ?_); simp only [Act.put, List.setIfInBounds_toArray, List.set_cons_zero, List.set_cons_succ]; refine hK _ _ ?_; clear hK K)
                  | (refine wpL_nil ?_))
                go_wp2_with fail
                go_roundw
                case rel => exact ⟨j + 1, _, _, by omega, by go_num, R26.out, by rw [HT.out, HSN.out]; simpa using G6.out, by rw [HT.out, HSN.out]; exact P6.out, B6.out⟩
                case measure => simp [intOf]; omega
            · obtain rfl : j = m := by omega
              have HSE := hid HOK2.out.srtE
              have hw0 : w0.heap.size ≤ wr.heap.size := by omega
              clear HSN HALL
              go_wp2
              refine wp_region_x [0, 0, 0, 3, 1, 0, 0, 3, 2, 0] [0, 1, 2, 4, 5, 6, 3, 7, 8, 9] (by kernel_rfl) (by kernel_rfl) rfl (by kernel_rfl) ?_
              simp only [selX, guardAt, List.getElem?_cons_zero, List.getElem?_cons_succ, List.getD_cons_zero, List.getD_cons_succ]
              repeat (first
                | (refine wpL_p (fun K hK => ?_); go_simp; refine hK _ _ ?_; clear hK K)
                | (refine wpL_r (fun K hK => ?_); apply Exists.intro; refine ⟨fun w2 hw2 => ?_, hK _ _ ?_⟩; (have hk1 := hw2.cell; have hk3 := hw2.heap; clear hw2; go_simp; with_reducible rfl); clear hK K; simp only [Act.put, List.setIfInBounds_toArray, List.set_cons_zero, List.set_cons_succ])
                | (refine wpL_yes rfl rfl ?_)
                | (refine wpL_no rfl rfl (fun K hK => ?_); simp only [Act.put, List.setIfInBounds_toArray, List.set_cons_zero, List.set_cons_succ]; refine hK _ _ ?_; clear hK K)
                | (refine wpL_nil ?_))
              refine wpL_k (fun K hK => ?_)
              go_simp
              refine (gr_kinds (G3.out.below (Below.refl wr.heap.size wr).drew (Nat.le_refl _)) (by omega) a c ha hc).mono ?_
              rintro e w4 ⟨v4, rfl, h4, b4⟩
              refine hK _ _ (Keeps.of_below b4) ?_
              clear hK K
              have G4 := hid ((G3.out.below ((Below.refl wr.heap.size wr).drew.trans b4) (Nat.le_refl _)).raise b4.size)
              have P4 := hid ((show RG wr.drew _ _ Nj E from ⟨P3.out.n, P3.out.e⟩).below b4)
              have R4 := hid (row_below (show wr.drew.heap[hv]? = _ from R2.out) b4 (by show _ < wr.heap.size; omega))
              have B4 := hid (B3.out.drew.trans (b4.mono hz))
              have z4 : wr.heap.size ≤ w4.heap.size := b4.size
              have H4 := hid (show LI w4 v4 (kindsOf E a c) from h4.sl)
              clear h4 b4 G3 P3 R2 B3 d0 d1
              refine wpL_k (fun K hK => ?_)
              go_simp
              refine (rg_kinds (vn := .slice an nn cn) P4.out.e HSE.out (by omega) a c).mono ?_
              rintro e w5 ⟨v5, rfl, h5, b5⟩
              refine hK _ _ (Keeps.of_below b5) ?_
              clear hK K
              have G5 := hid ((G4.out.below b5 (Nat.le_refl _)).raise b5.size)
              have P5 := hid (P4.out.below b5)
              have R5 := hid (row_below R4.out b5 (by omega))
              have B5 := hid (B4.out.trans (b5.mono B4.out.size))
              have z5 : wr.heap.size ≤ w5.heap.size := Nat.le_trans z4 b5.size
              have H5 := hid h5
              have H4' := hid (show LI w5 v4 (kindsOf E a c) from Sl.up H4.out (Keep.of_below b5))
              clear h5 b5 G4 P4 R4 B4 H4
              refine wpL_e (fun K hK => ?_)
              go_simp
              refine (same_ints (l := kindsOf E a c) H4'.out H5.out).mono ?_
              rintro e w6 ⟨rfl, b6⟩
              refine hK _ _ ?_
              clear hK K
              have G6 := hid ((G5.out.below b6 (Nat.le_refl _)).raise b6.size)
              have P6 := hid (P5.out.below b6)
              have R6 := hid (row_below R5.out b6 (by omega))
              have B6 := hid (B5.out.trans (b6.mono B5.out.size))
              have z6 : wr.heap.size ≤ w6.heap.size := Nat.le_trans z5 b6.size
              have d0 : w6.cell? ⟨hv, 0, none⟩ = some (.slice an nn cn) := row_cell R6.out 0
              have d1 : w6.cell? ⟨hv, 1, none⟩ = some (.slice ae ne ce) := row_cell R6.out 1
              clear b6 G5 P5 R5 B5 H4' H5
              repeat (first
                | (refine wpL_p (fun K hK => ?_); go_simp; refine hK _ _ ?_; clear hK K)
                | (refine wpL_r (fun K hK => ?_); apply Exists.intro; refine ⟨fun w2 hw2 => ?_, hK _ _ ?_⟩; (have hk1 := hw2.cell; have hk3 := hw2.heap; clear hw2; go_simp; with_reducible rfl); clear hK K; simp only [Act.put, List.setIfInBounds_toArray, List.set_cons_zero, List.set_cons_succ])
                | (refine wpL_yes rfl rfl ?_)
                | (refine wpL_no rfl rfl (fun K hK => ?_); simp only [Act.put, List.setIfInBounds_toArray, List.set_cons_zero, List.set_cons_succ]; refine hK _ _ ?_; clear hK K)
                | (refine wpL_nil ?_))
              go_wp2
              refine wp_region_x [0, 0, 3, 1, 0, 3, 2, 0] [0, 1, 3, 4, 2, 5, 6, 7] (by kernel_rfl) (by kernel_rfl) rfl (by kernel_rfl) ?_
              simp only [selX, guardAt, List.getElem?_cons_zero, List.getElem?_cons_succ, List.getD_cons_zero, List.getD_cons_succ]
              repeat (first
                | (refine wpL_p (fun K hK => ?_); go_simp; refine hK _ _ ?_; clear hK K)
                | (refine wpL_r (fun K hK => ?_); apply Exists.intro; refine ⟨fun w2 hw2 => ?_, hK _ _ ?_⟩; (have hk1 := hw2.cell; have hk3 := hw2.heap; clear hw2; go_simp; with_reducible rfl); clear hK K; simp only [Act.put, List.setIfInBounds_toArray, List.set_cons_zero, List.set_cons_succ])
                | (refine wpL_yes rfl rfl ?_)
                | (refine wpL_no rfl rfl (fun K hK => ?_); simp only [Act.put, List.setIfInBounds_toArray, List.set_cons_zero, List.set_cons_succ]; refine hK _ _ ?_; clear hK K)
                | (refine wpL_nil ?_))
              refine wpL_k (fun K hK => ?_)
              go_simp
              refine (gr_out (G6.out.below (Below.refl w6.heap.size w6).drew (Nat.le_refl _)) (by omega) a ha).mono ?_
              rintro e w7 ⟨v7, rfl, h7, b7⟩
              refine hK _ _ (Keeps.of_below b7) ?_
              clear hK K
              have G7 := hid ((G6.out.below ((Below.refl w6.heap.size w6).drew.trans b7) (Nat.le_refl _)).raise b7.size)
              have P7 := hid ((show RG w6.drew _ _ Nj E from ⟨P6.out.n, P6.out.e⟩).below b7)
              have R7 := hid (row_below (show w6.drew.heap[hv]? = _ from R6.out) b7 (by show _ < w6.heap.size; omega))
              have B7 := hid (B6.out.drew.trans (b7.mono B6.out.size))
              have z7 : w6.heap.size ≤ w7.heap.size := b7.size
              have H7 := hid (show LI w7 v7 (row (prs E) a) from h7.sl)
              clear h7 b7 G6 P6 R6 B6 d0 d1
              refine wpL_k (fun K hK => ?_)
              go_simp
              refine (rg_out P7.out (by omega) a).mono ?_
              rintro e w8 ⟨v8, rfl, h8, b8⟩
              refine hK _ _ (Keeps.of_below b8) ?_
              clear hK K
              have G8 := hid ((G7.out.below b8 (Nat.le_refl _)).raise b8.size)
              have P8 := hid (P7.out.below b8)
              have R8 := hid (row_below R7.out b8 (by omega))
              have B8 := hid (B7.out.trans (b8.mono B7.out.size))
              have z8 : wr.heap.size ≤ w8.heap.size := Nat.le_trans z6 (Nat.le_trans z7 b8.size)
              have H8 := hid h8
              have H7' := hid (show LI w8 v7 (row (prs E) a) from Sl.up H7.out (Keep.of_below b8))
              clear h8 b8 G7 P7 R7 B7 H7
              refine wpL_e (fun K hK => ?_)
              go_simp
              refine (same_ints (l := row (prs E) a) H7'.out H8.out).mono ?_
              rintro e w9 ⟨rfl, b9⟩
              refine hK _ _ ?_
              clear hK K
              have G9 := hid ((G8.out.below b9 (Nat.le_refl _)).raise b9.size)
              have P9 := hid (P8.out.below b9)
              have R9 := hid (row_below R8.out b9 (by omega))
              have B9 := hid (B8.out.trans (b9.mono B8.out.size))
              have z9 : wr.heap.size ≤ w9.heap.size := Nat.le_trans z8 b9.size
              have d0 : w9.cell? ⟨hv, 0, none⟩ = some (.slice an nn cn) := row_cell R9.out 0
              have d1 : w9.cell? ⟨hv, 1, none⟩ = some (.slice ae ne ce) := row_cell R9.out 1
              clear b9 G8 P8 R8 B8 H7' H8
              repeat (first
                | (refine wpL_p (fun K hK => ?_); go_simp; refine hK _ _ ?_; clear hK K)
                | (refine wpL_r (fun K hK => ?_); apply Exists.intro; refine ⟨fun w2 hw2 => ?_, hK _ _ ?_⟩; (have hk1 := hw2.cell; have hk3 := hw2.heap; clear hw2; go_simp; with_reducible rfl); clear hK K; simp only [Act.put, List.setIfInBounds_toArray, List.set_cons_zero, List.set_cons_succ])
                | (refine wpL_yes rfl rfl ?_)
                | (refine wpL_no rfl rfl (fun K hK => ?_); simp only [Act.put, List.setIfInBounds_toArray, List.set_cons_zero, List.set_cons_succ]; refine hK _ _ ?_; clear hK K)
                | (refine wpL_nil ?_))
              have hbe : ∀ q : Bool, (q == q) = true := fun q => by cases q <;> rfl
              have hbq := hbe (decide ((a, c, k) ∈ E))
              clear hbe
              go_wp2
              refine wp_region_x [0, 1, 3, 0, 0, 0, 0, 0, 0, 0, 0, 0, 0, 0, 3, 1, 0, 0, 0, 2, 0, 0, 0] [0, 1, 2, 3, 4, 5, 6, 7, 8, 9, 10, 11, 12, 13, 15, 16, 17, 18, 14, 19, 20, 21, 22] (by kernel_rfl) (by kernel_rfl) rfl (by kernel_rfl) ?_
              simp only [selX, guardAt, List.getElem?_cons_zero, List.getElem?_cons_succ, List.getD_cons_zero, List.getD_cons_succ, Option.bind_some]
              repeat (first
                | (refine wpL_p (fun K hK => ?_); go_simp; refine hK _ _ ?_; clear hK K)
                | (refine wpL_r (fun K hK => ?_); apply Exists.intro; refine ⟨fun w2 hw2 => ?_, hK _ _ ?_⟩; (have hk1 := hw2.cell; have hk3 := hw2.heap; clear hw2; go_simp; with_reducible rfl); clear hK K; simp only [Act.put, List.setIfInBounds_toArray, List.set_cons_zero, List.set_cons_succ])
                | (refine wpL_yes rfl rfl ?_)
                | (refine wpL_no rfl rfl (fun K hK => ?_); simp only [Act.put, List.setIfInBounds_toArray, List.set_cons_zero, List.set_cons_succ]; refine hK _ _ ?_; clear hK K)
                | (refine wpL_nil ?_))
              refine wpL_k (fun K hK => ?_)
              go_simp
              refine (gr_is (G9.out.below (Below.refl w9.heap.size w9).drew (Nat.le_refl _)) (Nat.le_refl _) (by omega) (by omega) (show RG w9.drew _ _ Nj E from ⟨P9.out.n, P9.out.e⟩)).mono ?_
              rintro e wA ⟨rfl, bA⟩
              refine hK _ _ (Keeps.of_below bA) ?_
              clear hK K
              have GA := hid ((G9.out.below ((Below.refl w9.heap.size w9).drew.trans bA) (Nat.le_refl _)).raise bA.size)
              have PA := hid ((show RG w9.drew _ _ Nj E from ⟨P9.out.n, P9.out.e⟩).below bA)
              have RA := hid (row_below (show w9.drew.heap[hv]? = _ from R9.out) bA (by show _ < w9.heap.size; omega))
              have BA := hid (B9.out.drew.trans (bA.mono B9.out.size))
              have zA : w9.heap.size ≤ wA.heap.size := bA.size
              have d0 : wA.cell? ⟨hv, 0, none⟩ = some (.slice an nn cn) := row_cell RA.out 0
              have d1 : wA.cell? ⟨hv, 1, none⟩ = some (.slice ae ne ce) := row_cell RA.out 1
              clear bA G9 P9 R9 B9
              repeat (first
                | (refine wpL_p (fun K hK => ?_); go_simp; refine hK _ _ ?_; clear hK K)
                | (refine wpL_r (fun K hK => ?_); apply Exists.intro; refine ⟨fun w2 hw2 => ?_, hK _ _ ?_⟩; (have hk1 := hw2.cell; have hk3 := hw2.heap; clear hw2; go_simp; with_reducible rfl); clear hK K; simp only [Act.put, List.setIfInBounds_toArray, List.set_cons_zero, List.set_cons_succ])
                | (refine wpL_yes rfl rfl ?_)
                | (refine wpL_no rfl rfl (fun K hK => ?_); simp only [Act.put, List.setIfInBounds_toArray, List.set_cons_zero, List.set_cons_succ]; refine hK _ _ ?_; clear hK K)
                | (refine wpL_nil ?_))
              refine wpL_k (fun K hK => ?_)
              go_simp
              refine (gr_has GA.out a c k ha hc hk).mono ?_
              rintro e wB ⟨rfl, rfl⟩
              refine hK _ _ (Keeps.refl _) ?_
              clear hK K
              repeat (first
                | (refine wpL_p (fun K hK => ?_); go_simp; refine hK _ _ ?_; clear hK K)
                | (refine wpL_r (fun K hK => ?_); apply Exists.intro; refine ⟨fun w2 hw2 => ?_, hK _ _ ?_⟩; (have hk1 := hw2.cell; have hk3 := hw2.heap; clear hw2; go_simp; with_reducible rfl); clear hK K; simp only [Act.put, List.setIfInBounds_toArray, List.set_cons_zero, List.set_cons_succ])
                | (refine wpL_yes rfl rfl ?_)
                | (refine wpL_no rfl rfl (fun K hK => ?_); simp only [Act.put, List.setIfInBounds_toArray, List.set_cons_zero, List.set_cons_succ]; refine hK _ _ ?_; clear hK K)
                | (refine wpL_nil ?_))
              refine wpL_e (fun K hK => ?_)
              go_simp
              refine (rg_has (vn := .slice an nn cn) PA.out.e a c k).mono ?_
              rintro e wB ⟨rfl, bB⟩
              refine hK _ _ ?_
              clear hK K
              have BB := hid (BA.out.trans (bB.mono BA.out.size))
              clear d0 d1 bB
              repeat (first
                | (refine wpL_p (fun K hK => ?_); go_simp; refine hK _ _ ?_; clear hK K)
                | (refine wpL_r (fun K hK => ?_); apply Exists.intro; refine ⟨fun w2 hw2 => ?_, hK _ _ ?_⟩; (have hk1 := hw2.cell; have hk3 := hw2.heap; clear hw2; go_simp; with_reducible rfl); clear hK K; simp only [Act.put, List.setIfInBounds_toArray, List.set_cons_zero, List.set_cons_succ])
                | (refine wpL_yes rfl rfl ?_)
                | (refine wpL_no rfl rfl (fun K hK => ?_); simp only [Act.put, List.setIfInBounds_toArray, List.set_cons_zero, List.set_cons_succ]; refine hK _ _ ?_; clear hK K)
                | (refine wpL_nil ?_))
              go_wp2
              go_ret
              exact ⟨rfl, BB.out⟩
    · go_wp2
      go_ret
      exact ⟨rfl, B0.out⟩
  · go_wp2
    go_ret
    exact ⟨rfl, B0.out⟩
end
end Go.Proofs.Ytlmeblhcipkgmaa
