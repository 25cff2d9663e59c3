/- What the document's graphs do: Kinds, pairs, Out, Reach. Conditions: those of each theorem, as typed. -/
import Derived.Test.YtlmeblhcipkgmaaGsB
import Derived.Test.YtlmeblhcipkgmaaRefC
namespace Go.Proofs.Ytlmeblhcipkgmaa
open Go.RowKit Go.Maps
set_option linter.unusedVariables false
attribute [local irreducible] wpL

theorem kinds_snoc_yes {l : List Tr} {a c k : Int} (h : SrtT (l ++ [(a, c, k)])) : kindsOf (l ++ [(a, c, k)]) a c = insI k (kindsOf l a c) :=
  (srt_kindsOf h a c).ext (srt_insI (srt_kindsOf (List.pairwise_append.1 h).1 a c)) fun x => by
    rw [mem_kindsOf, mem_insI, mem_kindsOf, List.mem_append, List.mem_singleton]
    simp only [Prod.mk.injEq, true_and]
    constructor
    · rintro (h | h) <;> simp [h]
    · rintro (h | h) <;> simp [h]
theorem kinds_snoc_no {l : List Tr} {a c : Int} {x : Tr} (h : ¬ (x.1 = a ∧ x.2.1 = c)) : kindsOf (l ++ [x]) a c = kindsOf l a c := by
  unfold kindsOf
  rw [List.filter_append]
  have : (x.1 == a && x.2.1 == c) = false := by
    rw [Bool.eq_false_iff]
    intro h2
    simp only [Bool.and_eq_true, beq_iff_eq] at h2
    exact h h2
  simp [this]
section
variable {w : World} {vn ve : Value} {N : List Int} {E : List Tr}
set_option maxHeartbeats 1000000 in
theorem rg_kinds (h : LT w ve E) (hs : SrtT E) (hE : E.length ≤ 900000) (a c : Int) : Calls Try.prog 63 #[.agg #[vn, ve], .int .i64 a, .int .i64 c] w fun e w' => ∃ v, e = .returned v ∧ LI w' v (kindsOf E a c) ∧ Below w.heap.size w w' := by
  obtain ⟨al, cl, n, rfl, hn, hm, h⟩ := h.open
  have H := hid (h.alloc (Nat.le_refl _) (.cells #[vn, .slice al n cl] 63))
  have HN := hid hn
  have hn9 : n ≤ 900000 := by omega
  have HS := hid hs
  have B1 := hid ((Below.refl w.heap.size w).alloc (Nat.le_refl _) (.cells #[vn, .slice al n cl] 63))
  have R1 := hid (row_new w (.cells #[vn, .slice al n cl] 63))
  clear h hn hs
  go_enter Try.func63, Try.ntmps63
  go_wp2_with fail
  obtain ⟨w1, hw1⟩ : ∃ w1, w1 = w.alloc (.cells #[vn, .slice al n cl] 63) := ⟨_, rfl⟩
  have z1 : w.heap.size + 1 ≤ w1.heap.size := by rw [hw1, World.size_alloc]; exact Nat.le_refl _
  rw [← hw1] at H B1 R1 ⊢
  clear hw1
  go_loopw [7, 8] (fun v i wr => ∃ j : Nat, j ≤ n ∧ i = .int .i64 j ∧ LI wr v (kindsOf (E.take j) a c) ∧ Below w1.heap.size w1 wr) (fun _ i _ => n - (intOf i).toNat)
  case atStart => exact ⟨0, by omega, by go_num, (OwnF.nil (f := intC) (e := 3) (sz := 1) w1 0).sl, Below.refl _ _⟩
  case round =>
    obtain ⟨j, hj, rfl, hV, hB⟩ := hrel
    obtain ⟨a7, c7, rfl, -⟩ := Sl.ex hV
    have HV := hid hV
    have HB := hid hB
    have hz := hB.size
    have d1 : wr.cell? ⟨w.heap.size, 1, none⟩ = some (.slice al n cl) := row_cell (row_below R1.out hB (by omega)) 1
    clear hV hB
    by_cases hlt : j < n
    · obtain ⟨b, off, x, rfl, hb, hx, c1, c2, c3⟩ := (H.out.below (HB.out.mono (by omega))).trs hlt HN.out
      have HT := hid (take_step hx)
      have hss : SrtT (E.take j ++ [x]) := by rw [← HT.out]; exact List.Pairwise.sublist (List.take_sublist _ _) HS.out
      have hSk := srt_kindsOf (List.pairwise_append.1 hss).1 a c
      have hSl := length_kindsOf (E.take j) a c
      have hSl2 : (kindsOf (E.take j) a c).length ≤ 900000 := by rw [List.length_take] at hSl; omega
      have HSK := hid hSk
      obtain ⟨x1, x2, x3⟩ := x
      simp only at c1 c2 c3
      by_cases e1 : x1 = a
      · by_cases e2 : x2 = c
        · have q1 : (x1 == a) = true := by simpa using e1
          have q2 : (x2 == c) = true := by simpa using e2
          have HK := hid (show kindsOf (E.take (j + 1)) a c = insI x3 (kindsOf (E.take j) a c) by rw [HT.out]; subst e1 e2; exact kinds_snoc_yes hss)
          clear e1 e2 hss hSk hSl hx
          generalize kindsOf (E.take j) a c = Kj at *
          go_wp2_with fail
          refine (ref_putInt (v := .slice a7 Kj.length c7) HV.out HSK.out (by omega) x3).mono ?_
          rintro e w2 ⟨v2, rfl, h2, -, b2⟩
          have H2 := hid h2
          have B2 := hid (HB.out.trans (b2.mono hz))
          clear h2 b2 HV HB
          go_wp2_with fail
          go_roundw
          case rel => exact ⟨j + 1, by omega, by go_num, by rw [HK.out]; exact H2.out, B2.out⟩
          case measure => simp [intOf]; omega
        · have q1 : (x1 == a) = true := by simpa using e1
          have q2 : (x2 == c) = false := by simpa using e2
          have HK := hid (show kindsOf (E.take (j + 1)) a c = kindsOf (E.take j) a c by rw [HT.out]; exact kinds_snoc_no fun h => e2 h.2)
          clear e1 e2 hss hSk hSl hx
          generalize kindsOf (E.take j) a c = Kj at *
          go_wp2_with fail
          go_roundw
          case rel => exact ⟨j + 1, by omega, by go_num, by rw [HK.out]; exact HV.out, HB.out⟩
          case measure => simp [intOf]; omega
      · have q1 : (x1 == a) = false := by simpa using e1
        have HK := hid (show kindsOf (E.take (j + 1)) a c = kindsOf (E.take j) a c by rw [HT.out]; exact kinds_snoc_no fun h => e1 h.1)
        clear e1 hss hSk hSl hx
        generalize kindsOf (E.take j) a c = Kj at *
        go_wp2_with fail
        go_roundw
        case rel => exact ⟨j + 1, by omega, by go_num, by rw [HK.out]; exact HV.out, HB.out⟩
        case measure => simp [intOf]; omega
    · obtain rfl : j = n := by omega
      have HE := hid (show kindsOf (E.take j) a c = kindsOf E a c by rw [← HN.out, List.take_length])
      generalize kindsOf (E.take j) a c = Kj at *
      go_wp2
      go_ret
      exact ⟨_, rfl, by rw [← HE.out]; exact HV.out, B1.out.trans (HB.out.mono (by omega))⟩

set_option maxRecDepth 100000 in
set_option maxHeartbeats 1000000 in
theorem rg_pairs (h : LT w ve E) (hE : E.length ≤ 900000) : Calls Try.prog 96 #[.agg #[vn, ve]] w fun e w' => ∃ v, e = .returned v ∧ LP w' v (prs E) ∧ Below w.heap.size w w' := by
  obtain ⟨al, cl, n, rfl, hn, hm, h⟩ := h.open
  have H := hid (h.alloc (Nat.le_refl _) (.cells #[vn, .slice al n cl] 63))
  have HN := hid hn
  have hn9 : n ≤ 900000 := by omega
  have B1 := hid ((Below.refl w.heap.size w).alloc (Nat.le_refl _) (.cells #[vn, .slice al n cl] 63))
  have R1 := hid (row_new w (.cells #[vn, .slice al n cl] 63))
  clear h hn
  go_enter Try.func96, Try.ntmps96
  go_wp2_with fail
  obtain ⟨w1, hw1⟩ : ∃ w1, w1 = w.alloc (.cells #[vn, .slice al n cl] 63) := ⟨_, rfl⟩
  have z1 : w.heap.size + 1 ≤ w1.heap.size := by rw [hw1, World.size_alloc]; exact Nat.le_refl _
  rw [← hw1] at H B1 R1 ⊢
  clear hw1
  go_loopw [3, 4] (fun v i wr => ∃ j : Nat, j ≤ n ∧ i = .int .i64 j ∧ LP wr v (prs (E.take j)) ∧ Below w1.heap.size w1 wr) (fun _ i _ => n - (intOf i).toNat)
  case atStart => exact ⟨0, by omega, by go_num, (OwnF.nil (f := pairC) (e := 3) (sz := 2) w1 0).sl, Below.refl _ _⟩
  case round =>
    obtain ⟨j, hj, rfl, hV, hB⟩ := hrel
    obtain ⟨a3, c3, rfl, -⟩ := Sl.ex hV
    have HV := hid hV
    have HB := hid hB
    have hz := hB.size
    have d1 : wr.cell? ⟨w.heap.size, 1, none⟩ = some (.slice al n cl) := row_cell (row_below R1.out hB (by omega)) 1
    clear hV hB
    by_cases hlt : j < n
    · obtain ⟨b, off, x, rfl, hb, hx, c1, c2, c3'⟩ := (H.out.below (HB.out.mono (by omega))).trs hlt HN.out
      have HT := hid (take_step hx)
      have hSl := length_prs (E.take j)
      have hSl2 : (prs (E.take j)).length ≤ 900000 := by rw [List.length_take] at hSl; omega
      have HSR := hid (srt_prs (E.take j))
      have HK := hid (show prs (E.take (j + 1)) = insP (x.1, x.2.1) (prs (E.take j)) by rw [HT.out]; unfold prs; rw [List.map_append]; exact putAll_snoc _ _)
      clear hSl hx
      generalize prs (E.take j) = Kj at *
      go_wp2
      refine wp_region_x [0, 0, 1, 0, 0, 0, 1, 0, 1, 0, 0, 0, 1, 2, 0] [0, 1, 2, 3, 4, 5, 6, 7, 8, 9, 10, 11, 12, 13, 14] (by kernel_rfl) (by kernel_rfl) rfl (by kernel_rfl) ?_
      simp only [selX, guardAt, List.getElem?_cons_zero, List.getElem?_cons_succ, List.getD_cons_zero, List.getD_cons_succ]
      repeat (first
        | (refine wpL_p (fun K hK => ?_); go_simp; refine hK _ _ ?_; clear hK K)
        | (refine wpL_r (fun K hK => ?_); apply Exists.intro; refine ⟨fun w2 hw2 => ?_, hK _ _ ?_⟩; (have hk1 := hw2.cell; have hk3 := hw2.heap; clear hw2; go_simp; with_reducible rfl); clear hK K; simp only [Act.put, List.setIfInBounds_toArray, List.set_cons_zero, List.set_cons_succ])
        | (refine wpL_yes rfl rfl ?_)
        | (refine wpL_no rfl rfl (fun K hK => ?_); simp only [Act.put, List.setIfInBounds_toArray, List.set_cons_zero, List.set_cons_succ]; refine hK _ _ ?_; clear hK K)
        | (refine wpL_nil ?_))
      refine wpL_e (fun K hK => ?_)
      go_simp
      refine (ref_put (v := .slice a3 Kj.length c3) (l := Kj) (show LP wr.drew _ Kj from HV.out.drew) HSR.out (by omega) x.1 x.2.1).mono ?_
      rintro e w2 ⟨v2, rfl, h2, b2⟩
      refine hK _ _ ?_
      clear hK K
      have H2 := hid h2
      have B2 := hid (HB.out.drew.trans (b2.mono hz))
      clear h2 b2 HV HB c1 c2 c3' d1
      repeat (first
        | (refine wpL_p (fun K hK => ?_); go_simp; refine hK _ _ ?_; clear hK K)
        | (refine wpL_r (fun K hK => ?_); apply Exists.intro; refine ⟨fun w2 hw2 => ?_, hK _ _ ?_⟩; (have hk1 := hw2.cell; have hk3 := hw2.heap; clear hw2; go_simp; with_reducible rfl); clear hK K; simp only [Act.put, List.setIfInBounds_toArray, List.set_cons_zero, List.set_cons_succ])
        | (refine wpL_yes rfl rfl ?_)
        | (refine wpL_no rfl rfl (fun K hK => ?_); simp only [Act.put, List.setIfInBounds_toArray, List.set_cons_zero, List.set_cons_succ]; refine hK _ _ ?_; clear hK K)
        | (refine wpL_nil ?_))
      go_wp2_with fail
      go_roundw
      case rel => exact ⟨j + 1, by omega, by go_num, by rw [HK.out]; exact H2.out, B2.out⟩
      case measure => simp [intOf]; omega
    · obtain rfl : j = n := by omega
      have HE := hid (show prs (E.take j) = prs E by rw [← HN.out, List.take_length])
      generalize prs (E.take j) = Kj at *
      go_wp2
      go_ret
      exact ⟨_, rfl, by rw [← HE.out]; exact HV.out, B1.out.trans (HB.out.mono (by omega))⟩

theorem rg_out (h : RG w vn ve N E) (hE : E.length ≤ 900000) (a : Int) : Calls Try.prog 64 #[.agg #[vn, ve], .int .i64 a] w fun e w' => ∃ v, e = .returned v ∧ LI w' v (row (prs E) a) ∧ Below w.heap.size w w' := by
  obtain ⟨al, cl, rfl, -⟩ := Sl.ex h.n
  obtain ⟨ae, ce, rfl, -⟩ := Sl.ex h.e
  have hP : (prs E).length ≤ 900000 := Nat.le_trans (length_prs E) hE
  have B1 := hid ((Below.refl w.heap.size w).alloc (Nat.le_refl _) (.cells #[.slice al N.length cl, .slice ae E.length ce] 63))
  have H1 := hid (h.below B1.out)
  clear h
  go_enter Try.func64, Try.ntmps64
  go_wp2_with fail
  refine (rg_pairs (vn := .slice al N.length cl) H1.out.e hE).mono ?_
  rintro e w2 ⟨v2, rfl, h2, b2⟩
  obtain ⟨a2, c2, rfl, -⟩ := Sl.ex h2
  have H2 := hid h2
  have B2 := hid (B1.out.trans (b2.mono (by simp)))
  clear h2 b2
  go_wp2_with fail
  refine (ref_behind (v := .slice a2 (prs E).length c2) H2.out (srt_prs E) (by omega) a).mono ?_
  rintro e w3 ⟨v3, rfl, h3, b3⟩
  have H3 := hid h3
  have B3 := hid (B2.out.trans (b3.mono B2.out.size))
  clear h3 b3
  go_wp2
  go_ret
  exact ⟨_, rfl, H3.out, B3.out⟩
theorem rg_reach (h : RG w vn ve N E) (hE : E.length ≤ 900000) (a : Int) : Calls Try.prog 66 #[.agg #[vn, ve], .int .i64 a] w fun e w' => ∃ v R, e = .returned v ∧ LI w' v R ∧ IsReach (prs E) a R ∧ Below w.heap.size w w' := by
  obtain ⟨al, cl, rfl, -⟩ := Sl.ex h.n
  obtain ⟨ae, ce, rfl, -⟩ := Sl.ex h.e
  have hP : (prs E).length ≤ 900000 := Nat.le_trans (length_prs E) hE
  have B1 := hid ((Below.refl w.heap.size w).alloc (Nat.le_refl _) (.cells #[.slice al N.length cl, .slice ae E.length ce] 63))
  have H1 := hid (h.below B1.out)
  clear h
  go_enter Try.func66, Try.ntmps66
  go_wp2_with fail
  refine (rg_pairs (vn := .slice al N.length cl) H1.out.e hE).mono ?_
  rintro e w2 ⟨v2, rfl, h2, b2⟩
  obtain ⟨a2, c2, rfl, -⟩ := Sl.ex h2
  have H2 := hid h2
  have B2 := hid (B1.out.trans (b2.mono (by simp)))
  clear h2 b2
  go_wp2_with fail
  refine (ref_reach (v := .slice a2 (prs E).length c2) H2.out (by omega) a).mono ?_
  rintro e w3 ⟨v3, R, rfl, h3, hr, b3⟩
  have H3 := hid (show LI w3 v3 R from h3.sl)
  have HR := hid hr
  have B3 := hid (B2.out.trans (b3.mono B2.out.size))
  clear h3 b3 hr
  go_wp2
  go_ret
  exact ⟨_, R, rfl, H3.out, HR.out, B3.out⟩
end
end Go.Proofs.Ytlmeblhcipkgmaa
