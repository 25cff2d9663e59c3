/- LateReads: a committed transaction's reads of a cell that it has not written give one value. Printed by wip/tools/genlar.py. Conditions: those of each theorem, as typed. -/
import Derived.Test.YtogphaiomlfofaaGreatDoorQL28
set_option linter.unusedVariables false
set_option linter.unusedSimpArgs false
namespace Go.Proofs.YtogphaiomlfofaaGreatDoor
open Go.RowKit Go.Maps
set_option linter.unusedVariables false
set_option linter.unusedSimpArgs false
attribute [local irreducible] wpL RN.wpL

set_option maxRecDepth 100000 in
set_option maxHeartbeats 4000000 in
theorem law_lateReads (vc vt : Value) (P : Pg) (sv : Value) (l : List Int) (w : World) (hG : Glob w) (h : PgIs w w.heap.size vc vt P) (hs : Sl w w.heap.size 1 sv l.length (l.map (.int .i64))) :
    Calls Tryz.prog 3 #[.agg #[vc, vt], sv] w fun e w' => e = .returned (.bool true) ∧ Below w.heap.size w w' := by
  obtain ⟨ac, cc, rfl, mc⟩ := h.cells.ex
  obtain ⟨at', ct, rfl, mt⟩ := h.thr.ex
  obtain ⟨sa, sc, rfl, ms⟩ := hs.ex
  have b0 : Below w.heap.size w (w.alloc (.cells #[.slice ac P.cells.length cc, .slice at' P.threads.length ct] 25)) := (Below.refl _ w).alloc (Nat.le_refl _) _
  have r0 := row_new w (.cells #[.slice ac P.cells.length cc, .slice at' P.threads.length ct] 25)
  have hf := hid (l_first21 _ (hG.below b0))
  have H := hid h
  have HS := hid hs
  have HG := hid hG
  have B0 := hid b0
  have R0 := hid r0
  have l0 := row_lt r0
  clear h hs hG b0 r0
  go_enter Tryz.func3, Tryz.ntmps3
  go_wp2_with fail
  generalize w.alloc (.cells #[.slice ac P.cells.length cc, .slice at' P.threads.length ct] 25) = W at *
  refine (hf.out).mono ?_
  rintro e W1 ⟨rfl, b1⟩
  have r1 := row_below R0.out b1 l0
  have l1 := row_lt r1
  have y0 := row_cell r1 0
  have y1 := row_cell r1 1
  simp at y0 y1
  have B1 := hid (B0.out.trans (b1.mono B0.out.size))
  have hz1 := B1.out.size
  have hsm := hid (l_small21 _ _ P W1 ((H.out.below B1.out).more hz1))
  have R1 := hid r1
  clear r1 b1 hf
  go_wp2_with fail
  refine (hsm.out).mono ?_
  rintro e W2 ⟨b, rfl, hb20, b2⟩
  have r2 := row_below R1.out b2 l1
  have l2 := row_lt r2
  clear y0 y1
  have y0 := row_cell r2 0
  have y1 := row_cell r2 1
  simp at y0 y1
  have B2 := hid (B1.out.trans (b2.mono hz1))
  have hz2 := B2.out.size
  have R2 := hid r2
  clear r2 b2 hsm
  cases b with
  | false =>
    go_wp2
    go_ret
    exact ⟨rfl, B2.out⟩
  | true =>
  have h20 := hb20 rfl
  clear hb20
  by_cases hl : l.length ≤ 300
  case neg =>
    have q : decide (300 < l.length) = true := by simp; omega
    have q2 : decide ((300 : Int) < (l.length : Int)) = true := by simp; omega
    go_wp2
    go_ret
    exact ⟨rfl, B2.out⟩
  case pos =>
  have q : decide (300 < l.length) = false := by simp; omega
  have q2 : decide ((300 : Int) < (l.length : Int)) = false := by simp; omega
  have hG2 := HG.out.below B2.out
  obtain ⟨g1, ⟨tt, tv, g2⟩, g3⟩ := hG2
  have hF := hid (la_Full _ _ P W2 ((H.out.below B2.out).more hz2) (.iface tt tv) g2 ⟨_, _, rfl⟩ (by omega) (by omega) _ l ((HS.out.below B2.out).more hz2) hl (going P))
  have GW := hid g3
  clear g2 g3
  go_wp2_with fail
  refine (hF.out).mono ?_
  rintro e W3 ⟨hv, b3⟩
  have B3 := hid (B2.out.trans (b3.mono hz2))
  have hW3 := hid (GW.out.below b3)
  rcases hv with ⟨-, rfl⟩ | ⟨hval, M, ov, vv, rfl, hro, ho, hv⟩
  · clear hF b3
    go_wp2
    go_ret
    exact ⟨rfl, B3.out.alloc B3.out.size _⟩
  obtain ⟨A, hL, hel, hes, hfd, hreg, hne, hdone⟩ := run_table hval hro
  obtain ⟨oa, oc, rfl⟩ := OwnF.slv ho
  obtain ⟨ea, ec, rfl⟩ := OwnF.slv hv
  have b4 : Below W3.heap.size W3 (W3.alloc (.cells #[.slice oa (obsOf P).length oc, .slice ea M.W.evs.length ec] 31)) := (Below.refl _ W3).alloc (Nat.le_refl _) _
  have r4 := row_new W3 (.cells #[.slice oa (obsOf P).length oc, .slice ea M.W.evs.length ec] 31)
  have hT := hid (sh_Table _ _ (obsOf P) M.W.evs A _ (OwnF.below ho b4).sl (OwnF.below hv b4).sl hne hreg hel hes (hW3.out.below b4) hfd)
  have hRd := hid (hL.reads)
  have B4 := hid (B3.out.trans (b4.mono B3.out.size))
  have l4 := row_lt r4
  clear hF b3 hro ho hv hL hes hfd hreg hdone b4 r4 y0 y1 hval
  obtain ⟨on, hon⟩ : ∃ n, n = (obsOf P).length := ⟨_, rfl⟩
  obtain ⟨en, hen⟩ : ∃ n, n = M.W.evs.length := ⟨_, rfl⟩
  rw [← hon, ← hen] at hT B4 l4 ⊢
  clear hon hen
  go_wp2_with fail
  generalize W3.alloc (.cells #[.slice oa on oc, .slice ea en ec] 31) = W4 at *
  refine (hT.out).mono ?_
  rintro e W5 ⟨tv', rfl, hA, b5⟩
  have hz4 := B4.out.size
  have B5 := hid (B4.out.trans (b5.mono hz4))
  obtain ⟨rs, hv, hvl, hvc⟩ := hA
  obtain ⟨ta, tc, rfl⟩ := OwnF.slv hv
  have hbig : rs.length ≤ 9223372036854775807 := by obtain ⟨_, _, _, hb⟩ := OwnF.form2 hv; exact hb
  have HV := hid hv
  have HVC := hid hvc
  clear hv hvc hT b5
  go_wp2_with fail
  go_loopw [10] (fun p wr => ∃ i : Nat, i ≤ rs.length ∧ p = .int .i64 i ∧ Below W5.heap.size W5 wr) (fun p _ => rs.length - (intOf p).toNat)
  case atStart => exact ⟨0, by omega, by go_num, Below.refl _ _⟩
  case round =>
    obtain ⟨i, hi, rfl, hB⟩ := hrel
    have hz := hB.size
    have HB := hid hB
    clear hB
    by_cases hlt : i < rs.length
    · obtain ⟨s, hs⟩ : ∃ s, A[i]? = some s := ⟨_, List.getElem?_eq_getElem (by omega)⟩
      obtain ⟨b, off, r, hat, hb, hr, hc⟩ := (OwnF.sl HV.out).atF TxR.len rfl hlt
      obtain ⟨⟨-, -, ho2, -⟩, hod⟩ := HVC.out i r s hr hs
      obtain ⟨rid, rth, rst, rbe, rfi, rtr, rdv⟩ := r
      simp only at ho2 hod
      subst ho2
      have c2 : wr.cell? ⟨b, off + i * 7 + 2, none⟩ = some (.int .i64 s.status) := cell_below HB.out hb (hc 2 (by decide))
      have c6 : wr.cell? ⟨b, off + i * 7 + 6, none⟩ = some rdv := cell_below HB.out hb (hc 6 (by decide))
      have hbw : b < wr.heap.size := by omega
      subst hat
      have HOD := hid hod
      have hmem := List.mem_of_getElem? hs
      clear hr hc hs
      by_cases h3 : s.status = 3
      · have hrd := hid (hRd.out s hmem h3)
        have q3 : (s.status != 3) = false := by simp [h3]
        obtain ⟨ds, hds⟩ : ∃ ds, ds = s.deeds := ⟨_, rfl⟩
        rw [← hds] at HOD hrd hod
        clear hds
        obtain ⟨da, dc, rfl⟩ := OwnF.slv hod
        have hdbig : ds.length ≤ 9223372036854775807 := by obtain ⟨_, _, _, hb⟩ := OwnF.form2 hod; exact hb
        clear hod hmem
        obtain ⟨wo, rfl⟩ : ∃ wo, wo = wr := ⟨_, rfl⟩
        go_wp2_with fail
        simp only [show i < A.length by omega, decide_true]
        go_loopw [12] (fun p wr => ∃ k : Nat, k ≤ ds.length ∧ p = .int .i64 k ∧ Below W5.heap.size W5 wr) (fun p _ => ds.length - (intOf p).toNat)
        case atStart => exact ⟨0, by omega, by go_num, HB.out⟩
        case round =>
          obtain ⟨k, hk, rfl, hB⟩ := hrel
          have hzk := hB.size
          have HBK := hid hB
          clear hB
          by_cases hlk : k < ds.length
          · obtain ⟨wo2, rfl⟩ : ∃ wo, wo = wr := ⟨_, rfl⟩
            obtain ⟨d, hd⟩ : ∃ d, ds[k]? = some d := ⟨_, List.getElem?_eq_getElem hlk⟩
            obtain ⟨gd, rfl⟩ : ∃ g, da = some ⟨g, 0, none⟩ := by
              rcases OwnF.form HOD.out with ⟨h, h2⟩ | ⟨g, kk, h, -⟩
              · rw [h2] at hlk; simp at hlk
              · simp only [Value.slice.injEq] at h; exact ⟨g, h.1⟩
            go_wp2_with fail
            go_loopw [13] (fun p wr => ∃ j : Nat, k < j ∧ j ≤ ds.length ∧ p = .int .i64 j ∧ Below W5.heap.size W5 wr ∧ (d.op = 1 → ∀ (m : Nat) (x : Dd), k < m → m < j → ds[m]? = some x → ¬ (x.obj = d.obj ∧ x.op = 2))) (fun p _ => ds.length - (intOf p).toNat)
            case atStart => exact ⟨k + 1, by omega, by omega, by go_num, HBK.out, fun _ m x h1 h2 => by omega⟩
            case round =>
              obtain ⟨j, hkj, hj, rfl, hB, hno⟩ := hrel
              have hzj := hB.size
              have HBJ := hid hB
              have HNO := hid hno
              clear hB hno
              obtain ⟨k0, k1, k5, -, lg⟩ := OwnF.deed (OwnF.below HOD.out HBJ.out) hd
              by_cases hlj : j < ds.length
              · obtain ⟨d', hd'⟩ : ∃ d, ds[j]? = some d := ⟨_, List.getElem?_eq_getElem hlj⟩
                obtain ⟨j0, j1, j5, -, -⟩ := OwnF.deed (OwnF.below HOD.out HBJ.out) hd'
                have HD := hid hd
                have HD' := hid hd'
                clear hd hd'
                by_cases h1 : d.op = 1
                · have q4 : (d.op == 1) = true := by simp [h1]
                  by_cases ho : d'.obj = d.obj
                  · have q5 : (d'.obj == d.obj) = true := by simp [ho]
                    by_cases hw : d'.op = 2
                    · have q6 : (d'.op == 2) = true := by simp [hw]
                      go_wp2_with fail
                      refine RN.wp_region_t (wr.heap.size) [0, 0, 0, 0, 1, 0, 0, 0, 0, 1, 0, 0, 0, 0, 0, 0, 1, 0, 0] (.fin [0, 1, 2, 3, 4, 5, 6, 7, 8, 9, 10, 11, 12, 13, 14, 15, 16, 17, 18]) (by kernel_rfl) (by kernel_rfl) (by kernel_rfl) (by kernel_rfl) ?_
                      simp only [RN.wpT, selX, guardAt, List.getElem?_cons_zero, List.getElem?_cons_succ, List.getD_cons_zero, List.getD_cons_succ, Option.bind_some]
                      repeat (first
                        | (refine RN.wpL_p (fun K hK => ?_); go_simp; refine hK _ _ ?_; clear hK K)
                        | (refine RN.wpL_r (fun K hK => ?_); apply Exists.intro; refine ⟨fun w2 hw2 => ?_, hK _ _ ?_⟩; (have hk1 := hw2.cell; have hk3 := hw2.1; clear hw2; go_simp; with_reducible rfl); clear hK K; simp only [Act.put, List.setIfInBounds_toArray, List.set_cons_zero, List.set_cons_succ])
                        | (refine RN.wpL_yes rfl rfl ?_)
                        | (refine RN.wpL_no rfl rfl (fun K hK => ?_); simp only [Act.put, List.setIfInBounds_toArray, List.set_cons_zero, List.set_cons_succ]; refine hK _ _ ?_; clear hK K)
                        | (refine RN.wpL_nil ?_))
                      go_wp2_with fail
                      go_roundw
                      case rel => exact ⟨k + 1, by omega, by go_num, HBJ.out.drew⟩
                      case measure => simp [intOf]; omega
                    · have q6 : (d'.op == 2) = false := by simpa using hw
                      have q7 : (d'.got != d.got) = false := by
                        have := hrd.out k j d d' hkj HD.out HD'.out h1 ho fun m x h5 h6 hm hc => by
                          rcases Nat.lt_or_eq_of_le h6 with h7 | rfl
                          · exact HNO.out h1 m x h5 h7 hm hc
                          · rw [HD'.out] at hm
                            obtain rfl := Option.some.inj hm
                            exact hw hc.2
                        simp [this]
                      go_wp2_with fail
                      refine RN.wp_region_t (wr.heap.size) [0, 0, 0, 0, 1, 0, 0, 0, 0, 1, 0, 0, 0, 0, 0, 0, 1, 0, 0] (.fin [0, 1, 2, 3, 4, 5, 6, 7, 8, 9, 10, 11, 12, 13, 14, 15, 16, 17, 18]) (by kernel_rfl) (by kernel_rfl) (by kernel_rfl) (by kernel_rfl) ?_
                      simp only [RN.wpT, selX, guardAt, List.getElem?_cons_zero, List.getElem?_cons_succ, List.getD_cons_zero, List.getD_cons_succ, Option.bind_some]
                      repeat (first
                        | (refine RN.wpL_p (fun K hK => ?_); go_simp; refine hK _ _ ?_; clear hK K)
                        | (refine RN.wpL_r (fun K hK => ?_); apply Exists.intro; refine ⟨fun w2 hw2 => ?_, hK _ _ ?_⟩; (have hk1 := hw2.cell; have hk3 := hw2.1; clear hw2; go_simp; with_reducible rfl); clear hK K; simp only [Act.put, List.setIfInBounds_toArray, List.set_cons_zero, List.set_cons_succ])
                        | (refine RN.wpL_yes rfl rfl ?_)
                        | (refine RN.wpL_no rfl rfl (fun K hK => ?_); simp only [Act.put, List.setIfInBounds_toArray, List.set_cons_zero, List.set_cons_succ]; refine hK _ _ ?_; clear hK K)
                        | (refine RN.wpL_nil ?_))
                      go_wp2_with fail
                      refine RN.wp_region_t (wr.heap.size) [0, 0, 0, 0, 1, 0, 0, 0, 0, 1, 0, 0, 0, 0, 0, 0, 1, 0, 0, 0, 0, 1, 0, 0] (.fin [0, 1, 2, 3, 4, 5, 6, 7, 8, 9, 10, 11, 12, 13, 14, 15, 16, 17, 18, 19, 20, 21, 22, 23]) (by kernel_rfl) (by kernel_rfl) (by kernel_rfl) (by kernel_rfl) ?_
                      simp only [RN.wpT, selX, guardAt, List.getElem?_cons_zero, List.getElem?_cons_succ, List.getD_cons_zero, List.getD_cons_succ, Option.bind_some]
                      repeat (first
                        | (refine RN.wpL_p (fun K hK => ?_); go_simp; refine hK _ _ ?_; clear hK K)
                        | (refine RN.wpL_r (fun K hK => ?_); apply Exists.intro; refine ⟨fun w2 hw2 => ?_, hK _ _ ?_⟩; (have hk1 := hw2.cell; have hk3 := hw2.1; clear hw2; go_simp; with_reducible rfl); clear hK K; simp only [Act.put, List.setIfInBounds_toArray, List.set_cons_zero, List.set_cons_succ])
                        | (refine RN.wpL_yes rfl rfl ?_)
                        | (refine RN.wpL_no rfl rfl (fun K hK => ?_); simp only [Act.put, List.setIfInBounds_toArray, List.set_cons_zero, List.set_cons_succ]; refine hK _ _ ?_; clear hK K)
                        | (refine RN.wpL_nil ?_))
                      go_wp2_with fail
                      go_roundw
                      case rel =>
                        refine ⟨j + 1, by omega, by omega, by go_num, HBJ.out.drew.drew, fun h m x h5 h6 hm hc => ?_⟩
                        rcases Nat.lt_or_eq_of_le (Nat.lt_succ_iff.1 h6) with h7 | rfl
                        · exact HNO.out h m x h5 h7 hm hc
                        · rw [HD'.out] at hm
                          obtain rfl := Option.some.inj hm
                          exact hw hc.2
                      case measure => simp [intOf]; omega
                  · have q5 : (d'.obj == d.obj) = false := by simpa using ho
                    go_wp2_with fail
                    refine RN.wp_region_t (wr.heap.size) [0, 0, 0, 0, 1, 0, 0, 0, 0, 1, 0, 0, 0, 0, 0, 0, 1, 0, 0] (.fin [0, 1, 2, 3, 4, 5, 6, 7, 8, 9, 10, 11, 12, 13, 14, 15, 16, 17, 18]) (by kernel_rfl) (by kernel_rfl) (by kernel_rfl) (by kernel_rfl) ?_
                    simp only [RN.wpT, selX, guardAt, List.getElem?_cons_zero, List.getElem?_cons_succ, List.getD_cons_zero, List.getD_cons_succ, Option.bind_some]
                    repeat (first
                      | (refine RN.wpL_p (fun K hK => ?_); go_simp; refine hK _ _ ?_; clear hK K)
                      | (refine RN.wpL_r (fun K hK => ?_); apply Exists.intro; refine ⟨fun w2 hw2 => ?_, hK _ _ ?_⟩; (have hk1 := hw2.cell; have hk3 := hw2.1; clear hw2; go_simp; with_reducible rfl); clear hK K; simp only [Act.put, List.setIfInBounds_toArray, List.set_cons_zero, List.set_cons_succ])
                      | (refine RN.wpL_yes rfl rfl ?_)
                      | (refine RN.wpL_no rfl rfl (fun K hK => ?_); simp only [Act.put, List.setIfInBounds_toArray, List.set_cons_zero, List.set_cons_succ]; refine hK _ _ ?_; clear hK K)
                      | (refine RN.wpL_nil ?_))
                    go_wp2_with fail
                    refine RN.wp_region_t (wr.heap.size) [0, 0, 0, 0, 1, 0, 0, 0, 0, 1, 0, 0, 0, 0, 0, 0, 1, 0, 0, 0, 0, 1, 0, 0] (.fin [0, 1, 2, 3, 4, 5, 6, 7, 8, 9, 10, 11, 12, 13, 14, 15, 16, 17, 18, 19, 20, 21, 22, 23]) (by kernel_rfl) (by kernel_rfl) (by kernel_rfl) (by kernel_rfl) ?_
                    simp only [RN.wpT, selX, guardAt, List.getElem?_cons_zero, List.getElem?_cons_succ, List.getD_cons_zero, List.getD_cons_succ, Option.bind_some]
                    repeat (first
                      | (refine RN.wpL_p (fun K hK => ?_); go_simp; refine hK _ _ ?_; clear hK K)
                      | (refine RN.wpL_r (fun K hK => ?_); apply Exists.intro; refine ⟨fun w2 hw2 => ?_, hK _ _ ?_⟩; (have hk1 := hw2.cell; have hk3 := hw2.1; clear hw2; go_simp; with_reducible rfl); clear hK K; simp only [Act.put, List.setIfInBounds_toArray, List.set_cons_zero, List.set_cons_succ])
                      | (refine RN.wpL_yes rfl rfl ?_)
                      | (refine RN.wpL_no rfl rfl (fun K hK => ?_); simp only [Act.put, List.setIfInBounds_toArray, List.set_cons_zero, List.set_cons_succ]; refine hK _ _ ?_; clear hK K)
                      | (refine RN.wpL_nil ?_))
                    go_wp2_with fail
                    go_roundw
                    case rel =>
                      refine ⟨j + 1, by omega, by omega, by go_num, HBJ.out.drew.drew, fun h m x h5 h6 hm hc => ?_⟩
                      rcases Nat.lt_or_eq_of_le (Nat.lt_succ_iff.1 h6) with h7 | rfl
                      · exact HNO.out h m x h5 h7 hm hc
                      · rw [HD'.out] at hm
                        obtain rfl := Option.some.inj hm
                        exact ho hc.1
                    case measure => simp [intOf]; omega
                · have q4 : (d.op == 1) = false := by simpa using h1
                  go_wp2_with fail
                  go_roundw
                  case rel => exact ⟨k + 1, by omega, by go_num, HBJ.out⟩
                  case measure => simp [intOf]; omega
              · obtain rfl : j = ds.length := by omega
                go_wp2_with fail
                go_roundw
                case rel => exact ⟨k + 1, by omega, by go_num, HBJ.out⟩
                case measure => simp [intOf]; omega
          · obtain rfl : k = ds.length := by omega
            go_wp2_with fail
            go_roundw
            case rel => exact ⟨i + 1, by omega, by go_num, HBK.out⟩
            case measure => simp [intOf]; omega
      · have q3 : (s.status != 3) = true := by simpa using h3
        go_wp2_with fail
        go_roundw
        case rel => exact ⟨i + 1, by omega, by go_num, HB.out⟩
        case measure => simp [intOf]; omega
    · obtain rfl : i = rs.length := by omega
      go_wp2
      go_ret
      exact ⟨rfl, B5.out.trans (HB.out.mono B5.out.size)⟩
end Go.Proofs.YtogphaiomlfofaaGreatDoor
