/- ClockAlone: each thread's steps behind one another. Printed by wip/tools/genlak.py. Conditions: those of each theorem, as typed. -/
import Derived.Test.YtogphaiomlfofaaGreatDoorCaAM
import Derived.Test.YtogphaiomlfofaaGreatDoorCaNM
import Derived.Test.YtogphaiomlfofaaGreatDoorQM02
set_option linter.unusedVariables false
set_option linter.unusedSimpArgs false
namespace Go.Proofs.YtogphaiomlfofaaGreatDoor
open Go.RowKit Go.Maps
set_option linter.unusedVariables false
set_option linter.unusedSimpArgs false
attribute [local irreducible] wpL RN.wpL

theorem lall_table {P : Pg} {M : LM} {A : Au} (hv : ValidIs P) (h : Lall P M A) : M.W.evs.length ≤ 400 ∧ (∀ e ∈ M.W.evs, EvOk (obsOf P).length e) ∧ Fed M.W.evs A ∧ RegOk (obsOf P) ∧ obsOf P ≠ [] := by
  have hc := hv.ok.cells
  refine ⟨h.evs, fun e he => ?_, h.ji.fed, ⟨by simp [obsOf]; omega, fun o ho => ?_⟩, fun e => ?_⟩
  · have := h.ji.evs e he
    simpa [obsOf] using this
  · obtain ⟨c, hc, rfl⟩ := List.mem_map.1 ho
    have := hv.ok.cell c hc
    exact ⟨rfl, by show -1000000000 ≤ c; omega, by show c ≤ 1000000000; omega⟩
  · have : (obsOf P).length = 0 := by rw [e]; rfl
    simp [obsOf] at this
    rw [this] at hc; simp at hc
theorem Alo.tx {P : Pg} {M : LM} {A : Au} {i : Nat} {t : Th} {x : Nx} {b v : List Int} (h : Alo P M A i t x b v) : M.W.ths[i]? = some t := h.ht
set_option maxRecDepth 100000 in
set_option maxHeartbeats 4000000 in
theorem law_clockAlone (vc vt : Value) (P : Pg) (w : World) (hG : Glob w) (h : PgIs w w.heap.size vc vt P) :
    Calls Tryz.prog 8 #[.agg #[vc, vt]] w fun e w' => e = .returned (.bool true) ∧ Below w.heap.size w w' := by
  obtain ⟨ac, cc, rfl, mc⟩ := h.cells.ex
  obtain ⟨at', ct, rfl, mt⟩ := h.thr.ex
  have b0 : Below w.heap.size w (w.alloc (.cells #[.slice ac P.cells.length cc, .slice at' P.threads.length ct] 25)) := (Below.refl _ w).alloc (Nat.le_refl _) _
  have r0 := row_new w (.cells #[.slice ac P.cells.length cc, .slice at' P.threads.length ct] 25)
  have hf := hid (l_first19 _ (hG.below b0))
  have H := hid h
  have HG := hid hG
  have B0 := hid b0
  have R0 := hid r0
  have l0 := row_lt r0
  clear h hG b0 r0
  go_enter Tryz.func8, Tryz.ntmps8
  go_wp2_with fail
  generalize w.alloc (.cells #[.slice ac P.cells.length cc, .slice at' P.threads.length ct] 25) = W at *
  refine (hf.out).mono ?_
  rintro e W1 ⟨rfl, b1⟩
  have r1 := row_below R0.out b1 l0
  have l1 := row_lt r1
  have y0 := row_cell r1 0
  have y1 := row_cell r1 1
  simp at y0 y1
  have B1 := hid (B0.out.trans (b1.mono B0.out.size))
  have hz1 := B1.out.size
  have hsm := hid (l_small19 _ _ P W1 ((H.out.below B1.out).more hz1))
  have R1 := hid r1
  clear r1 b1 hf
  go_wp2_with fail
  refine (hsm.out).mono ?_
  rintro e W2 ⟨b, rfl, hb20, b2⟩
  have r2 := row_below R1.out b2 l1
  have l2 := row_lt r2
  clear y0 y1
  have y0 := row_cell r2 0
  have y1 := row_cell r2 1
  simp at y0 y1
  have B2 := hid (B1.out.trans (b2.mono hz1))
  have hz2 := B2.out.size
  have R2 := hid r2
  clear r2 b2 hsm
  cases b with
  | false =>
    go_wp2
    go_ret
    exact ⟨rfl, B2.out⟩
  | true =>
  have h20 := hb20 rfl
  clear hb20
  have hG2 := HG.out.below B2.out
  obtain ⟨g1, ⟨tt, tv, g2⟩, g3⟩ := hG2
  have hF := hid (la_new _ _ P W2 ((H.out.below B2.out).more hz2) (.iface tt tv) g2 ⟨_, _, rfl⟩ (by omega) (by omega))
  have GW := hid g3
  clear g2 g3
  go_wp2_with fail
  refine (hF.out).mono ?_
  rintro e W3 ⟨hv, b3⟩
  have B3 := hid (B2.out.trans (b3.mono hz2))
  have hW3 := hid (GW.out.below b3)
  rcases hv with ⟨-, rfl⟩ | ⟨hval, C, us, ve, rfl, hCB, hla⟩
  · clear hF b3
    go_wp2
    go_ret
    exact ⟨rfl, B3.out⟩
  have H3 := hid (show PgIs W3 W2.heap.size (.slice ac P.cells.length cc) (.slice at' P.threads.length ct) P from ((H.out.below B2.out).more hz2).below b3)
  have R3 := hid (row_below R2.out b3 l2)
  have Y1 := hid (show W3.cell? ⟨w.heap.size, 1, none⟩ = some (.slice at' P.threads.length ct) from by have := row_cell R3.out 1; simpa using this)
  have hz3 := b3.size
  have hlt3 : w.heap.size < W3.heap.size := by omega
  have HB3 := hid b3
  have HV := hid hval
  have HL := hid hla
  have HO0 := hid (Out.start hval.ok)
  have h4 := hval.ok.threads
  rw [← hCB] at l2
  clear hF b3 y0 y1 hla hval
  go_wp2_with fail
  go_loopw [6] (fun p wr => ∃ (i : Nat), i ≤ P.threads.length ∧ p = .int .i64 i ∧ ∃ M A ve us, Out P M A i ∧ Below C.B W3 wr ∧ LaAt wr C ve us P M) (fun p _ => P.threads.length - (intOf p).toNat)
  case atStart => exact ⟨0, by omega, by go_num, _, _, _, _, HO0.out, Below.refl _ _, HL.out⟩
  case round =>
    obtain ⟨i, hi, rfl, M, A, ve1, us1, hO, hB, hL⟩ := hrel
    have HO := hid hO
    have HB := hid hB
    have HL1 := hid hL
    have y1 := cell_below hB l2 Y1.out
    have lw : w.heap.size < wr.heap.size := by have := hL.size; omega
    clear hO hB hL
    by_cases hlt : i < P.threads.length
    · go_wp2_with fail
      obtain ⟨wo, rfl⟩ : ∃ wo, wo = wr := ⟨_, rfl⟩
      clear y1
      go_loopw [7] (fun p wr => ∃ (s : Nat), s ≤ 151 ∧ p = .int .i64 s ∧ ∃ M A t x v ve us, Alo P M A i t x ((P.threads.take i).foldl thF P.cells) v ∧ s ≤ Rk t x ∧ Below C.B W3 wr ∧ LaAt wr C ve us P M) (fun p _ => 400 - (intOf p).toNat)
      case atStart => exact ⟨0, by omega, by go_num, M, A, Th.zero, .none, _, _, _, HO.out.alo hlt (fun n => foldl_len _ _), Nat.zero_le _, HB.out, HL1.out⟩
      case round =>
        obtain ⟨s, hs, rfl, M2, A2, t2, x2, v2, ve2, us2, hA2, hrk, hB2, hL2⟩ := hrel
        have HA2 := hid hA2
        have HB2 := hid hB2
        have HL2 := hid hL2
        have q : decide ((s : Int) < 400) = true := by simp; omega
        have lw2 : w.heap.size < wr.heap.size := by have := hL2.size; omega
        clear hA2 hB2 hL2
        go_wp2_with fail
        refine (la_step HL2.out HA2.out.al.li.can i).mono ?_
        rintro e w5 ⟨rfl, hb5, ve5, us5, hl5⟩
        have HB5 := hid (HB2.out.trans hb5)
        have HL5 := hid hl5
        clear hb5 hl5
        cases hd : wDone P M2.W i with
        | true =>
          have he : stepTo P M2 i = M2 := by unfold stepTo; rw [hd]; rfl
          have HD := hid hd
          have HE := hid he
          clear hd he
          go_wp2_with fail
          go_roundw
          case rel => exact ⟨i + 1, by omega, by go_num, M2, A2, ve5, us5, HA2.out.out hlt HD.out, HB5.out, by rw [← HE.out]; exact HL5.out⟩
          case measure => simp [intOf]; omega
        | false =>
          have hdn : thDone P i t2 = false := by rw [← wDone_th HA2.out.ht]; exact hd
          have hr := HA2.out.rank hlt hdn
          obtain ⟨A6, t6, x6, v6, h6, hlt6⟩ := HA2.out.step hlt hd
          have H6 := hid h6
          clear hd h6
          go_wp2_with fail
          go_roundw
          case rel => exact ⟨s + 1, by omega, by go_num, _, A6, t6, x6, v6, ve5, us5, H6.out, by omega, HB5.out, HL5.out⟩
          case measure => simp [intOf]; omega
    · obtain rfl : i = P.threads.length := by omega
      obtain ⟨hall, hcs, hAs⟩ := HO.out.all
      obtain ⟨hel, hes, hfd, hreg, hne⟩ := lall_table HV.out HO.out.al
      have HX := hid (And.intro hall hcs)
      have HAS := hid hAs
      have HT5 := hid (And.intro hel (And.intro hes (And.intro hfd (And.intro hreg hne))))
      clear hall hcs hAs hel hes hfd hreg hne
      go_wp2_with fail
      refine (la_history HL1.out HO.out.al.li.can.evs).mono ?_
      rintro e V ⟨ov, vv, rfl, ho, hv, bV⟩
      have hBr := HL1.out.size
      have HLV := hid (HL1.out.below bV)
      have BV := hid (HB.out.trans (bV.mono hBr))
      have hzV := bV.size
      have BW := hid (HB3.out.trans (show Below W2.heap.size W3 V from by rw [← hCB]; exact BV.out))
      have B9 := hid (B2.out.trans (BW.out.mono hz2))
      have hT := hid (sh_Table _ _ (obsOf P) M.W.evs A V (OwnF.sl ho) (OwnF.sl hv) HT5.out.2.2.2.2 HT5.out.2.2.2.1 HT5.out.1 HT5.out.2.1 (GW.out.below BW.out) HT5.out.2.2.1)
      clear ho hv bV y1
      go_wp2_with fail
      refine (hT.out).mono ?_
      rintro e W5 ⟨tv', rfl, hA, b5⟩
      have BX := hid (BW.out.trans (b5.mono BW.out.size))
      have HLX := hid (HLV.out.below b5)
      have l5 : w.heap.size < W5.heap.size := by have := b5.size; omega
      have z5 : W2.heap.size ≤ W5.heap.size := BX.out.size
      have r5 := hid (row_below R3.out (show Below W2.heap.size W3 W5 from by rw [← hCB]; exact BV.out.trans (b5.mono (by omega))) (by omega))
      obtain ⟨rs, hv, hvl, hvc⟩ := hA
      obtain ⟨ta, tc, rfl⟩ := OwnF.slv hv
      have hbig : rs.length ≤ 9223372036854775807 := by obtain ⟨_, _, _, hb⟩ := OwnF.form2 hv; exact hb
      have HV5 := hid hv
      have HVC := hid hvc
      have Y5 := hid (show W5.cell? ⟨w.heap.size, 1, none⟩ = some (.slice at' P.threads.length ct) from by have := row_cell r5.out 1; simpa using this)
      have Y50 := hid (show W5.cell? ⟨w.heap.size, 0, none⟩ = some (.slice ac P.cells.length cc) from by have := row_cell r5.out 0; simpa using this)
      have H5 := hid ((H.out.below (B2.out.trans (BX.out.mono hz2))).more (show w.heap.size ≤ W5.heap.size by omega))
      clear hv hvc hT b5
      go_wp2_with fail
      go_loopw [10] (fun p wr => ∃ i : Nat, i ≤ rs.length ∧ p = .int .i64 i ∧ Below W5.heap.size W5 wr) (fun p _ => rs.length - (intOf p).toNat)
      case atStart => exact ⟨0, by omega, by go_num, Below.refl _ _⟩
      case round =>
        obtain ⟨j, hj, rfl, hB⟩ := hrel
        have hz := hB.size
        have y1 := cell_below hB l5 Y5.out
        have lw5 : w.heap.size < wr.heap.size := by omega
        have HB9 := hid hB
        clear hB
        by_cases hlj : j < rs.length
        · obtain ⟨s, hs⟩ : ∃ s, A[j]? = some s := ⟨_, List.getElem?_eq_getElem (by omega)⟩
          obtain ⟨b, off, r, hat, hb, hr, hc⟩ := (OwnF.sl HV5.out).atF TxR.len rfl hlj
          obtain ⟨⟨ho0, -, ho2, -⟩, -⟩ := HVC.out j r s hr hs
          obtain ⟨rid, rth, rst, rbe, rfi, rtr, rdv⟩ := r
          simp only at ho0 ho2
          subst ho0 ho2
          obtain ⟨ti, k, hti, hk, hid', hst⟩ := HAS.out s (List.mem_of_getElem? hs)
          have c0 : wr.cell? ⟨b, off + j * 7, none⟩ = some (.int .i64 (idOf ti k)) := by rw [← hid']; exact cell_below HB9.out hb (hc 0 (by decide))
          have c2 : wr.cell? ⟨b, off + j * 7 + 2, none⟩ = some (.int .i64 s.status) := cell_below HB9.out hb (hc 2 (by decide))
          have hbw : b < wr.heap.size := by omega
          subst hat
          have hk3 : k < 3 := by have := Pg.tx3 HV.out.ok hti; omega
          have HST := hid hst
          clear hr hc hs hid' hst
          obtain ⟨b6, off6, u6, t6, hat6, hb6, ht6, hu6, hut6⟩ := H5.out.thr.at rfl hti
          obtain ⟨au6, cu6, rfl, -⟩ := hut6.ex
          have htx6 : P.txs ti = t6 := Pg.txs_at ht6
          rw [htx6] at hk
          obtain ⟨b7, off7, u7, l7, hat7, hb7, hl7, hu7, hul7⟩ := IsL.at hut6 rfl hk
          obtain ⟨al7, cl7, rfl, -⟩ := Sl.ex (show Sl W5 W5.heap.size 3 u7 l7.length (l7.flatMap Ac.cells) from hul7)
          have hu6 := cell_below HB9.out hb6 hu6
          have hu7 := cell_below HB9.out hb7 hu7
          have hla : P.acts ti k = l7 := by unfold Pg.acts; rw [htx6, List.getD_eq_getElem?_getD, hl7]; rfl
          have hl6 := HV.out.ok.acts t6 (List.mem_of_getElem? ht6) l7 (List.mem_of_getElem? hl7)
          obtain ⟨n, hn⟩ : ∃ n, l7.length = n + 1 := ⟨l7.length - 1, by omega⟩
          obtain ⟨b8, o8, a, hal8, hb8, ha, hc8⟩ := (show Sl W5 W5.heap.size 3 (.slice al7 l7.length cl7) l7.length (l7.flatMap Ac.cells) from hul7).atF Ac.len rfl (show n < l7.length by omega)
          have q0 : wr.cell? ⟨b8, o8 + n * 3, none⟩ = some (.int .i64 a.kind) := cell_below HB9.out hb8 (hc8 0 (by decide))
          have hlast := last_eq hn ha
          have hbw6 : b6 < wr.heap.size := by omega
          have hbw7 : b7 < wr.heap.size := by omega
          have hbw8 : b8 < wr.heap.size := by omega
          have wl : wrap64 ((l7.length : Int) - 1) = (n : Int) := by rw [IntWalk.wrap64_in _ (by omega)]; omega
          have wl2 : (l7.length : Int) - 1 = (n : Int) := by omega
          have hst : s.status = 4 ↔ a.kind = 4 := by have h := HST.out; rw [hla, hlast] at h; simpa using h
          subst hat6 hat7 hal8
          have hnl : n < l7.length := by omega
          have wn : IntKind.i64.wrap (n : Int) = (n : Int) := IntWalk.i64_in _ (by omega)
          have hl9 : l7.length ≤ 6 := hl6.2
          clear ht6 hut6 hl7 hul7 ha hc8 hla hlast htx6 hn hl6
          go_wp2_with fail
          refine (place_id ti k (by omega) hk3 wr).mono ?_
          rintro e w9 ⟨rfl, rfl⟩
          by_cases h44 : s.status = 4
          · have e1 : (s.status == 4) = true := by simp [h44]
            have e2 : (a.kind == 4) = true := by simp [hst.1 h44]
            go_wp2_with fail
            refine wp_region_x [0, 0, 0, 0, 1, 0, 0, 0, 0, 0, 0, 0, 1, 0, 0] [0, 1, 2, 3, 4, 5, 6, 7, 8, 9, 10, 11, 12, 13, 14] (by kernel_rfl) (by kernel_rfl) rfl (by kernel_rfl) ?_
            simp only [selX, guardAt, sD, sE, sF, sG]
            repeat (first | (refine wpL_p (fun K hK => ?_); go_simp; refine hK _ _ ?_; clear hK K) | (apply wpL_s; (intro w2 hw2; have hk1 := hw2.cell; have hk3 := hw2.heap; clear hw2; go_simp; with_reducible rfl); simp only [Act.put, sA, sB, sC]) | (refine wpL_nil ?_))
            go_wp2_with fail
            go_roundw
            case rel => exact ⟨j + 1, by omega, by go_num, HB9.out.drew⟩
            case measure => simp [intOf]; omega
          · have e1 : (s.status == 4) = false := by simp [h44]
            have e2 : (a.kind == 4) = false := by simp; exact fun h => h44 (hst.2 h)
            go_wp2_with fail
            refine wp_region_x [0, 0, 0, 0, 1, 0, 0, 0, 0, 0, 0, 0, 1, 0, 0] [0, 1, 2, 3, 4, 5, 6, 7, 8, 9, 10, 11, 12, 13, 14] (by kernel_rfl) (by kernel_rfl) rfl (by kernel_rfl) ?_
            simp only [selX, guardAt, sD, sE, sF, sG]
            repeat (first | (refine wpL_p (fun K hK => ?_); go_simp; refine hK _ _ ?_; clear hK K) | (apply wpL_s; (intro w2 hw2; have hk1 := hw2.cell; have hk3 := hw2.heap; clear hw2; go_simp; with_reducible rfl); simp only [Act.put, sA, sB, sC]) | (refine wpL_nil ?_))
            go_wp2_with fail
            go_roundw
            case rel => exact ⟨j + 1, by omega, by go_num, HB9.out.drew⟩
            case measure => simp [intOf]; omega
        · obtain rfl : j = rs.length := by omega
          have HLW := hid (HLX.out.below HB9.out)
          have y0 := cell_below HB9.out l5 Y50.out
          have BE := hid (B2.out.trans ((BX.out.trans (HB9.out.mono z5)).mono hz2))
          have bd : Below wr.heap.size wr wr.drew := (Below.refl _ wr).drew
          go_wp2_with fail
          refine RN.wp_region_t (wr.heap.size) [0, 0, 0, 0, 2, 0, 0, 0, 3, 1, 2, 2, 0, 0] (.fin [0, 1, 2, 3, 4, 5, 6, 7, 9, 8, 10, 11, 12, 13]) (by kernel_rfl) (by kernel_rfl) (by kernel_rfl) (by kernel_rfl) ?_
          simp only [RN.wpT, selX, guardAt, sD, sE, sF, sG, Option.bind_some]
          repeat (first | (refine RN.wpL_p (fun K hK => ?_); go_simp; refine hK _ _ ?_; clear hK K) | (apply RN.wpL_s; (intro w2 hw2; have hk1 := hw2.cell; have hk3 := hw2.1; clear hw2; go_simp; with_reducible rfl); simp only [Act.put, sA, sB, sC]) | (refine RN.wpL_yes rfl rfl ?_) | (refine RN.wpL_no rfl rfl (fun K hK => ?_); simp only [Act.put, sA, sB, sC]; refine hK _ _ ?_; clear hK K) | (refine RN.wpL_nil ?_))
          refine RN.wpL_e (fun K hK => ?_)
          go_simp
          refine (la_done (HLW.out.below bd)).mono ?_
          rintro e U1 ⟨rfl, bU1⟩
          refine hK _ _ ?_
          clear hK K
          rw [HX.out.1]
          have BU1 := hid (bd.trans bU1)
          have x0 := cell_below BU1.out lw5 y0
          have x1 := cell_below BU1.out lw5 y1
          have lx : w.heap.size < U1.heap.size := by have := BU1.out.size; omega
          clear bU1 bd y0 y1
          repeat (first | (refine RN.wpL_p (fun K hK => ?_); go_simp; refine hK _ _ ?_; clear hK K) | (apply RN.wpL_s; (intro w2 hw2; have hk1 := hw2.cell; have hk3 := hw2.1; clear hw2; go_simp; with_reducible rfl); simp only [Act.put, sA, sB, sC]) | (refine RN.wpL_yes rfl rfl ?_) | (refine RN.wpL_no rfl rfl (fun K hK => ?_); simp only [Act.put, sA, sB, sC]; refine hK _ _ ?_; clear hK K) | (refine RN.wpL_nil ?_))
          refine RN.wpL_k (fun K hK => ?_)
          go_simp
          refine (la_CellsV (HLW.out.below BU1.out)).mono ?_
          rintro e U2 ⟨v7, rfl, o7, b7⟩
          refine hK _ _ (RN.KeepsN.of_below (b7.mono (by have := BU1.out.size; omega))) ?_
          clear hK K
          rw [HX.out.2] at o7
          have BU2 := hid (BU1.out.trans (b7.mono BU1.out.size))
          have O7 := hid o7
          clear b7 o7
          repeat (first | (refine RN.wpL_p (fun K hK => ?_); go_simp; refine hK _ _ ?_; clear hK K) | (apply RN.wpL_s; (intro w2 hw2; have hk1 := hw2.cell; have hk3 := hw2.1; clear hw2; go_simp; with_reducible rfl); simp only [Act.put, sA, sB, sC]) | (refine RN.wpL_yes rfl rfl ?_) | (refine RN.wpL_no rfl rfl (fun K hK => ?_); simp only [Act.put, sA, sB, sC]; refine hK _ _ ?_; clear hK K) | (refine RN.wpL_nil ?_))
          refine RN.wpL_e (fun K hK => ?_)
          go_simp
          refine (l_alone _ _ P U2 HV.out.ok ((H.out.below (BE.out.trans (BU2.out.mono (by omega)))).more (by have := BU2.out.size; omega))).mono ?_
          rintro e U3 ⟨v8, rfl, o8, b8⟩
          refine hK _ _ ?_
          clear hK K
          have BU3 := hid (BU2.out.trans (b8.mono BU2.out.size))
          have O9 := hid (OwnF.below O7.out b8)
          have O8 := hid o8
          clear b8 o8
          repeat (first | (refine RN.wpL_p (fun K hK => ?_); go_simp; refine hK _ _ ?_; clear hK K) | (apply RN.wpL_s; (intro w2 hw2; have hk1 := hw2.cell; have hk3 := hw2.1; clear hw2; go_simp; with_reducible rfl); simp only [Act.put, sA, sB, sC]) | (refine RN.wpL_yes rfl rfl ?_) | (refine RN.wpL_no rfl rfl (fun K hK => ?_); simp only [Act.put, sA, sB, sC]; refine hK _ _ ?_; clear hK K) | (refine RN.wpL_nil ?_))
          refine RN.wpL_e (fun K hK => ?_)
          go_simp
          refine (sameInts_eq v7 v8 (aloneF P) _ U3 (OwnI.sli O9.out) (OwnI.sli O8.out)).mono ?_
          rintro e U4 ⟨rfl, b9⟩
          refine hK _ _ ?_
          clear hK K
          have BU4 := hid (BU3.out.trans (b9.mono BU3.out.size))
          clear b9
          repeat (first | (refine RN.wpL_p (fun K hK => ?_); go_simp; refine hK _ _ ?_; clear hK K) | (apply RN.wpL_s; (intro w2 hw2; have hk1 := hw2.cell; have hk3 := hw2.1; clear hw2; go_simp; with_reducible rfl); simp only [Act.put, sA, sB, sC]) | (refine RN.wpL_yes rfl rfl ?_) | (refine RN.wpL_no rfl rfl (fun K hK => ?_); simp only [Act.put, sA, sB, sC]; refine hK _ _ ?_; clear hK K) | (refine RN.wpL_nil ?_))
          go_wp2
          go_ret
          exact ⟨rfl, BE.out.trans (BU4.out.mono (by omega))⟩
end Go.Proofs.YtogphaiomlfofaaGreatDoor
