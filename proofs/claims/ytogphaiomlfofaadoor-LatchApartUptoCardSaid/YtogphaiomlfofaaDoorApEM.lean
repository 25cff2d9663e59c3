/- LatchApart: two threads that name no cell in common.  Conditions: those of each theorem, as typed. -/
import Derived.Test.YtogphaiomlfofaaDoorApBM
import Derived.Test.YtogphaiomlfofaaDoorApCM
import Derived.Test.YtogphaiomlfofaaDoorApPM
import Derived.Test.YtogphaiomlfofaaDoorApRM
import Derived.Test.YtogphaiomlfofaaDoorTaNM
set_option linter.unusedVariables false
set_option linter.unusedSimpArgs false
namespace Go.Proofs.YtogphaiomlfofaaDoor
open Go.RowKit Go.Maps
set_option linter.unusedVariables false
set_option linter.unusedSimpArgs false
attribute [local irreducible] wpL RN.wpL

set_option maxRecDepth 100000 in
set_option maxHeartbeats 4000000 in
theorem law_latchApart (vc vt : Value) (P : Pg) (sv : Value) (l : List Int) (w : World) (hG : Glob w) (h : PgIs w w.heap.size vc vt P) (hs : Sl w w.heap.size 1 sv l.length (l.map (.int .i64))) :
    Calls Tryd.prog 3 #[.agg #[vc, vt], sv] w fun e w' => e = .returned (.bool true) ∧ Below w.heap.size w w' := by
  obtain ⟨ac, cc, rfl, mc⟩ := h.cells.ex
  obtain ⟨at', ct, rfl, mt⟩ := h.thr.ex
  obtain ⟨sa, sc, rfl, ms⟩ := hs.ex
  have b0 : Below w.heap.size w (w.alloc (.cells #[.slice ac P.cells.length cc, .slice at' P.threads.length ct] 25)) := (Below.refl _ w).alloc (Nat.le_refl _) _
  have r0 := row_new w (.cells #[.slice ac P.cells.length cc, .slice at' P.threads.length ct] 25)
  have hf := hid (l_first20 _ (hG.below b0))
  have H := hid h
  have HS := hid hs
  have HG := hid hG
  have B0 := hid b0
  have R0 := hid r0
  have l0 := row_lt r0
  clear h hs hG b0 r0
  go_enter Tryd.func3, Tryd.ntmps3
  go_wp2_with fail
  generalize w.alloc (.cells #[.slice ac P.cells.length cc, .slice at' P.threads.length ct] 25) = W at *
  refine (hf.out).mono ?_
  rintro e W1 ⟨rfl, b1⟩
  have r1 := row_below R0.out b1 l0
  have l1 := row_lt r1
  have y0 := row_cell r1 0
  have y1 := row_cell r1 1
  simp at y0 y1
  have B1 := hid (B0.out.trans (b1.mono B0.out.size))
  have hz1 := B1.out.size
  have hsm := hid (l_small20 _ _ P W1 ((H.out.below B1.out).more hz1))
  have R1 := hid r1
  clear r1 b1 hf
  go_wp2_with fail
  refine (hsm.out).mono ?_
  rintro e W2 ⟨b, rfl, hb20, b2⟩
  have r2 := row_below R1.out b2 l1
  have l2 := row_lt r2
  clear y0 y1
  have y0 := row_cell r2 0
  have y1 := row_cell r2 1
  simp at y0 y1
  have B2 := hid (B1.out.trans (b2.mono hz1))
  have hz2 := B2.out.size
  have R2 := hid r2
  clear r2 b2 hsm
  cases b with
  | false =>
    go_wp2
    go_ret
    exact ⟨rfl, B2.out⟩
  | true =>
  have h20 := hb20 rfl
  clear hb20
  by_cases hl : l.length ≤ 300
  case neg =>
    have q : decide (300 < l.length) = true := by simp; omega
    have q2 : decide ((300 : Int) < (l.length : Int)) = true := by simp; omega
    go_wp2
    go_ret
    exact ⟨rfl, B2.out⟩
  case pos =>
  have q : decide (300 < l.length) = false := by simp; omega
  have q2 : decide ((300 : Int) < (l.length : Int)) = false := by simp; omega
  by_cases h2 : 2 ≤ P.threads.length
  case neg =>
    have q3 : decide (P.threads.length < 2) = true := by simp; omega
    have q4 : decide ((P.threads.length : Int) < 2) = true := by simp; omega
    go_wp2
    go_ret
    exact ⟨rfl, B2.out⟩
  case pos =>
  have q3 : decide (P.threads.length < 2) = false := by simp; omega
  have q4 : decide ((P.threads.length : Int) < 2) = false := by simp; omega
  have hG2 := HG.out.below B2.out
  obtain ⟨g1, ⟨tt, tv, g2⟩, -⟩ := hG2
  have hV := hid (p_Valid _ _ P W2 ((H.out.below B2.out).more hz2) (.iface tt tv) g2 (by omega))
  clear g2
  go_wp2_with fail
  refine (hV.out).mono ?_
  rintro e W3 ⟨hv, b3⟩
  have r3 := row_below R2.out b3 l2
  have l3 := row_lt r3
  clear y0 y1
  have y0 := row_cell r3 0
  have y1 := row_cell r3 1
  simp at y0 y1
  have B3 := hid (B2.out.trans (b3.mono hz2))
  have hz3 := B3.out.size
  have R3 := hid r3
  clear r3 b3 hV
  rcases hv with ⟨hok, rfl⟩ | ⟨-, rfl⟩
  case inr =>
    go_wp2
    go_ret
    exact ⟨rfl, B3.out⟩
  have HV := hid hok
  have hP := hid (ref_Program _ _ P W3 ((H.out.below B3.out).more hz3) hok.ok)
  have hn4 := hok.ok.threads
  clear hok
  go_wp2_with fail
  refine (hP.out).mono ?_
  rintro e W4 ⟨uc, ut, rfl, ho, ht, b4⟩
  obtain ⟨au, cu, rfl⟩ := OwnF.slv ho
  obtain ⟨gq, cq, rfl, hcap⟩ : ∃ g c, ut = .slice (some ⟨g, 0, none⟩) P.threads.length c ∧ P.threads.length ≤ c := by
    obtain ⟨vs, a1, a2, -⟩ := ht
    obtain ⟨-, ⟨-, h⟩ | ⟨g1, cap, cur, h, -, hr, hc, -⟩⟩ := a1
    · omega
    · exact ⟨g1, cap, by rw [h, a2], by omega⟩
  have r4 := row_below R3.out b4 l3
  have B4 := hid (B3.out.trans (b4.mono hz3))
  have hz4 := B4.out.size
  have l4 := row_lt r4
  have lq : w.heap.size < W4.heap.size := by omega
  have bX : Below W4.heap.size W4 (W4.alloc (.cells #[.slice au P.cells.length cu, .slice (some ⟨gq, 0, none⟩) 2 cq] 25)) := (Below.refl _ W4).alloc (Nat.le_refl _) _
  have rX : (W4.alloc (.cells #[.slice au P.cells.length cu, .slice (some ⟨gq, 0, none⟩) 2 cq] 25)).heap[W4.heap.size]? = some (.cells #[.slice au P.cells.length cu, .slice (some ⟨gq, 0, none⟩) 2 cq] 25 (0, 0)) := row_new W4 _
  have HQ := hid (show PgIs W4 W4.heap.size (.slice au P.cells.length cu) (.slice (some ⟨gq, 0, none⟩) 2 cq) (two P) from ⟨by rw [← flat_int]; exact OwnF.sl ho, ht.isx.front h2⟩)
  have BX := hid bX
  have RX := hid rX
  clear ho ht b4 r4 y0 y1 bX rX hP
  go_wp2_with fail
  generalize W4.alloc (.cells #[.slice au P.cells.length cu, .slice (some ⟨gq, 0, none⟩) 2 cq] 25) = V at *
  have lV := row_lt RX.out
  have BV := hid (B4.out.trans (BX.out.mono hz4))
  have HQV := hid ((HQ.out.below BX.out).more BX.out.size)
  have Y6 := hid (show V.cell? ⟨W4.heap.size, 1, none⟩ = some (.slice (some ⟨gq, 0, none⟩) 2 cq) from by have := row_cell RX.out 1; simpa using this)
  have ht2 : (two P).threads.length = 2 := by simp [two]; omega
  have hq6 : w.heap.size < W4.heap.size := lq
  generalize W4.heap.size = p6 at *
  go_loopw [7] (fun p wr => ∃ i : Nat, i ≤ 2 ∧ p = .int .i64 i ∧ Below V.heap.size V wr ∧ ∀ (i' k j : Nat) (a : Ac), i' < i → ((two P).acts i' k)[j]? = some a → ParA i' a) (fun p _ => 2 - (intOf p).toNat)
  case atStart => exact ⟨0, by omega, by go_num, Below.refl _ _, fun i' k j a h => by omega⟩
  case round =>
    obtain ⟨i, hi, rfl, hB, hok⟩ := hrel
    have HB := hid hB
    have HOK := hid hok
    have zB := hB.size
    have y6 := cell_below hB lV Y6.out
    clear hB hok
    by_cases hlt : i < 2
    · obtain ⟨b, off, u, t, hat, hb, ht, hu, hut⟩ := HQV.out.thr.at rfl hlt
      obtain ⟨au2, cu2, rfl, -⟩ := hut.ex
      simp only [Option.some.injEq, Addr.mk.injEq] at hat
      obtain ⟨rfl, rfl, -⟩ := hat
      rw [Nat.zero_add] at hu
      have HU := hid hu
      have hu := cell_below HB.out hb hu
      have hbz : gq < wr.heap.size := by omega
      have HUT := hid hut
      have htxs : (two P).txs i = t := Pg.txs_at ht
      have HT := hid htxs
      have ht3 : t.length ≤ 3 := (two_valid HV.out h2).ok.txs t (List.mem_of_getElem? ht)
      have hta := hid ((two_valid HV.out h2).ok.acts t (List.mem_of_getElem? ht))
      clear ht hut htxs
      go_wp2_with fail
      clear hu y6
      go_loopw [8] (fun p ws => ∃ k : Nat, k ≤ t.length ∧ p = .int .i64 k ∧ Below V.heap.size V ws ∧ ∀ (k' j : Nat) (a : Ac), k' < k → ((two P).acts i k')[j]? = some a → ParA i a) (fun p _ => t.length - (intOf p).toNat)
      case atStart => exact ⟨0, by omega, by go_num, HB.out, fun k' j a h => by omega⟩
      case round =>
        obtain ⟨k, hk, rfl, hB, hok⟩ := hrel
        have HB2 := hid hB
        have HOK2 := hid hok
        have zB2 := hB.size
        have y6 := cell_below hB lV Y6.out
        have hu := cell_below hB hb HU.out
        have hbz2 : gq < wr.heap.size := by omega
        have l62 : p6 < wr.heap.size := by omega
        clear hB hok
        by_cases hlk : k < t.length
        · obtain ⟨b', off', u', l1', hal, hb', hl1', hu', hul⟩ := HUT.out.at rfl hlk
          obtain ⟨al, cl, rfl, -⟩ := Sl.ex (show Sl V V.heap.size 3 u' l1'.length (l1'.flatMap Ac.cells) from hul)
          have HU' := hid hu'
          have hu' := cell_below HB2.out hb' hu'
          have hbz' : b' < wr.heap.size := by omega
          have HUL := hid (show Sl V V.heap.size 3 (.slice al l1'.length cl) l1'.length (l1'.flatMap Ac.cells) from hul)
          have hl6 := hta.out l1' (List.mem_of_getElem? hl1')
          have hacts : (two P).acts i k = l1' := by unfold Pg.acts; rw [HT.out, List.getD_eq_getElem?_getD, hl1']; rfl
          have HA := hid hacts
          subst hal
          clear hl1' hul hacts
          go_wp2_with fail
          clear hu hu' y6
          go_loopw [9] (fun p wt => ∃ j : Nat, j ≤ l1'.length ∧ p = .int .i64 j ∧ Below V.heap.size V wt ∧ ∀ (j' : Nat) (a : Ac), j' < j → l1'[j']? = some a → ParA i a) (fun p _ => l1'.length - (intOf p).toNat)
          case atStart => exact ⟨0, by omega, by go_num, HB2.out, fun j' a h => by omega⟩
          case round =>
            obtain ⟨j, hj, rfl, hB, hok⟩ := hrel
            have HB3 := hid hB
            have HOK3 := hid hok
            have zB3 := hB.size
            have y6 := cell_below hB lV Y6.out
            have hu := cell_below hB hb HU.out
            have hu' := cell_below hB hb' HU'.out
            have l63 : p6 < wr.heap.size := by omega
            have hbz3 : gq < wr.heap.size := by omega
            have hbz3' : b' < wr.heap.size := by omega
            clear hB hok
            by_cases hlj : j < l1'.length
            · obtain ⟨b3, o3, a, hal, hb3, ha, hc⟩ := HUL.out.atF Ac.len rfl hlj
              have hb3w : b3 < wr.heap.size := by omega
              have q0 : wr.cell? ⟨b3, o3 + j * 3, none⟩ = some (.int .i64 a.kind) := cell_below HB3.out hb3 (hc 0 (by decide))
              have q1 : wr.cell? ⟨b3, o3 + j * 3 + 1, none⟩ = some (.int .i64 a.cell) := cell_below HB3.out hb3 (hc 1 (by decide))
              have HAJ := hid ha
              subst hal
              clear ha hc
              have qb := and1 a.cell
              have step : ParA i a → ∀ (j' : Nat) (x : Ac), j' < j + 1 → l1'[j']? = some x → ParA i x := fun h j' x hj' hx => by
                rcases Nat.lt_or_eq_of_le (Nat.lt_succ_iff.1 hj') with h1 | rfl
                · exact HOK3.out j' x h1 hx
                · rw [HAJ.out] at hx; cases hx; exact h
              have ST := hid step
              clear step
              rcases (show i = 0 ∨ i = 1 by omega) with rfl | rfl
              · by_cases hc1 : a.cell % 2 = 1
                · have qc : (a.cell % 2 == 1) = true := by simp [hc1]
                  go_wp2
                  go_ret
                  exact ⟨rfl, BV.out.trans (HB3.out.mono BV.out.size)⟩
                · have qc : (a.cell % 2 == 1) = false := by simpa using hc1
                  go_wp2_with fail
                  go_roundw
                  case rel => exact ⟨j + 1, by omega, by go_num, HB3.out, ST.out ⟨fun _ => hc1, fun h => by cases h⟩⟩
                  case measure => simp [intOf]; omega
              · by_cases hc1 : a.cell % 2 = 0
                · have qc : (a.cell % 2 == 0) = true := by simp [hc1]
                  by_cases hk4 : a.kind = 4
                  · have qk : (a.kind != 4) = false := by simp [hk4]
                    go_wp2_with fail
                    go_roundw
                    case rel => exact ⟨j + 1, by omega, by go_num, HB3.out, ST.out ⟨(fun h => by cases h), fun _ _ => hk4⟩⟩
                    case measure => simp [intOf]; omega
                  · have qk : (a.kind != 4) = true := by simp [hk4]
                    go_wp2
                    go_ret
                    exact ⟨rfl, BV.out.trans (HB3.out.mono BV.out.size)⟩
                · have qc : (a.cell % 2 == 0) = false := by simpa using hc1
                  go_wp2_with fail
                  go_roundw
                  case rel => exact ⟨j + 1, by omega, by go_num, HB3.out, ST.out ⟨(fun h => by cases h), fun _ h => absurd h hc1⟩⟩
                  case measure => simp [intOf]; omega
            · obtain rfl : j = l1'.length := by omega
              go_wp2_with fail
              go_roundw
              case rel =>
                refine ⟨k + 1, by omega, by go_num, HB3.out, fun k' j a hk' ha => ?_⟩
                rcases Nat.lt_or_eq_of_le (Nat.lt_succ_iff.1 hk') with h1 | rfl
                · exact HOK2.out k' j a h1 ha
                · rw [HA.out] at ha
                  exact HOK3.out j a (List.getElem?_eq_some_iff.1 ha).1 ha
              case measure => simp [intOf]; omega
        · obtain rfl : k = t.length := by omega
          go_wp2_with fail
          go_roundw
          case rel =>
            refine ⟨i + 1, by omega, by go_num, HB2.out, fun i' k' j a hi' ha => ?_⟩
            rcases Nat.lt_or_eq_of_le (Nat.lt_succ_iff.1 hi') with h1 | rfl
            · exact HOK.out i' k' j a h1 ha
            · by_cases hk' : k' < t.length
              · exact HOK2.out k' j a hk' ha
              · exfalso
                unfold Pg.acts at ha
                rw [HT.out, List.getD_eq_getElem?_getD, List.getElem?_eq_none (show t.length ≤ k' by omega)] at ha
                simp at ha
          case measure => simp [intOf]; omega
    · obtain rfl : i = 2 := by omega
      have hpar : ParOk P := fun i' k j a hi' ha => HOK.out i' k j a hi' ha
      have HPAR := hid hpar
      have hv2 := two_valid HV.out h2
      have HV2 := hid hv2
      have y7 : wr.cell? ⟨p6, 0, none⟩ = some (.slice au P.cells.length cu) := cell_below HB.out lV (by have := row_cell RX.out 0; simpa using this)
      have l62 : p6 < wr.heap.size := by omega
      have bw := BV.out.trans (HB.out.mono BV.out.size)
      have zbw := bw.size
      obtain ⟨g1, ⟨tt', tv', g2⟩, -⟩ := HG.out.below bw
      have hF := hid (la_Full _ _ (two P) wr ((HQV.out.below HB.out).more HB.out.size) (.iface tt' tv') g2 ⟨_, _, rfl⟩ (by omega) (by omega) _ l ((HS.out.below bw).more bw.size) hl (going _))
      have BW := hid bw
      clear hpar hv2 bw g2
      go_wp2_with fail
      refine (hF.out).mono ?_
      rintro e W5 ⟨hr, b5⟩
      rcases hr with ⟨hno, -⟩ | ⟨-, M, ov, vv, rfl, hrun, hov, hvv⟩
      · exact absurd HV2.out hno
      obtain ⟨oa, oc, rfl⟩ := OwnF.slv hov
      obtain ⟨ea, ec, rfl⟩ := OwnF.slv hvv
      obtain ⟨E, hE⟩ : ∃ E, E = M.W.evs := ⟨_, rfl⟩
      obtain ⟨os, hos⟩ : ∃ os, os = obsOf (two P) := ⟨_, rfl⟩
      have hevs := run_evs HV2.out.ok hrun
      rw [← hE] at hvv hevs ⊢
      rw [← hos] at hov ⊢
      have hol : os.length ≤ 100000 := by rw [hos]; simp only [obsOf, List.length_map]; have := HV2.out.ok.cells.2; omega
      obtain ⟨htx, hel⟩ := hevs
      have HTX := hid htx
      have HRUN := hid hrun
      have HE := hid hE
      have B5 := hid (BW.out.trans (b5.mono BW.out.size))
      have B65 := hid (HB.out.trans (b5.mono HB.out.size))
      have z5 := b5.size
      have OO := hid (OwnF.sl hov)
      have OE := hid (OwnF.sl hvv)
      have q5 := cell_below b5 l62 y6
      have q6 := cell_below b5 l62 y7
      clear hov hvv hrun hE hos htx b5 hF y6 y7
      have bH := (((Below.refl W5.heap.size W5).alloc (Nat.le_refl _) (.cells #[.slice oa os.length oc, .slice ea E.length ec] 39)).alloc (by simp) (.cells #[.int .i64 0] 3))
      have rH := row_below (row_new W5 (.cells #[.slice oa os.length oc, .slice ea E.length ec] 39)) ((Below.refl _ (W5.alloc (.cells #[.slice oa os.length oc, .slice ea E.length ec] 39))).alloc (Nat.le_refl _) (.cells #[.int .i64 0] 3)) (by simp)
      have rI := row_new (W5.alloc (.cells #[.slice oa os.length oc, .slice ea E.length ec] 39)) (.cells #[.int .i64 0] 3)
      have HBH := hid bH
      have RH := hid rH
      have RI := hid rI
      clear bH rH rI
      go_wp2_with fail
      have hsz : ((W5.alloc (.cells #[.slice oa os.length oc, .slice ea E.length ec] 39)).alloc (.cells #[.int .i64 0] 3)).heap.size = W5.heap.size + 1 + 1 := by simp
      generalize (W5.alloc (.cells #[.slice oa os.length oc, .slice ea E.length ec] 39)).alloc (.cells #[.int .i64 0] 3) = V2 at *
      have Q5 := hid (cell_below HBH.out (by omega) q5)
      have Q6 := hid (cell_below HBH.out (by omega) q6)
      clear q5 q6
      go_loopw [13] (fun p wr => ∃ t b : Nat, t ≤ 2 ∧ p = .pointer (some ⟨b, 0, none⟩) ∧ wr.cell? ⟨b, 0, none⟩ = some (.int .i64 t) ∧ b < wr.heap.size ∧ Below V2.heap.size V2 wr) (fun p wr => 2 - (match p with | .pointer (some a) => (intOf ((wr.cell? a).getD (.int .i64 0))).toNat | _ => 0))
      case atStart => exact ⟨0, _, by omega, rfl, by have := row_cell RI.out 0; simpa using this, by omega, Below.refl _ _⟩
      case round =>
        obtain ⟨t, b, ht, rfl, hcell, hbl, hB⟩ := hrel
        have HB2 := hid hB
        have zB2 := hB.size
        have y5 := cell_below hB (by omega) Q5.out
        have y7 := cell_below hB (by omega) Q6.out
        have rh := row_below RH.out hB (by omega)
        have h0 := row_cell rh 0
        have h1 := row_cell rh 1
        simp at h0 h1
        have l6 : p6 < wr.heap.size := by omega
        have lh : W5.heap.size < wr.heap.size := by omega
        clear rh hB
        by_cases hlt : t < 2
        · have ht3 : t + 1 ≤ 2 := hlt
          have hme : 2 - ((t : Int) + 1).toNat < 2 - (t : Int).toNat := less2 hlt
          have HT3 := hid ht3
          have HME := hid hme
          clear ht3 hme
          have bq := ((B65.out.trans (HBH.out.mono B65.out.size)).trans (HB2.out.mono (B65.out.trans (HBH.out.mono B65.out.size)).size))
          have hP2 := hid (ref_Program _ _ (two P) wr ((HQV.out.below bq).more bq.size) HV2.out.ok)
          clear bq
          go_wp2_with fail
          refine (hP2.out).mono ?_
          rintro e W6 ⟨uc, ut, rfl, ho, ht', b6⟩
          obtain ⟨a1, c1, rfl⟩ := OwnF.slv ho
          obtain ⟨gq', cq', rfl, hcap', hgB, crow, hrow⟩ : ∃ g c, ut = .slice (some ⟨g, 0, none⟩) 2 c ∧ 2 ≤ c ∧ wr.heap.size ≤ g ∧ ∃ cs, W6.heap[g]? = some (.cells cs 32 (0, 0)) := by
            obtain ⟨vs, k1, k2, -⟩ := ht'
            rw [ht2] at k2
            have k3 := OwnF.keepObj k1
            obtain ⟨-, ⟨-, h⟩ | ⟨g1, cap, cur, h, hB, hr, hc, -⟩⟩ := k1
            · omega
            · refine ⟨g1, cap, by rw [h, k2], by omega, hB, k3 g1 (by rw [h]; rfl)⟩
          have uf : ∀ j, W6.frozen? ⟨gq', j, none⟩ = false := fun j => row_free hrow j
          have HROW := hid hrow
          clear hrow
          have hcell0 := hcell
          have hcell := cell_below b6 hbl hcell
          have z6 := b6.size
          have hbl6 : b < W6.heap.size := by omega
          obtain ⟨u, hu⟩ : ∃ u : Nat, u = 1 - t := ⟨_, rfl⟩
          have hw1 : wrap64 (1 - (t : Int)) = (u : Int) := by rw [IntWalk.wrap64_in _ (by omega)]; omega
          have hw2 : IntKind.i64.wrap (1 - (t : Int)) = (u : Int) := by rw [IntWalk.i64_in _ (by omega)]; omega
          have hw3 : u < 2 := by omega
          have HUT := hid hu
          clear hu
          obtain ⟨bo, oo, vo, xo, hato, hbo, -, huo, -⟩ := ht'.isx.at rfl hw3
          simp only [Option.some.injEq, Addr.mk.injEq] at hato
          obtain ⟨rfl, rfl, -⟩ := hato
          rw [Nat.zero_add] at huo
          have HO := hid ho
          have HT2 := hid ht'
          have B6 := hid b6
          have HCELL := hid (show wr.cell? ⟨b, 0, none⟩ = some (.int .i64 t) from hcell0)
          have HH0 := hid h0
          have HH1 := hid h1
          clear ho ht' b6
          go_wp2_with fail
          have hset := hid (one_set HO.out HT2.out HROW.out HUT.out)
          have bS : Below wr.heap.size wr (W6.setCell ⟨gq', u, none⟩ (.slice none 0 0)) := B6.out.setCell (p := ⟨gq', u, none⟩) hgB _
          have zS : (W6.setCell ⟨gq', u, none⟩ (.slice none 0 0)).heap.size = W6.heap.size := by simp
          have bX0 : Below W6.heap.size (W6.setCell ⟨gq', u, none⟩ (.slice none 0 0)) ((W6.setCell ⟨gq', u, none⟩ (.slice none 0 0)).alloc (.cells #[.slice a1 (two P).cells.length c1, .slice (some ⟨gq', 0, none⟩) 2 cq'] 25)) := (Below.refl _ _).alloc (by rw [zS]; exact Nat.le_refl _) _
          generalize (W6.setCell ⟨gq', u, none⟩ (.slice none 0 0)).alloc (.cells #[.slice a1 (two P).cells.length c1, .slice (some ⟨gq', 0, none⟩) 2 cq'] 25) = X at *
          have bX : Below wr.heap.size wr X := bS.trans (bX0.mono (by omega))
          have zX : wr.heap.size ≤ X.heap.size := bX.size
          have bwr : Below w.heap.size w wr := (B5.out.trans (HBH.out.mono B5.out.size)).trans (HB2.out.mono (B5.out.trans (HBH.out.mono B5.out.size)).size)
          have bwX : Below w.heap.size w X := bwr.trans (bX.mono bwr.size)
          have zwX := bwX.size
          obtain ⟨g1', ⟨tt2, tv2, g3⟩, -⟩ := HG.out.below bwX
          have hl1 : (one P t).threads.length ≤ 1000 := by simp [one]; omega
          have hF2 := hid (la_Full _ _ (one P t) X ((hset.out.below bX0).more (by have := bX0.size; omega)) (.iface tt2 tv2) g3 ⟨_, _, rfl⟩ (by omega) hl1 _ [] (nil_ints X _) (by simp) (going _))
          have xb : X.cell? ⟨b, 0, none⟩ = some (.int .i64 t) := cell_below bX hbl HCELL.out
          have xh0 := cell_below bX lh HH0.out
          have xh1 := cell_below bX lh HH1.out
          have B5X : Below W5.heap.size W5 X := (HBH.out.trans (HB2.out.mono HBH.out.size)).trans (bX.mono (HBH.out.trans (HB2.out.mono HBH.out.size)).size)
          have HB5X := hid B5X
          have HBWX := hid bwX
          have hbX : b < X.heap.size := by omega
          have hhX : W5.heap.size < X.heap.size := by omega
          have HBX := hid bX
          clear hset bS bX0 bX bwr bwX g3 hl1 B5X huo uf
          refine (hF2.out).mono ?_
          rintro e W7 ⟨hr2, b7⟩
          rcases hr2 with ⟨hno, -⟩ | ⟨-, N, ov2, vv2, rfl, hrun2, hov2, hvv2⟩
          · exact absurd (one_valid HV.out h2 t) hno
          obtain ⟨oa2, oc2, rfl⟩ := OwnF.slv hov2
          obtain ⟨ea2, ec2, rfl⟩ := OwnF.slv hvv2
          obtain ⟨E2, hE2⟩ : ∃ E2, E2 = N.W.evs := ⟨_, rfl⟩
          obtain ⟨os2, hos2⟩ : ∃ os2, os2 = obsOf (one P t) := ⟨_, rfl⟩
          have heq : E.filter (isT t) = E2 := by rw [HE.out, hE2]; exact law_apart HV.out h2 HPAR.out (by omega) HRUN.out hrun2
          rw [← hE2] at hvv2 ⊢
          rw [← hos2] at hov2 ⊢
          have z7 := b7.size
          have yb := cell_below b7 hbX xb
          have yh0 := cell_below b7 hhX xh0
          have yh1 := cell_below b7 hhX xh1
          have hb7 : b < W7.heap.size := by omega
          have hh7 : W5.heap.size < W7.heap.size := by omega
          have HV2E := hid (OwnF.sl hvv2)
          have HEQ := hid heq
          have b78 := (Below.refl W7.heap.size W7).alloc (Nat.le_refl _) (.cells #[.slice oa2 os2.length oc2, .slice ea2 E2.length ec2] 39)
          have B57 := hid (HB5X.out.trans ((b7.trans (b78.mono b7.size)).mono HB5X.out.size))
          have BX7 := hid (b7.trans (b78.mono b7.size))
          have R7 := hid (row_new W7 (.cells #[.slice oa2 os2.length oc2, .slice ea2 E2.length ec2] 39))
          have yb8 := cell_below b78 hb7 yb
          have hb8 : b < (W7.alloc (.cells #[.slice oa2 os2.length oc2, .slice ea2 E2.length ec2] 39)).heap.size := by simp; omega
          have hon := hid (ap_only _ _ os E b t (W7.alloc (.cells #[.slice oa2 os2.length oc2, .slice ea2 E2.length ec2] 39)) ((OO.out.below B57.out).more B57.out.size) ((OE.out.below B57.out).more B57.out.size) hol hel HTX.out yb8 hb8)
          have B78 := hid b78
          clear heq hvv2 hov2 hrun2 hE2 hos2 b7 b78 hF2 xb xh0 xh1
          go_wp2_with fail
          generalize hW8 : W7.alloc (.cells #[.slice oa2 os2.length oc2, .slice ea2 E2.length ec2] 39) = W8 at *
          refine (hon.out).mono ?_
          rintro e W9 ⟨oa3, on3, oc3, va3, vn3, vc3, rfl, hown3, b9⟩
          obtain ⟨va4, vc4, hform⟩ := OwnF.slv hown3
          simp only [Value.slice.injEq] at hform
          obtain ⟨rfl, rfl, rfl⟩ := hform
          rw [HEQ.out] at hown3 ⊢
          have z9 := b9.size
          have l78 : W7.heap.size < W8.heap.size := by rw [← hW8]; simp
          have yb9 := cell_below b9 hb8 yb8
          have r9 := row_below R7.out b9 l78
          have y15 := row_cell r9 1
          simp at y15
          have hb9 : b < W9.heap.size := by omega
          have l79 : W7.heap.size < W9.heap.size := by omega
          have b910 := (Below.refl W9.heap.size W9).alloc (Nat.le_refl _) (.cells #[.slice oa3 on3 oc3, .slice va3 E2.length vc3] 39)
          have yb10 := cell_below b910 hb9 yb9
          have hb10 : b < (W9.alloc (.cells #[.slice oa3 on3 oc3, .slice va3 E2.length vc3] 39)).heap.size := by simp; omega
          have bb : Below W8.heap.size W8 (W9.alloc (.cells #[.slice oa3 on3 oc3, .slice va3 E2.length vc3] 39)) := b9.trans (b910.mono b9.size)
          have hse := hid (sameEvents_eq (.slice va3 E2.length vc3) (.slice ea2 E2.length ec2) E2 E2.length (W9.alloc (.cells #[.slice oa3 on3 oc3, .slice va3 E2.length vc3] 39)) rfl (((OwnF.sl hown3).below b910).more b910.size) (((HV2E.out.below B78.out).more B78.out.size |>.below bb).more bb.size))
          have BB := hid (BX7.out.trans (bb.mono BX7.out.size))
          have z10 := bb.size
          clear r9 b9 b910 bb hown3 yb8 hon
          go_wp2_with fail
          generalize W9.alloc (.cells #[.slice oa3 on3 oc3, .slice va3 E2.length vc3] 39) = Y at *
          refine (hse.out).mono ?_
          rintro e W10 ⟨rfl, b10⟩
          have yb11 := cell_below b10 hb10 yb10
          have z11 := b10.size
          have hb11 : b < W10.heap.size := by omega
          have B10 := hid ((HBX.out.trans (BB.out.mono HBX.out.size)).trans (b10.mono (HBX.out.trans (BB.out.mono HBX.out.size)).size))
          have hwt : wrap64 ((t : Int) + 1) = (t : Int) + 1 := wrap2 hlt
          clear b10 hse yb10 y15 yb9
          go_wp2_with fail
          go_roundw
          case rel =>
            have c1 : (W10.alloc (.cells #[.int .i64 ((t : Int) + 1)] 3)).cell? ⟨W10.heap.size, 0, none⟩ = some (.int .i64 ((t : Int) + 1)) := by simp
            exact ⟨t + 1, _, HT3.out, rfl, c1, by simp, (HB2.out.trans (B10.out.mono HB2.out.size)).alloc (Nat.le_trans HB2.out.size B10.out.size) _⟩
          case measure =>
            have c1 : (W10.alloc (.cells #[.int .i64 ((t : Int) + 1)] 3)).cell? ⟨W10.heap.size, 0, none⟩ = some (.int .i64 ((t : Int) + 1)) := by simp
            have c2 := HCELL.out
            simp only [c1, c2, Option.getD_some, intOf]
            exact HME.out
        · obtain rfl : t = 2 := by omega
          have bwr : Below w.heap.size w wr := (B5.out.trans (HBH.out.mono B5.out.size)).trans (HB2.out.mono (B5.out.trans (HBH.out.mono B5.out.size)).size)
          have BWR := hid bwr
          clear bwr
          go_wp2
          go_ret
          exact ⟨rfl, BWR.out⟩
end Go.Proofs.YtogphaiomlfofaaDoor
