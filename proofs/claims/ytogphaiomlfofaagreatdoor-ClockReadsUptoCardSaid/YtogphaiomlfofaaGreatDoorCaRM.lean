/- ClockReads: a transaction that only reads is never aborted behind a try. Printed by wip/tools/genlac.py. Conditions: those of each theorem, as typed. -/
import Derived.Test.YtogphaiomlfofaaGreatDoorCaQM
import Derived.Test.YtogphaiomlfofaaGreatDoorCmGM
set_option linter.unusedVariables false
set_option linter.unusedSimpArgs false
namespace Go.Proofs.YtogphaiomlfofaaGreatDoor
open Go.RowKit Go.Maps
set_option linter.unusedVariables false
set_option linter.unusedSimpArgs false
attribute [local irreducible] wpL RN.wpL

theorem run_tableC {P : Pg} {l : List Int} {full : Bool} {M : LM} (hv : ValidIs P) (hr : RunOf P (startLM P) l full M) : ∃ A, Lclk P M A ∧ M.W.evs.length ≤ 400 ∧ (∀ e ∈ M.W.evs, EvOk (obsOf P).length e) ∧ Fed M.W.evs A ∧ RegOk (obsOf P) ∧ obsOf P ≠ [] ∧ (full = true → allDone P M.W = true) := by
  obtain ⟨-, -, -, -, -, h5, h6, h7⟩ := run_table hv hr
  obtain ⟨A, h⟩ := clk_run hv.ok hr
  refine ⟨A, h, h.al.evs, fun e he => ?_, h.al.ji.fed, h5, h6, h7⟩
  have := h.al.ji.evs e he
  simpa [obsOf] using this
set_option maxRecDepth 100000 in
set_option maxHeartbeats 4000000 in
theorem law_clockReads (vc vt : Value) (P : Pg) (sv : Value) (l : List Int) (w : World) (hG : Glob w) (h : PgIs w w.heap.size vc vt P) (hs : Sl w w.heap.size 1 sv l.length (l.map (.int .i64))) :
    Calls Tryz.prog 7 #[.agg #[vc, vt], sv] w fun e w' => e = .returned (.bool true) ∧ Below w.heap.size w w' := by
  obtain ⟨ac, cc, rfl, mc⟩ := h.cells.ex
  obtain ⟨at', ct, rfl, mt⟩ := h.thr.ex
  obtain ⟨sa, sc, rfl, ms⟩ := hs.ex
  have b0 : Below w.heap.size w (w.alloc (.cells #[.slice ac P.cells.length cc, .slice at' P.threads.length ct] 25)) := (Below.refl _ w).alloc (Nat.le_refl _) _
  have r0 := row_new w (.cells #[.slice ac P.cells.length cc, .slice at' P.threads.length ct] 25)
  have hf := hid (l_first19 _ (hG.below b0))
  have H := hid h
  have HS := hid hs
  have HG := hid hG
  have B0 := hid b0
  have R0 := hid r0
  have l0 := row_lt r0
  clear h hs hG b0 r0
  go_enter Tryz.func7, Tryz.ntmps7
  go_wp2_with fail
  generalize w.alloc (.cells #[.slice ac P.cells.length cc, .slice at' P.threads.length ct] 25) = W at *
  refine (hf.out).mono ?_
  rintro e W1 ⟨rfl, b1⟩
  have r1 := row_below R0.out b1 l0
  have l1 := row_lt r1
  have y0 := row_cell r1 0
  have y1 := row_cell r1 1
  simp at y0 y1
  have B1 := hid (B0.out.trans (b1.mono B0.out.size))
  have hz1 := B1.out.size
  have hsm := hid (l_small19 _ _ P W1 ((H.out.below B1.out).more hz1))
  have R1 := hid r1
  clear r1 b1 hf
  go_wp2_with fail
  refine (hsm.out).mono ?_
  rintro e W2 ⟨b, rfl, hb20, b2⟩
  have r2 := row_below R1.out b2 l1
  have l2 := row_lt r2
  clear y0 y1
  have y0 := row_cell r2 0
  have y1 := row_cell r2 1
  simp at y0 y1
  have B2 := hid (B1.out.trans (b2.mono hz1))
  have hz2 := B2.out.size
  have R2 := hid r2
  clear r2 b2 hsm
  cases b with
  | false =>
    go_wp2
    go_ret
    exact ⟨rfl, B2.out⟩
  | true =>
  have h20 := hb20 rfl
  clear hb20
  by_cases hl : l.length ≤ 300
  case neg =>
    have q : decide (300 < l.length) = true := by simp; omega
    have q2 : decide ((300 : Int) < (l.length : Int)) = true := by simp; omega
    go_wp2
    go_ret
    exact ⟨rfl, B2.out⟩
  case pos =>
  have q : decide (300 < l.length) = false := by simp; omega
  have q2 : decide ((300 : Int) < (l.length : Int)) = false := by simp; omega
  have hG2 := HG.out.below B2.out
  obtain ⟨g1, ⟨tt, tv, g2⟩, g3⟩ := hG2
  have hF := hid (la_Full _ _ P W2 ((H.out.below B2.out).more hz2) (.iface tt tv) g2 ⟨_, _, rfl⟩ (by omega) (by omega) _ l ((HS.out.below B2.out).more hz2) hl (going P))
  have GW := hid g3
  clear g2 g3
  go_wp2_with fail
  refine (hF.out).mono ?_
  rintro e W3 ⟨hv, b3⟩
  have B3 := hid (B2.out.trans (b3.mono hz2))
  have hW3 := hid (GW.out.below b3)
  rcases hv with ⟨-, rfl⟩ | ⟨hval, M, ov, vv, rfl, hro, ho, hv⟩
  · clear hF b3
    go_wp2
    go_ret
    exact ⟨rfl, B3.out.alloc B3.out.size _⟩
  obtain ⟨A, hL, hel, hes, hfd, hreg, hne, hdone⟩ := run_tableC hval hro
  obtain ⟨oa, oc, rfl⟩ := OwnF.slv ho
  obtain ⟨ea, ec, rfl⟩ := OwnF.slv hv
  have b4 : Below W3.heap.size W3 (W3.alloc (.cells #[.slice oa (obsOf P).length oc, .slice ea M.W.evs.length ec] 31)) := (Below.refl _ W3).alloc (Nat.le_refl _) _
  have r4 := row_new W3 (.cells #[.slice oa (obsOf P).length oc, .slice ea M.W.evs.length ec] 31)
  have hT := hid (sh_Table _ _ (obsOf P) M.W.evs A _ (OwnF.below ho b4).sl (OwnF.below hv b4).sl hne hreg hel hes (hW3.out.below b4) hfd)
  have hRd := hid (hL.reads (hdone rfl))
  have B4 := hid (B3.out.trans (b4.mono B3.out.size))
  have l4 := row_lt r4
  clear hF b3 hro ho hv hL hes hfd hreg hdone b4 r4 y0 y1 hval
  obtain ⟨on, hon⟩ : ∃ n, n = (obsOf P).length := ⟨_, rfl⟩
  obtain ⟨en, hen⟩ : ∃ n, n = M.W.evs.length := ⟨_, rfl⟩
  rw [← hon, ← hen] at hT B4 l4 ⊢
  clear hon hen
  go_wp2_with fail
  generalize W3.alloc (.cells #[.slice oa on oc, .slice ea en ec] 31) = W4 at *
  refine (hT.out).mono ?_
  rintro e W5 ⟨tv', rfl, hA, b5⟩
  have hz4 := B4.out.size
  have B5 := hid (B4.out.trans (b5.mono hz4))
  obtain ⟨rs, hv, hvl, hvc⟩ := hA
  obtain ⟨ta, tc, rfl⟩ := OwnF.slv hv
  have hbig : rs.length ≤ 9223372036854775807 := by obtain ⟨_, _, _, hb⟩ := OwnF.form2 hv; exact hb
  have HV := hid hv
  have HVC := hid hvc
  clear hv hvc hT b5
  go_wp2_with fail
  go_loopw [10] (fun p wr => ∃ i : Nat, i ≤ rs.length ∧ p = .int .i64 i ∧ Below W5.heap.size W5 wr) (fun p _ => rs.length - (intOf p).toNat)
  case atStart => exact ⟨0, by omega, by go_num, Below.refl _ _⟩
  case round =>
    obtain ⟨i, hi, rfl, hB⟩ := hrel
    have hz := hB.size
    have HB := hid hB
    clear hB
    by_cases hlt : i < rs.length
    · obtain ⟨s, hs⟩ : ∃ s, A[i]? = some s := ⟨_, List.getElem?_eq_getElem (by omega)⟩
      obtain ⟨b, off, r, hat, hb, hr, hc⟩ := (OwnF.sl HV.out).atF TxR.len rfl hlt
      obtain ⟨⟨-, -, ho2, -, -, ho5⟩, hod⟩ := HVC.out i r s hr hs
      obtain ⟨rid, rth, rst, rbe, rfi, rtr, rdv⟩ := r
      simp only at ho2 ho5 hod
      subst ho2 ho5
      have c2 : wr.cell? ⟨b, off + i * 7 + 2, none⟩ = some (.int .i64 s.status) := cell_below HB.out hb (hc 2 (by decide))
      have c5 : wr.cell? ⟨b, off + i * 7 + 5, none⟩ = some (.int .i64 s.tri) := cell_below HB.out hb (hc 5 (by decide))
      have c6 : wr.cell? ⟨b, off + i * 7 + 6, none⟩ = some rdv := cell_below HB.out hb (hc 6 (by decide))
      have hbw : b < wr.heap.size := by omega
      subst hat
      have HC2 := hid (hc 2 (by decide))
      have HC5 := hid (hc 5 (by decide))
      have HC6 := hid (hc 6 (by decide))
      have HOD := hid hod
      have hmem := List.mem_of_getElem? hs
      clear hr hc hs
      have hrd := hid (hRd.out s hmem)
      obtain ⟨ds, hds⟩ : ∃ ds, ds = s.deeds := ⟨_, rfl⟩
      rw [← hds] at HOD hrd hod
      clear hds
      obtain ⟨da, dc, rfl⟩ := OwnF.slv hod
      have hdbig : ds.length ≤ 9223372036854775807 := by obtain ⟨_, _, _, hb⟩ := OwnF.form2 hod; exact hb
      clear hod hmem
      obtain ⟨wo, rfl⟩ : ∃ wo, wo = wr := ⟨_, rfl⟩
      have hiA : i < A.length := by omega
      go_wp2_with fail
      go_loopw [11, 12] (fun bv p wr => ∃ (k : Nat) (x : Bool), bv = .bool x ∧ k ≤ ds.length ∧ p = .int .i64 k ∧ Below W5.heap.size W5 wr ∧ (x = false → ∀ (m : Nat) (d : Dd), m < k → ds[m]? = some d → d.op ≠ 2)) (fun _ p _ => ds.length - (intOf p).toNat)
      case atStart => exact ⟨0, false, rfl, by omega, by go_num, HB.out, fun _ m d h1 => by omega⟩
      case round =>
        obtain ⟨k, x, rfl, hk, rfl, hB, hno⟩ := hrel
        have hzk := hB.size
        have HBK := hid hB
        have HNO := hid hno
        have c2 := cell_below HBK.out hb HC2.out
        have c5 := cell_below HBK.out hb HC5.out
        have c6 := cell_below HBK.out hb HC6.out
        have hbw : b < wr.heap.size := by omega
        clear hB hno
        by_cases hlk : k < ds.length
        · obtain ⟨wo2, rfl⟩ : ∃ wo, wo = wr := ⟨_, rfl⟩
          obtain ⟨d, hd⟩ : ∃ d, ds[k]? = some d := ⟨_, List.getElem?_eq_getElem hlk⟩
          obtain ⟨gd, rfl⟩ : ∃ g, da = some ⟨g, 0, none⟩ := by
            rcases OwnF.form HOD.out with ⟨h, h2⟩ | ⟨g, kk, h, -⟩
            · rw [h2] at hlk; simp at hlk
            · simp only [Value.slice.injEq] at h; exact ⟨g, h.1⟩
          obtain ⟨k0, k1, k5, -, lg⟩ := OwnF.deed (OwnF.below HOD.out HBK.out) hd
          have HD := hid hd
          clear hd k0 k5
          cases x with
          | true =>
            go_wp2_with fail
            go_roundw
            case rel => exact ⟨k + 1, true, rfl, by omega, by go_num, HBK.out, fun h => by cases h⟩
            case measure => simp [intOf]; omega
          | false =>
            by_cases h2 : d.op = 2
            · have q4 : (d.op == 2) = true := by simp [h2]
              have H2 := hid h2
              clear h2
              go_wp2_with fail
              go_roundw
              case rel => exact ⟨k + 1, true, rfl, by omega, by go_num, HBK.out, fun h => by cases h⟩
              case measure => simp [intOf]; omega
            · have q4 : (d.op == 2) = false := by simpa using h2
              have H2 := hid h2
              clear h2
              go_wp2_with fail
              go_roundw
              case rel =>
                refine ⟨k + 1, false, rfl, by omega, by go_num, HBK.out, fun _ m z h5 hm => ?_⟩
                rcases Nat.lt_or_eq_of_le (Nat.lt_succ_iff.1 h5) with h7 | rfl
                · exact HNO.out rfl m z h7 hm
                · rw [HD.out] at hm
                  obtain rfl := Option.some.inj hm
                  exact H2.out
              case measure => simp [intOf]; omega
        · obtain rfl : k = ds.length := by omega
          cases x with
          | true =>
            go_wp2_with fail
            go_roundw
            case rel => exact ⟨i + 1, by omega, by go_num, HBK.out⟩
            case measure => simp [intOf]; omega
          | false =>
            have hnw : ∀ d ∈ ds, d.op ≠ 2 := fun d hd => by
              obtain ⟨m, hm⟩ := List.mem_iff_getElem?.1 hd
              exact HNO.out rfl m d (List.getElem?_eq_some_iff.1 hm).1 hm
            by_cases h4 : s.status = 4
            · have ht := hrd.out hnw h4
              have q4 : (s.status == 4) = true := by simp [h4]
              have q5 : decide (s.tri ≥ 0) = false := by simp; omega
              have q6 : decide (0 ≤ s.tri) = false := by simp; omega
              clear h4 hnw
              go_wp2_with fail
              go_roundw
              case rel => exact ⟨i + 1, by omega, by go_num, HBK.out⟩
              case measure => simp [intOf]; omega
            · have q4 : (s.status == 4) = false := by simpa using h4
              clear h4 hnw
              go_wp2_with fail
              go_roundw
              case rel => exact ⟨i + 1, by omega, by go_num, HBK.out⟩
              case measure => simp [intOf]; omega
    · obtain rfl : i = rs.length := by omega
      go_wp2
      go_ret
      exact ⟨rfl, B5.out.trans (HB.out.mono B5.out.size)⟩
end Go.Proofs.YtogphaiomlfofaaGreatDoor
