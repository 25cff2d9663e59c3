/- ClockBehind: Run is a machine's history behind these steps; of the first part of a schedule it is a prefix; Full goes on from Run, and ends all. Turned by wip/tools/law19.sh; genlav.py. Conditions: those of each theorem, as typed. -/
import Derived.Test.YtogphaiomlfofaaGreatDoorCaBM
import Derived.Deep.CutRange
set_option linter.unusedVariables false
set_option linter.unusedSimpArgs false
namespace Go.Proofs.YtogphaiomlfofaaGreatDoor
open Go.RowKit Go.Maps
set_option linter.unusedVariables false
set_option linter.unusedSimpArgs false
attribute [local irreducible] wpL RN.wpL

theorem sizeI (w : World) : (sizeOf (Tryz.prog.elem 22)).run Tryz.prog w = .ok 1 w := by kernel_rfl
theorem cut_k (n : Int) (L : Nat) (h : 0 < L) (hL : L ≤ 300) : ∃ k : Nat, (wrap64 (n.tmod L + L)).tmod L = k ∧ k ≤ L := by
  have h1 := Int.tmod_lt_of_pos n (b := (L : Int)) (by omega)
  have h2 := Int.lt_tmod_of_pos n (b := (L : Int)) (by omega)
  have hw : wrap64 (n.tmod L + L) = n.tmod L + L := by
    generalize n.tmod L = x at *
    unfold wrap64
    omega
  rw [hw]
  have h3 := Int.tmod_nonneg (L : Int) (show 0 ≤ n.tmod L + L by omega)
  have h4 := Int.tmod_lt_of_pos (n.tmod L + L) (b := (L : Int)) (by omega)
  exact ⟨((n.tmod L + L).tmod L).toNat, by omega, by omega⟩
set_option maxRecDepth 100000 in
set_option maxHeartbeats 8000000 in
theorem law_clockBehind (vc vt : Value) (P : Pg) (sv : Value) (l : List Int) (n : Int) (w : World) (hG : Glob w) (h : PgIs w w.heap.size vc vt P) (hs : Sl w w.heap.size 1 sv l.length (l.map (.int .i64))) (hcap : ∃ a c, sv = .slice a l.length c ∧ l.length ≤ c) :
    Calls Tryz.prog 9 #[.agg #[vc, vt], sv, .int .i64 n] w fun e w' => e = .returned (.bool true) ∧ Below w.heap.size w w' := by
  obtain ⟨ac, cc, rfl, mc⟩ := h.cells.ex
  obtain ⟨at', ct, rfl, mt⟩ := h.thr.ex
  obtain ⟨sa, sc, rfl, ms⟩ := hs.ex
  have b0 : Below w.heap.size w (w.alloc (.cells #[.slice ac P.cells.length cc, .slice at' P.threads.length ct] 25)) := (Below.refl _ w).alloc (Nat.le_refl _) _
  have r0 := row_new w (.cells #[.slice ac P.cells.length cc, .slice at' P.threads.length ct] 25)
  have hf := hid (l_first19 _ (hG.below b0))
  have H := hid h
  have HS := hid hs
  have HG := hid hG
  have B0 := hid b0
  have R0 := hid r0
  have l0 := row_lt r0
  clear h hs hG b0 r0
  go_enter Tryz.func9, Tryz.ntmps9
  go_wp2_with fail
  generalize w.alloc (.cells #[.slice ac P.cells.length cc, .slice at' P.threads.length ct] 25) = W at *
  refine (hf.out).mono ?_
  rintro e W1 ⟨rfl, b1⟩
  have r1 := row_below R0.out b1 l0
  have l1 := row_lt r1
  have y0 := row_cell r1 0
  have y1 := row_cell r1 1
  simp at y0 y1
  have B1 := hid (B0.out.trans (b1.mono B0.out.size))
  have hz1 := B1.out.size
  have hsm := hid (l_small19 _ _ P W1 ((H.out.below B1.out).more hz1))
  have R1 := hid r1
  clear r1 b1 hf
  go_wp2_with fail
  refine (hsm.out).mono ?_
  rintro e W2 ⟨b, rfl, hb20, b2⟩
  have r2 := row_below R1.out b2 l1
  have l2 := row_lt r2
  clear y0 y1
  have y0 := row_cell r2 0
  have y1 := row_cell r2 1
  simp at y0 y1
  have B2 := hid (B1.out.trans (b2.mono hz1))
  have hz2 := B2.out.size
  have R2 := hid r2
  clear r2 b2 hsm
  cases b with
  | false =>
    go_wp2
    go_ret
    exact ⟨rfl, B2.out⟩
  | true =>
  have h20 := hb20 rfl
  clear hb20
  by_cases hl : l.length ≤ 300
  case neg =>
    have q : decide (300 < l.length) = true := by simp; omega
    have q2 : decide ((300 : Int) < (l.length : Int)) = true := by simp; omega
    go_wp2
    go_ret
    exact ⟨rfl, B2.out⟩
  case pos =>
  have q : decide (300 < l.length) = false := by simp; omega
  have q2 : decide ((300 : Int) < (l.length : Int)) = false := by simp; omega
  obtain ⟨a', c', hv, hsc⟩ := hcap
  simp only [Value.slice.injEq, true_and] at hv
  obtain ⟨rfl, rfl⟩ := hv
  have hG2 := HG.out.below B2.out
  obtain ⟨g1, ⟨tt, tv, g2⟩, g3⟩ := hG2
  have hF := hid (la_Run _ _ P W2 ((H.out.below B2.out).more hz2) (.iface tt tv) g2 ⟨_, _, rfl⟩ (by omega) (by omega) _ l ((HS.out.below B2.out).more hz2) hl (going P))
  have GW := hid g3
  have G2 := hid g2
  clear g2 g3
  go_wp2_with fail
  refine (hF.out).mono ?_
  rintro e W3 ⟨hv, b3⟩
  have B3 := hid (B2.out.trans (b3.mono hz2))
  have hz3 := B3.out.size
  have z3 := b3.size
  rcases hv with ⟨hno, rfl⟩ | ⟨hval, M, ov, vv, rfl, hro, ho, hv⟩
  · have b4 := B3.out.alloc hz3 (.cells #[.slice none 0 0, .slice none 0 0] 31)
    have c4 := cell_below (b3.alloc z3 (.cells #[.slice none 0 0, .slice none 0 0] 31)) (by omega) G2.out
    have r4 := row_below R2.out (b3.alloc z3 (.cells #[.slice none 0 0, .slice none 0 0] 31)) l2
    have s4 := row_lt (row_new W3 (.cells #[.slice none 0 0, .slice none 0 0] 31))
    have hN := hid (la_new _ _ P _ ((H.out.below b4).more b4.size) (.iface tt tv) c4 ⟨_, _, rfl⟩ (by omega) (by omega))
    have B4 := hid b4
    have l4 := row_lt r4
    clear y0 y1
    have y0 := row_cell r4 0
    have y1 := row_cell r4 1
    simp at y0 y1
    have HNO := hid hno
    clear hF b3 b4 c4 r4 hno
    go_wp2_with fail
    generalize W3.alloc (.cells #[.slice none 0 0, .slice none 0 0] 31) = W4 at *
    refine (hN.out).mono ?_
    rintro e W5 ⟨hv, b5⟩
    rcases hv with ⟨-, rfl⟩ | ⟨hval, -⟩
    · have B5 := hid (B4.out.trans (b5.mono B4.out.size))
      clear hN b5
      go_wp2
      go_ret
      exact ⟨rfl, B5.out⟩
    · exact absurd hval HNO.out
  obtain ⟨oa, oc, rfl⟩ := OwnF.slv ho
  obtain ⟨ea, ec, rfl⟩ := OwnF.slv hv
  have hM : M = stepsTo P (startLM P) l := by simpa [RunOf] using hro
  obtain ⟨-, -, hel, -⟩ := run_table hval hro
  obtain ⟨Inv, mu, hgo, hinv⟩ := going P hval.ok
  obtain ⟨os, hos⟩ : ∃ os, os = obsOf P := ⟨_, rfl⟩
  obtain ⟨E, hE⟩ : ∃ E, E = M.W.evs := ⟨_, rfl⟩
  have hob : os.length ≤ 100000 := by rw [hos]; simp [obsOf]; have := hval.ok.cells; omega
  rw [← hos] at ho ⊢
  rw [← hE] at hv hel ⊢
  have b4 := B3.out.alloc hz3 (.cells #[.slice oa os.length oc, .slice ea E.length ec] 31)
  have b34 := (Below.refl W3.heap.size W3).alloc (Nat.le_refl _) (.cells #[.slice oa os.length oc, .slice ea E.length ec] 31)
  have c4 := cell_below (b3.trans (b34.mono z3)) (by omega) G2.out
  have r4 := row_below R2.out (b3.trans (b34.mono z3)) l2
  have ra4 := row_new W3 (.cells #[.slice oa os.length oc, .slice ea E.length ec] 31)
  have s4 := row_lt ra4
  have oo4 := OwnF.below ho b34
  have oe4 := OwnF.below hv b34
  have hN := hid (la_new _ _ P _ ((H.out.below b4).more b4.size) (.iface tt tv) c4 ⟨_, _, rfl⟩ (by omega) (by omega))
  have B4 := hid b4
  have l4 := row_lt r4
  clear y0 y1
  have y0 := row_cell r4 0
  have y1 := row_cell r4 1
  simp at y0 y1
  have HM := hid hM
  have HVAL := hid hval
  have HGO := hid hgo
  have HINV := hid hinv
  have HE := hid hE
  have HOS := hid hos
  have hel2 : E.length ≤ 400 := hel
  have B24 := hid (b3.trans (b34.mono z3))
  have OO4 := hid oo4
  have OE4 := hid oe4
  have R4 := hid r4
  have RA4 := hid ra4
  clear hF b3 b4 b34 c4 r4 ra4 oo4 oe4 hM hval hgo hinv hro ho hv hE hos hel
  go_wp2_with fail
  generalize W3.alloc (.cells #[.slice oa os.length oc, .slice ea E.length ec] 31) = W4 at *
  refine (hN.out).mono ?_
  rintro e W5 ⟨hv, b5⟩
  rcases hv with ⟨hno, -⟩ | ⟨-, C, us, ve, rfl, hCB, hla⟩
  · exact absurd HVAL.out hno
  have hz4 := B4.out.size
  have z5 := b5.size
  have r5 := row_below R4.out b5 l4
  have ra5 := row_below RA4.out b5 s4
  clear y0 y1
  have y0 := row_cell r5 0
  have y1 := row_cell r5 1
  have a0 := row_cell ra5 0
  have a1 := row_cell ra5 1
  simp at y0 y1 a0 a1
  have l5 := row_lt r5
  have s5 := row_lt ra5
  have B5 := hid (B4.out.trans (b5.mono hz4))
  have hcE := OwnF.cap OE4.out
  have OO5 := hid ((OwnF.sl OO4.out).below b5)
  have OE5 := hid ((OwnF.sl OE4.out).below b5)
  have R5 := hid r5
  have RA5 := hid ra5
  have HLA := hid hla
  have b25 : Below W2.heap.size W2 W5 := B24.out.trans (b5.mono B24.out.size)
  have B25 := hid b25
  clear hN b5 r5 ra5 hla b25
  go_wp2_with fail
  go_loopw [12] (fun p wr => ∃ i : Nat, i ≤ l.length ∧ p = .int .i64 i ∧ Below C.B W5 wr ∧ ∃ ve us, LaAt wr C ve us P (stepsTo P (startLM P) (l.take i))) (fun p _ => l.length - (intOf p).toNat)
  case atStart => exact ⟨0, by omega, by go_num, Below.refl _ _, _, _, HLA.out⟩
  case round =>
    obtain ⟨i, hi, rfl, hB, ve1, us1, hL⟩ := hrel
    have HB := hid hB
    have HL := hid hL
    have hzr := HL.out.size
    clear hB hL
    have hbw : Below w.heap.size w wr := B5.out.trans (HB.out.mono (by omega))
    by_cases hlt : i < l.length
    · obtain ⟨b, off, c, hsa, hb, hc, hcc⟩ := (HS.out.below hbw).intAt hlt
      have hbz : b < wr.heap.size := by omega
      have HC := hid hc
      subst hsa
      clear hc hbw a0 a1 y0 y1
      go_wp2_with fail
      refine (la_step HL.out (HGO.out.can _ (HGO.out.steps _ _ HINV.out)) c).mono ?_
      rintro e w1 ⟨rfl, hb1, ve2, us2, hl2⟩
      have HB1 := hid (HB.out.trans hb1)
      have HL1 := hid hl2
      clear hb1 hl2 hcc
      go_wp2_with fail
      go_roundw
      case rel => exact ⟨i + 1, by omega, by go_num, HB1.out, ve2, us2, by rw [take_step HC.out, stepsTo_snoc]; exact HL1.out⟩
      case measure => simp [intOf]; omega
    · obtain rfl : i = l.length := by omega
      rw [List.take_length, ← HM.out] at HL
      have H6 := hid hbw
      have rp6 := row_below R5.out HB.out (by omega)
      have ra6 := row_below RA5.out HB.out (by omega)
      clear a0 a1 y0 y1 hbw
      have y0 := row_cell rp6 0
      have y1 := row_cell rp6 1
      have a0 := row_cell ra6 0
      have a1 := row_cell ra6 1
      simp at y0 y1 a0 a1
      have l6 := row_lt rp6
      have s6 := row_lt ra6
      have RP6 := hid rp6
      have RA6 := hid ra6
      have OO6 := hid ((OO5.out.below (by rw [hCB] at HB; exact HB.out)).more (show W4.heap.size ≤ wr.heap.size by omega))
      have OE6 := hid ((OE5.out.below (by rw [hCB] at HB; exact HB.out)).more (show W4.heap.size ≤ wr.heap.size by omega))
      clear rp6 ra6
      go_upto_if 82 with fail
      go_cut [13] from 83 to 92 (fun s wx => ∃ k : Nat, s = .int .i64 k ∧ k ≤ l.length ∧ wx = wr)
      case first =>
        by_cases h0 : 0 < l.length
        · obtain ⟨k, hk, hkl⟩ := cut_k n l.length h0 hl
          go_wp2_with fail
          go_meet
          case rel => exact ⟨k, rfl, hkl, rfl⟩
        · have q0 : l.length = 0 := by omega
          go_wp2_with fail
          go_meet
          case rel => exact ⟨0, by go_num, by omega, rfl⟩
      case rest =>
        obtain ⟨k, rfl, hk, rfl⟩ := hcut
        obtain ⟨W6, h6⟩ : ∃ W, W = wc := ⟨_, rfl⟩
        subst h6
        have hkl : (l.take k).length = k := by rw [List.length_take]; omega
        have hst : Sl w w.heap.size 1 (.slice sa k sc) k ((l.take k).map (.int .i64)) := by
          have h := HS.out
          rw [← flat_int] at h ⊢
          exact h.take intC_len rfl hk
        have hsl : ∀ X : World, (Instr.slice 22 (.slice sa l.length sc) none (some (.int .i64 (k : Int))) none).run Tryz.prog X = .ok (.slice sa k sc) X := fun X => by
          rw [run_slice_h X _ _ _ _ Tryz.underlying22 _ _ (by omega) (by omega), sizeI]
          simp only [Result.andThen, sliced, Int.toNat_natCast, Nat.sub_zero]
          congr 2
          split
          · rfl
          · cases sa <;> simp [Addr.add]
        have HST := hid hst
        have B26 := hid (B25.out.trans (HB.out.mono (by omega)))
        clear hst
        go_upto_region 15 with fail
        go_cut [14, 15] from 93 to 100 (fun s t wx => ∃ (gb : Nat) (ob eb : Option Addr) (obc ebc : Nat) (Eb : List Ev), s = .pointer (some ⟨gb, 0, none⟩) ∧ t = .nilIface ∧ Eb = (stepsTo P (startLM P) (l.take k)).W.evs ∧ wx.heap[gb]? = some (.cells #[.slice ob os.length obc, .slice eb Eb.length ebc] 31 (0, 0)) ∧ Sl wx wx.heap.size 2 (.slice ob os.length obc) os.length (os.flatMap Ob.cells) ∧ Sl wx wx.heap.size 8 (.slice eb Eb.length ebc) Eb.length (Eb.flatMap Ev.cells) ∧ Below W6.heap.size W6 wx)
        case first =>
          have hst := HST.out
          refine RN.wp_region_t (W6.heap.size) [1, 0, 0, 0, 2, 0, 0, 0, 3, 2, 0] (.frk [0, 1, 2, 3] (.fin [4, 5, 6, 7, 8, 9, 10]) (.fin [8, 4, 5, 6, 7, 9, 10])) (by kernel_rfl) (by kernel_rfl) (by kernel_rfl) (by kernel_rfl) ?_
          simp only [RN.wpT, selX, guardAt, sD, sE, sF, sG]
          repeat (first | (refine RN.wpL_p (fun K hK => ?_); go_simp; refine hK _ _ ?_; clear hK K) | (apply RN.wpL_s; (intro w2 hw2; have hk1 := hw2.cell; have hk3 := hw2.1; clear hw2; go_simp; with_reducible rfl); simp only [Act.put, sA, sB, sC]) | (refine RN.wpL_nil ?_))
          refine ⟨?_, ?_⟩
          · have bX := H6.out.drew
            have bX2 := B26.out.drew
            refine RN.wpL_e (fun K hK => ?_)
            go_simp
            refine (la_Run _ _ P W6.drew ((H.out.below bX).more bX.size) (.iface tt tv) (cell_below bX2 (by omega) G2.out) ⟨_, _, rfl⟩ (by have := bX2.size; omega) (by omega) _ (l.take k) (show Sl W6.drew W6.drew.heap.size 1 (.slice sa k sc) (l.take k).length _ from by rw [hkl]; exact (hst.below bX).more bX.size) (by omega) (going P)).mono ?_
            rintro e V ⟨hv, bV⟩
            rcases hv with ⟨hno, -⟩ | ⟨-, Mb, ob, eb, rfl, hrb, hob', heb'⟩
            · exact absurd HVAL.out hno
            have hMb : Mb = stepsTo P (startLM P) (l.take k) := by simpa [RunOf] using hrb
            rw [← HOS.out] at hob'
            obtain ⟨ob, obc, rfl⟩ := OwnF.slv hob'
            obtain ⟨eb, ebc, rfl⟩ := OwnF.slv heb'
            refine hK _ _ ?_
            clear hK K
            obtain ⟨Eb, hEb⟩ : ∃ E, E = Mb.W.evs := ⟨_, rfl⟩
            rw [← hEb] at heb' ⊢
            have HX := hid (And.intro hMb hEb)
            have OB := hid hob'
            have EB := hid heb'
            have BV := hid bV
            clear hrb hMb hEb hob' heb' bV bX bX2
            repeat (first | (refine RN.wpL_p (fun K hK => ?_); go_simp; refine hK _ _ ?_; clear hK K) | (apply RN.wpL_s; (intro w2 hw2; have hk1 := hw2.cell; have hk3 := hw2.1; clear hw2; go_simp; with_reducible rfl); simp only [Act.put, sA, sB, sC]) | (refine RN.wpL_nil ?_))
            refine RN.wpL_k (fun K hK => ?_)
            go_simp
            refine hK _ _ (RN.KeepsN.alloc _ _ (by first | omega | exact Nat.le_refl _ | exact BV.out.size)) ?_
            clear hK K
            repeat (first | (refine RN.wpL_p (fun K hK => ?_); go_simp; refine hK _ _ ?_; clear hK K) | (apply RN.wpL_s; (intro w2 hw2; have hk1 := hw2.cell; have hk3 := hw2.1; clear hw2; go_simp; with_reducible rfl); simp only [Act.put, sA, sB, sC]) | (refine RN.wpL_nil ?_))
            refine RN.wpL_e (fun K hK => ?_)
            go_simp
            refine hK _ _ ?_
            clear hK K
            repeat (first | (refine RN.wpL_p (fun K hK => ?_); go_simp; refine hK _ _ ?_; clear hK K) | (apply RN.wpL_s; (intro w2 hw2; have hk1 := hw2.cell; have hk3 := hw2.1; clear hw2; go_simp; with_reducible rfl); simp only [Act.put, sA, sB, sC]) | (refine RN.wpL_nil ?_))
            go_wp2_with fail
            go_meet
            case rel =>
              have bA := (Below.refl V.heap.size V).alloc (Nat.le_refl _) (.cells #[.slice ob os.length obc, .slice eb Eb.length ebc] 31)
              exact ⟨V.heap.size, ob, eb, obc, ebc, Eb, rfl, rfl, by rw [HX.out.2, HX.out.1], row_new V _, ((OwnF.sl OB.out).below bA).more bA.size, ((OwnF.sl EB.out).below bA).more bA.size, ((Below.refl _ W6).drew.trans BV.out).alloc BV.out.size _⟩
          · refine RN.wpL_k (fun K hK => ?_)
            go_simp
            refine hK _ _ (RN.KeepsN.alloc _ _ (by first | omega | exact Nat.le_refl _)) ?_
            clear hK K
            have b8 : Below W6.heap.size W6 (W6.alloc (.cells #[.slice none 0 0, .slice none 0 0] 31)).drew := ((Below.refl _ W6).alloc (Nat.le_refl _) _).drew
            have r8 : (W6.alloc (.cells #[.slice none 0 0, .slice none 0 0] 31)).drew.heap[W6.heap.size]? = some (.cells #[.slice none 0 0, .slice none 0 0] 31 (0, 0)) := row_new W6 _
            have bX := H6.out.trans (b8.mono (by have := H6.out.size; omega))
            have bX2 := B26.out.trans (b8.mono B26.out.size)
            repeat (first | (refine RN.wpL_p (fun K hK => ?_); go_simp; refine hK _ _ ?_; clear hK K) | (apply RN.wpL_s; (intro w2 hw2; have hk1 := hw2.cell; have hk3 := hw2.1; clear hw2; go_simp; with_reducible rfl); simp only [Act.put, sA, sB, sC]) | (refine RN.wpL_nil ?_))
            generalize (W6.alloc (.cells #[.slice none 0 0, .slice none 0 0] 31)).drew = X8 at *
            refine RN.wpL_e (fun K hK => ?_)
            go_simp
            refine (la_Run _ _ P X8 ((H.out.below bX).more bX.size) (.iface tt tv) (cell_below bX2 (by omega) G2.out) ⟨_, _, rfl⟩ (by have := bX2.size; omega) (by omega) _ (l.take k) (show Sl X8 X8.heap.size 1 (.slice sa k sc) (l.take k).length _ from by rw [hkl]; exact (hst.below bX).more bX.size) (by omega) (going P)).mono ?_
            rintro e V ⟨hv, bV⟩
            rcases hv with ⟨hno, -⟩ | ⟨-, Mb, ob, eb, rfl, hrb, hob', heb'⟩
            · exact absurd HVAL.out hno
            have hMb : Mb = stepsTo P (startLM P) (l.take k) := by simpa [RunOf] using hrb
            rw [← HOS.out] at hob'
            obtain ⟨ob, obc, rfl⟩ := OwnF.slv hob'
            obtain ⟨eb, ebc, rfl⟩ := OwnF.slv heb'
            refine hK _ _ ?_
            clear hK K
            obtain ⟨Eb, hEb⟩ : ∃ E, E = Mb.W.evs := ⟨_, rfl⟩
            rw [← hEb] at heb' ⊢
            have HX := hid (And.intro hMb hEb)
            have r9 := row_below r8 bV (by have := b8.size; have := row_lt r8; omega)
            have OB := hid hob'
            have EB := hid heb'
            have BV := hid (b8.trans (bV.mono b8.size))
            have z9 := BV.out.size
            have R9 := hid r9
            have u0 := row_cell R9.out 0
            have u1 := row_cell R9.out 1
            have uf : ∀ j, V.frozen? ⟨W6.heap.size, j, none⟩ = false := fun j => row_free R9.out j
            have lu := row_lt R9.out
            have hs8 : W6.heap.size ≤ X8.heap.size := b8.size
            clear hrb hMb hEb hob' heb' bV bX bX2 b8 r8 r9
            repeat (first | (refine RN.wpL_p (fun K hK => ?_); go_simp; refine hK _ _ ?_; clear hK K) | (apply RN.wpL_s; (intro w2 hw2; have hk1 := hw2.cell; have hk3 := hw2.1; clear hw2; go_simp; with_reducible rfl); simp only [Act.put, sA, sB, sC]) | (refine RN.wpL_nil ?_))
            refine RN.wpL_e (fun K hK => ?_)
            go_simp
            refine hK _ _ ?_
            clear hK K
            repeat (first | (refine RN.wpL_p (fun K hK => ?_); go_simp; refine hK _ _ ?_; clear hK K) | (apply RN.wpL_s; (intro w2 hw2; have hk1 := hw2.cell; have hk3 := hw2.1; clear hw2; go_simp; with_reducible rfl); simp only [Act.put, sA, sB, sC]) | (refine RN.wpL_nil ?_))
            go_wp2_with fail
            go_meet
            case rel =>
              have q1 := OwnF.box2 (u1 := .slice ob os.length obc) (u2 := .slice eb Eb.length ebc) OB.out R9.out (by decide)
              have q2 := OwnF.box2 (u1 := .slice ob os.length obc) (u2 := .slice eb Eb.length ebc) EB.out R9.out (by decide)
              exact ⟨W6.heap.size, ob, eb, obc, ebc, Eb, rfl, rfl, by rw [HX.out.2, HX.out.1], row2 R9.out, OwnF.sl q1, OwnF.sl q2, (BV.out.setCell (p := ⟨W6.heap.size, 0, none⟩) (Nat.le_refl _) _).setCell (p := ⟨W6.heap.size, 1, none⟩) (Nat.le_refl _) _⟩
        case rest =>
          obtain ⟨gb, ob, eb, obc, ebc, Eb, rfl, rfl, hEb, rb, hob7, heb7, hB67⟩ := hcut
          obtain ⟨W7, h7⟩ : ∃ W, W = wc := ⟨_, rfl⟩
          subst h7
          have z7 := hB67.size
          have z6 := H6.out.size
          have B7 := hid (H6.out.trans (hB67.mono z6))
          have B27 := hid (B26.out.trans (hB67.mono B26.out.size))
          have rp7 := row_below RP6.out hB67 l6
          have ra7 := row_below RA6.out hB67 s6
          clear y0 y1 a0 a1
          have y0 := row_cell rp7 0
          have y1 := row_cell rp7 1
          simp at y0 y1
          have l7 := row_lt rp7
          have s7 := row_lt ra7
          have lb7 := row_lt rb
          have RP7 := hid rp7
          have RA7 := hid ra7
          have RB7 := hid rb
          have HL7 := hid (HL.out.below hB67)
          have OO7 := hid ((OO6.out.below hB67).more z7)
          have OE7 := hid ((OE6.out.below hB67).more z7)
          have OB7 := hid hob7
          have EB7 := hid heb7
          have HEB := hid hEb
          have hF := hid (la_Full _ _ P W7 ((H.out.below B7.out).more (by omega)) (.iface tt tv) (cell_below B27.out (by omega) G2.out) ⟨_, _, rfl⟩ (by have := B27.out.size; omega) (by omega) _ l ((HS.out.below B7.out).more (by omega)) hl (going P))
          clear hB67 rp7 ra7 rb hob7 heb7 hEb HL OO6 OE6 RP6 RA6 HST hsl hkl
          go_wp2_with fail
          refine (hF.out).mono ?_
          rintro e W8 ⟨hv, b8⟩
          rcases hv with ⟨hno, -⟩ | ⟨-, Mc, ov, ev, rfl, hrc, hoc, hec⟩
          · exact absurd HVAL.out hno
          obtain ⟨A, hL, hcl, hes, hfd, hreg, hne, hdone⟩ := run_table HVAL.out hrc
          rw [← HOS.out] at hoc hes hreg hne
          obtain ⟨oc1, oc2, rfl⟩ := OwnF.slv hoc
          obtain ⟨ec1, ec2, rfl⟩ := OwnF.slv hec
          obtain ⟨Ec, hEc⟩ : ∃ E, E = Mc.W.evs := ⟨_, rfl⟩
          rw [← hEc] at hec hcl hes hfd ⊢
          have hcc := OwnF.cap hec
          have z8 := b8.size
          have b9 := b8.alloc z8 (.cells #[.slice oc1 os.length oc2, .slice ec1 Ec.length ec2] 31)
          have b89 := (Below.refl W8.heap.size W8).alloc (Nat.le_refl _) (.cells #[.slice oc1 os.length oc2, .slice ec1 Ec.length ec2] 31)
          have rc9 := row_new W8 (.cells #[.slice oc1 os.length oc2, .slice ec1 Ec.length ec2] 31)
          have rp9 := row_below RP7.out b9 l7
          have ra9 := row_below RA7.out b9 s7
          have rb9 := row_below RB7.out b9 lb7
          have z9 := b9.size
          have OC9 := hid (((OwnF.sl hoc).below b89).more b89.size)
          have EC9 := hid (((OwnF.sl hec).below b89).more b89.size)
          have OO9 := hid ((OO7.out.below b9).more z9)
          have OE9 := hid ((OE7.out.below b9).more z9)
          have OB9 := hid ((OB7.out.below b9).more z9)
          have EB9 := hid ((EB7.out.below b9).more z9)
          have HL9 := hid (HL7.out.below b9)
          have B9 := hid (B7.out.trans (b9.mono (by omega)))
          have GW9 := hid (GW.out.below (B27.out.trans (b9.mono B27.out.size)))
          have RP9 := hid rp9
          have RA9 := hid ra9
          have RB9 := hid rb9
          have RC9 := hid rc9
          have lp := row_lt rp9
          have la := row_lt ra9
          have lb := row_lt rb9
          have lc := row_lt rc9
          have HAL := hid hL
          have HCL := hid hcl
          have HES := hid hes
          have HFD := hid hfd
          have HRG := hid hreg
          have HNE := hid hne
          have HDN := hid (hdone rfl)
          have HEC := hid hEc
          have HRC := hid hrc
          clear hF b8 b9 b89 rc9 rp9 ra9 rb9 hoc hec hL hcl hes hfd hreg hne hdone hEc hrc y0 y1 OO7 OE7 OB7 EB7 HL7 RP7 RA7 RB7
          go_upto_region 19 with fail
          generalize W8.alloc (.cells #[.slice oc1 os.length oc2, .slice ec1 Ec.length ec2] 31) = W9 at *
          have a0 := row_cell RA9.out 0
          have a1 := row_cell RA9.out 1
          have b0 := row_cell RB9.out 0
          have b1 := row_cell RB9.out 1
          have c0 := row_cell RC9.out 0
          have c1 := row_cell RC9.out 1
          simp at a0 a1 b0 b1 c0 c1
          have hpre1 : E.take Eb.length = Eb := by
            have := evs_take HVAL.out.ok (l.take k) (l.drop k)
            rw [List.take_append_drop] at this
            rw [HE.out, HM.out, HEB.out]
            exact this
          have hpre2 : Ec.take E.length = E := by
            obtain ⟨l2, h2, -⟩ : ∃ l2, Mc = stepsTo P (startLM P) (l ++ l2) ∧ allDone P Mc.W = true := by simpa [RunOf] using HRC.out
            have := evs_take HVAL.out.ok l l2
            rw [HEC.out, HE.out, HM.out, h2]
            exact this
          have HP1 := hid hpre1
          have HP2 := hid hpre2
          clear hpre1 hpre2
          have bd : Below W9.heap.size W9 W9.drew := (Below.refl _ W9).drew
          refine RN.wp_region_t (W9.heap.size) [1, 1, 0, 1, 0, 3, 3, 0] (.fin [0, 1, 2, 3, 4, 5, 6, 7]) (by kernel_rfl) (by kernel_rfl) (by kernel_rfl) (by kernel_rfl) ?_
          simp only [RN.wpT, selX, guardAt, sD, sE, sF, sG]
          repeat (first | (refine RN.wpL_p (fun K hK => ?_); go_simp; refine hK _ _ ?_; clear hK K) | (apply RN.wpL_s; (intro w2 hw2; have hk1 := hw2.cell; have hk3 := hw2.1; clear hw2; go_simp; with_reducible rfl); simp only [Act.put, sA, sB, sC]) | (refine RN.wpL_nil ?_))
          refine RN.wpL_k (fun K hK => ?_)
          go_simp
          refine (h_Prefix (.slice oa os.length oc) ea ec os E Eb.length W9.drew ((OO9.out.below bd).more bd.size) ((OE9.out.below bd).more bd.size) hcE hob (by omega)).mono ?_
          rintro e U1 ⟨vo, ve, rfl, oo, oe, bV⟩
          rw [HP1.out] at oe
          refine hK _ _ (RN.KeepsN.of_below (bV.mono (by have := bd.size; omega))) ?_
          clear hK K
          have bV := bd.trans (bV.mono bd.size)
          repeat (first | (refine RN.wpL_p (fun K hK => ?_); go_simp; refine hK _ _ ?_; clear hK K) | (apply RN.wpL_s; (intro w2 hw2; have hk1 := hw2.cell; have hk3 := hw2.1; clear hw2; go_simp; with_reducible rfl); simp only [Act.put, sA, sB, sC]) | (refine RN.wpL_nil ?_))
          refine RN.wpL_k (fun K hK => ?_)
          go_simp
          refine (sameHistory_eq _ _ _ _ os Eb U1 ((OB9.out.below bV).more bV.size) (OwnF.sl oo) ((EB9.out.below bV).more bV.size) (OwnF.sl oe)).mono ?_
          rintro e U2 ⟨rfl, bV2⟩
          refine hK _ _ (RN.KeepsN.of_below (bV2.mono (by have := bV.size; omega))) ?_
          clear hK K
          have bV2 := bV.trans (bV2.mono bV.size)
          repeat (first | (refine RN.wpL_p (fun K hK => ?_); go_simp; refine hK _ _ ?_; clear hK K) | (apply RN.wpL_s; (intro w2 hw2; have hk1 := hw2.cell; have hk3 := hw2.1; clear hw2; go_simp; with_reducible rfl); simp only [Act.put, sA, sB, sC]) | (refine RN.wpL_nil ?_))
          have BU2 := hid bV2
          have zu2 := bV2.size
          have ra := row_below RA9.out bV2 la
          have rc := row_below RC9.out bV2 lc
          clear oo oe bV bV2 a0 a1 b0 b1 c0 c1 bd
          have a0 := row_cell ra 0
          have a1 := row_cell ra 1
          have c0 := row_cell rc 0
          have c1 := row_cell rc 1
          simp at a0 a1 c0 c1
          have la2 := row_lt ra
          have lc2 := row_lt rc
          clear ra rc
          go_upto_region 20 with fail
          have bd := BU2.out.drew
          refine RN.wp_region_t (U2.heap.size) [1, 1, 0, 1, 0, 3, 3, 0] (.fin [0, 1, 2, 3, 4, 5, 6, 7]) (by kernel_rfl) (by kernel_rfl) (by kernel_rfl) (by kernel_rfl) ?_
          simp only [RN.wpT, selX, guardAt, sD, sE, sF, sG]
          repeat (first | (refine RN.wpL_p (fun K hK => ?_); go_simp; refine hK _ _ ?_; clear hK K) | (apply RN.wpL_s; (intro w2 hw2; have hk1 := hw2.cell; have hk3 := hw2.1; clear hw2; go_simp; with_reducible rfl); simp only [Act.put, sA, sB, sC]) | (refine RN.wpL_nil ?_))
          refine RN.wpL_k (fun K hK => ?_)
          go_simp
          refine (h_Prefix (.slice oc1 os.length oc2) ec1 ec2 os Ec E.length U2.drew ((OC9.out.below bd).more bd.size) ((EC9.out.below bd).more bd.size) hcc hob (by have := HCL.out; omega)).mono ?_
          rintro e U3 ⟨vo, ve, rfl, oo, oe, bV⟩
          have hu3 : U2.heap.size ≤ U3.heap.size := bV.size
          rw [HP2.out] at oe
          refine hK _ _ (RN.KeepsN.of_below bV) ?_
          clear hK K
          have bV := bd.trans (bV.mono bd.size)
          repeat (first | (refine RN.wpL_p (fun K hK => ?_); go_simp; refine hK _ _ ?_; clear hK K) | (apply RN.wpL_s; (intro w2 hw2; have hk1 := hw2.cell; have hk3 := hw2.1; clear hw2; go_simp; with_reducible rfl); simp only [Act.put, sA, sB, sC]) | (refine RN.wpL_nil ?_))
          refine RN.wpL_k (fun K hK => ?_)
          go_simp
          refine (sameHistory_eq _ _ _ _ os E U3 ((OO9.out.below bV).more bV.size) (OwnF.sl oo) ((OE9.out.below bV).more bV.size) (OwnF.sl oe)).mono ?_
          rintro e U4 ⟨rfl, bV2⟩
          refine hK _ _ (RN.KeepsN.of_below (bV2.mono (by have := hu3; omega))) ?_
          clear hK K
          have bV2 := bV.trans (bV2.mono bV.size)
          repeat (first | (refine RN.wpL_p (fun K hK => ?_); go_simp; refine hK _ _ ?_; clear hK K) | (apply RN.wpL_s; (intro w2 hw2; have hk1 := hw2.cell; have hk3 := hw2.1; clear hw2; go_simp; with_reducible rfl); simp only [Act.put, sA, sB, sC]) | (refine RN.wpL_nil ?_))
          have BU4 := hid bV2
          have zu4 := bV2.size
          have rc := row_below RC9.out bV2 lc
          clear oo oe bV bV2 a0 a1 c0 c1 bd
          have c0 := row_cell rc 0
          have c1 := row_cell rc 1
          simp at c0 c1
          have lc4 := row_lt rc
          clear rc
          have hT := hid (sh_Table _ _ os Ec A U4 ((OC9.out.below BU4.out).more zu4) ((EC9.out.below BU4.out).more zu4) HNE.out HRG.out HCL.out HES.out (GW9.out.below BU4.out) HFD.out)
          go_wp2_with fail
          refine (hT.out).mono ?_
          rintro e U5 ⟨tv', rfl, hA, b5⟩
          have BU5 := hid (BU4.out.trans (b5.mono zu4))
          have zu5 := BU5.out.size
          obtain ⟨ta, tn, tc, rfl⟩ : ∃ a n c, tv' = .slice a n c := by
            obtain ⟨rs, hv, -⟩ := hA
            obtain ⟨a, c, h⟩ := OwnF.slv hv
            exact ⟨_, _, _, h⟩
          have htn : tn = A.length ∧ tn ≤ 9223372036854775807 := by
            obtain ⟨rs, hv, hvl, -⟩ := hA
            obtain ⟨a, c, h, hb⟩ := OwnF.form2 hv
            simp only [Value.slice.injEq] at h
            omega
          obtain ⟨rfl, hbig⟩ := htn
          have hcnt := HAL.out.count HDN.out
          have hC := ref_Count _ _ P U5 ((H.out.below (B9.out.trans (BU5.out.mono (by omega)))).more (by omega)) (by rw [← hcnt]; exact hbig)
          rw [← hcnt] at hC
          have HC := hid hC
          have rp := row_below RP9.out BU5.out lp
          have y0 := row_cell rp 0
          have y1 := row_cell rp 1
          simp at y0 y1
          have lp5 := row_lt rp
          have HA := hid hA
          clear hT b5 hC hcnt rp hA c0 c1
          go_wp2_with fail
          refine (HC.out).mono ?_
          rintro e U6 ⟨rfl, b6⟩
          have BU6 := hid (BU5.out.trans (b6.mono zu5))
          have HA6 := hid (HA.out.below b6)
          have zu6 := BU6.out.size
          clear b6 HC y0 y1
          go_wp2_with fail
          go_loopw [22] (fun p wr => ∃ i : Nat, i ≤ A.length ∧ p = .int .i64 i ∧ wr = U6) (fun p _ => A.length - (intOf p).toNat)
          case atStart => exact ⟨0, by omega, by go_num, rfl⟩
          case round =>
            obtain ⟨i, hi, rfl, hwr⟩ := hrel
            obtain ⟨Ur, hur⟩ : ∃ U, U = wr := ⟨_, rfl⟩
            subst hur
            subst hwr
            by_cases hlt : i < A.length
            · obtain ⟨s, hs⟩ : ∃ s, A[i]? = some s := ⟨_, List.getElem?_eq_getElem hlt⟩
              obtain ⟨gt, rfl, hgt, c4⟩ := HA6.out.fin hs
              have hend := HAL.out.ended HDN.out s (List.mem_of_getElem? hs)
              have q0 : decide (s.fin < 0) = false := by simp; omega
              clear hs
              go_wp2_with fail
              go_roundw
              case rel => exact ⟨i + 1, by omega, by go_num, trivial⟩
              case measure => simp [intOf]; omega
            · obtain rfl : i = A.length := by omega
              have hcan := HGO.out.can M (by rw [HM.out]; exact HGO.out.steps l _ HINV.out)
              have hHL := HL9.out.below BU6.out
              go_wp2_with fail
              refine (la_Cells hHL (fun c hm => hcan.ces c hm)).mono ?_
              rintro e U7 ⟨lv, li, rfl, hli, hO, b7⟩
              have hpc := HVAL.out.ok.cells
              obtain ⟨gl, cl, rfl⟩ : ∃ g c, lv = .slice (some ⟨g, 0, none⟩) li.length c := by
                rcases OwnF.form hO with ⟨-, h2⟩ | ⟨g, kk, h, -⟩
                · rw [h2] at hli; simp at hli; omega
                · exact ⟨g, kk, h⟩
              have hlib : li.length ≤ 1000000 := by omega
              have B7' := hid b7
              have O7 := hid hO
              have zr := BU6.out.size
              clear b7 hO hcan hHL
              go_wp2_with fail
              go_loopw [24] (fun p wx => ∃ (i : Nat) (l2 : List Int), i ≤ li.length ∧ p = .int .i64 i ∧ l2.length = li.length ∧ Below Ur.heap.size Ur wx ∧ OwnF intC 3 1 wx Ur.heap.size (.slice (some ⟨gl, 0, none⟩) li.length cl) l2) (fun p _ => li.length - (intOf p).toNat)
              case atStart => exact ⟨0, li, by omega, by go_num, rfl, B7'.out, O7.out⟩
              case round =>
                obtain ⟨i, l2, hi, rfl, hl2, hB, hO⟩ := hrel
                have HB8 := hid hB
                have HO8 := hid hO
                have hz8 := hB.size
                clear hB hO
                by_cases hlt : i < li.length
                · obtain ⟨x, hx⟩ : ∃ x, l2[i]? = some x := ⟨_, List.getElem?_eq_getElem (by omega)⟩
                  have hgl := HO8.out.lt gl rfl
                  obtain ⟨cs, rk⟩ := HO8.out.keepObj gl rfl
                  have lk := row_lt rk
                  have fk := row_free rk i
                  have ck : wr.cell? ⟨gl, i, none⟩ = some (.int .i64 x) := HO8.out.intc hx
                  have hs8 := OwnF.setAt HO8.out intC_len hx (j := 0) (u := .int .i64 (-9)) (x' := (-9 : Int)) (by decide) rfl
                  simp only [Nat.mul_one, Nat.add_zero] at hs8
                  have HS8 := hid hs8
                  clear hs8 hx rk
                  go_wp2_with fail
                  go_roundw
                  case rel => exact ⟨i + 1, _, by omega, by go_num, by rw [List.length_set]; exact hl2, HB8.out.setCell (p := ⟨gl, i, none⟩) hgl.1 _, HS8.out⟩
                  case measure => simp [intOf]; omega
                · obtain rfl : i = li.length := by omega
                  obtain ⟨Us, hus⟩ : ∃ U, U = wr := ⟨_, rfl⟩
                  subst hus
                  have BU8 := hid (BU6.out.trans (HB8.out.mono zr))
                  have zu8 := BU8.out.size
                  have hH := la_history (HL9.out.below BU8.out) (by rw [← HE.out]; omega)
                  rw [← HOS.out, ← HE.out] at hH
                  have HH := hid hH
                  clear hH HO8
                  go_wp2_with fail
                  refine (HH.out).mono ?_
                  rintro e U9 ⟨ox, vx, rfl, hox, hvx, b9⟩
                  obtain ⟨ox, xc, rfl⟩ := OwnF.slv hox
                  obtain ⟨ax, cx, rfl⟩ := OwnF.slv hvx
                  have bx := (Below.refl U9.heap.size U9).alloc (Nat.le_refl _) (.cells #[.slice ox os.length xc, .slice ax E.length cx] 31)
                  have rx := row_new U9 (.cells #[.slice ox os.length xc, .slice ax E.length cx] 31)
                  have z9' := b9.size
                  have BUX := hid (BU8.out.trans ((b9.alloc z9' (.cells #[.slice ox os.length xc, .slice ax E.length cx] 31)).mono zu8))
                  have VX := hid (OwnF.base (OwnF.below hvx bx) (show W9.heap.size ≤ Us.heap.size by omega))
                  have RX := hid rx
                  clear HH hox hvx b9 bx rx
                  go_wp2_with fail
                  generalize U9.alloc (.cells #[.slice ox os.length xc, .slice ax E.length cx] 31) = UX at *
                  go_loopw [26] (fun p wx => ∃ (i : Nat) (E2 : List Ev), i ≤ E.length ∧ p = .int .i64 i ∧ E2.length = E.length ∧ Below W9.heap.size W9 wx ∧ wx.heap[U9.heap.size]? = some (.cells #[.slice ox os.length xc, .slice ax E.length cx] 31 (0, 0)) ∧ OwnF Ev.cells 46 8 wx W9.heap.size (.slice ax E.length cx) E2) (fun p _ => E.length - (intOf p).toNat)
                  case atStart => exact ⟨0, E, by omega, by go_num, rfl, BUX.out, RX.out, VX.out⟩
                  case round =>
                    obtain ⟨i, E2, hi, rfl, hE2, hB, hR, hV⟩ := hrel
                    have HBX := hid hB
                    have HVX := hid hV
                    have HRX := hid hR
                    have x1 := row_cell hR 1
                    simp at x1
                    have lx := row_lt hR
                    clear hB hV hR
                    by_cases hlt : i < E.length
                    · obtain ⟨gx, rfl⟩ : ∃ g, ax = some ⟨g, 0, none⟩ := by
                        rcases OwnF.form HVX.out with ⟨h, h2⟩ | ⟨g, kk, h, -⟩
                        · rw [h2] at hE2; simp at hE2; omega
                        · simp only [Value.slice.injEq] at h; exact ⟨g, h.1⟩
                      obtain ⟨x, hx⟩ : ∃ x, E2[i]? = some x := ⟨_, List.getElem?_eq_getElem (by omega)⟩
                      have hgl := HVX.out.lt gx rfl
                      obtain ⟨cs, rk⟩ := HVX.out.keepObj gx rfl
                      have lk := row_lt rk
                      have fk := row_free rk (i * 8 + 1)
                      have ck := HVX.out.evc hx
                      have hne := OwnF.neT HVX.out HRX.out (by decide)
                      have hs8 := OwnF.setAt HVX.out Ev.len hx (j := 1) (u := .int .i64 (-9)) (x' := { x with tx := -9 }) (by decide) rfl
                      have HS8 := hid hs8
                      have HNX := hid hne
                      clear hs8 hx rk hne
                      go_wp2_with fail
                      go_roundw
                      case rel => exact ⟨i + 1, _, by omega, by go_num, by rw [List.length_set]; exact hE2, HBX.out.setCell (p := ⟨gx, i * 8 + 1, none⟩) hgl.1 _, row_other HRX.out (by have := HNX.out; simp [Value.ownBlock] at this; omega), HS8.out⟩
                      case measure => simp [intOf]; omega
                    · obtain rfl : i = E.length := by omega
                      obtain ⟨Uy, huy⟩ : ∃ U, U = wr := ⟨_, rfl⟩
                      subst huy
                      have zy := HBX.out.size
                      have hHL := HL9.out.below HBX.out
                      have hOO := (OO9.out.below HBX.out).more zy
                      have hOE := (OE9.out.below HBX.out).more zy
                      have ra := row_below RA9.out HBX.out la
                      have a0 := row_cell ra 0
                      have a1 := row_cell ra 1
                      simp at a0 a1
                      have lay := row_lt ra
                      have HHL := hid hHL
                      have HOO := hid hOO
                      have HOE := hid hOE
                      clear hHL hOO hOE ra
                      go_upto_region 39 with fail
                      refine RN.wp_region_t (Uy.heap.size) [0, 0, 0, 0, 0, 1, 0, 3, 3, 0, 0] (.fin [0, 1, 2, 3, 4, 5, 6, 7, 8, 9, 10]) (by kernel_rfl) (by kernel_rfl) (by kernel_rfl) (by kernel_rfl) ?_
                      simp only [RN.wpT, selX, guardAt, sD, sE, sF, sG, Option.bind_some]
                      repeat (first | (refine RN.wpL_p (fun K hK => ?_); go_simp; refine hK _ _ ?_; clear hK K) | (apply RN.wpL_s; (intro w2 hw2; have hk1 := hw2.cell; have hk3 := hw2.1; clear hw2; go_simp; with_reducible rfl); simp only [Act.put, sA, sB, sC]) | (refine RN.wpL_yes rfl rfl ?_) | (refine RN.wpL_un rfl (fun K hK => ?_); simp only [Act.put, sA, sB, sC]; refine hK _ _ ?_; clear hK K) | (refine RN.wpL_no rfl rfl (fun K hK => ?_); simp only [Act.put, sA, sB, sC]; refine hK _ _ ?_; clear hK K) | (refine RN.wpL_nil ?_))
                      have bd : Below Uy.heap.size Uy Uy.drew := (Below.refl _ Uy).drew
                      have hH := la_history (HHL.out.below bd) (by rw [← HE.out]; omega)
                      rw [← HOS.out, ← HE.out] at hH
                      refine RN.wpL_k (fun K hK => ?_)
                      go_simp
                      refine hH.mono ?_
                      rintro e V1 ⟨o1, v1, rfl, ho1, hv1, b1⟩
                      refine hK _ _ (RN.KeepsN.of_below b1) ?_
                      clear hK K
                      have bV := bd.trans b1
                      have zV := bV.size
                      repeat (first | (refine RN.wpL_p (fun K hK => ?_); go_simp; refine hK _ _ ?_; clear hK K) | (apply RN.wpL_s; (intro w2 hw2; have hk1 := hw2.cell; have hk3 := hw2.1; clear hw2; go_simp; with_reducible rfl); simp only [Act.put, sA, sB, sC]) | (refine RN.wpL_yes rfl rfl ?_) | (refine RN.wpL_un rfl (fun K hK => ?_); simp only [Act.put, sA, sB, sC]; refine hK _ _ ?_; clear hK K) | (refine RN.wpL_no rfl rfl (fun K hK => ?_); simp only [Act.put, sA, sB, sC]; refine hK _ _ ?_; clear hK K) | (refine RN.wpL_nil ?_))
                      refine RN.wpL_k (fun K hK => ?_)
                      go_simp
                      refine (sameHistory_eq _ _ _ _ os E V1 ((HOO.out.below bV).more zV) (OwnF.sl ho1) ((HOE.out.below bV).more zV) (OwnF.sl hv1)).mono ?_
                      rintro e V2 ⟨rfl, b2⟩
                      refine hK _ _ (RN.KeepsN.of_below (b2.mono zV)) ?_
                      clear hK K
                      have B2' := hid (HBX.out.trans ((bV.trans (b2.mono zV)).mono zy))
                      clear hH bd ho1 hv1 b1 bV b2
                      repeat (first | (refine RN.wpL_p (fun K hK => ?_); go_simp; refine hK _ _ ?_; clear hK K) | (apply RN.wpL_s; (intro w2 hw2; have hk1 := hw2.cell; have hk3 := hw2.1; clear hw2; go_simp; with_reducible rfl); simp only [Act.put, sA, sB, sC]) | (refine RN.wpL_yes rfl rfl ?_) | (refine RN.wpL_un rfl (fun K hK => ?_); simp only [Act.put, sA, sB, sC]; refine hK _ _ ?_; clear hK K) | (refine RN.wpL_no rfl rfl (fun K hK => ?_); simp only [Act.put, sA, sB, sC]; refine hK _ _ ?_; clear hK K) | (refine RN.wpL_nil ?_))
                      go_wp2
                      go_ret
                      exact ⟨rfl, B9.out.trans (B2'.out.mono (by have := B9.out.size; omega))⟩
end Go.Proofs.YtogphaiomlfofaaGreatDoor
