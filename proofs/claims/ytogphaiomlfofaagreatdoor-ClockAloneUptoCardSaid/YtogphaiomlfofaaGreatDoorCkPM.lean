/- The engine clock: it answers. Printed by wip/tools/genckp.py. Conditions: those of each theorem, as typed. -/
import Derived.Test.YtogphaiomlfofaaGreatDoorCkSM
set_option linter.unusedVariables false
set_option linter.unusedSimpArgs false
namespace Go.Proofs.YtogphaiomlfofaaGreatDoor
open Go.RowKit Go.Maps
set_option linter.unusedVariables false
set_option linter.unusedSimpArgs false
attribute [local irreducible] wpL

section
variable {w : World} {C : LC} {ve : Value} {P : Pg} {M : LM} {us : List WkV}
theorem LaAt.store (h : LaAt w C ve us P M) {w1 : World} {i b : Nat} {u : WkV} {o' : Wo} (hu : us[i]? = some u) (hb : mbs u.2 b) (ht : w.mapTurned w1 b) (hw : WoAt w1 C.B u o') : LaAt w1 C ve us P { M with ws := M.ws.set i o' } :=
  h.turn (Kd.turned ht) (OwnF.kd h.cells (Kd.turned (T := fun _ => False) ht) (fun h => h)) h.clen (h.wks.store hu hb ht hw)
set_option maxRecDepth 100000 in
set_option maxHeartbeats 4000000 in
theorem la_answer (h : LaAt w C ve us P M) (i : Nat) (hi : i < P.threads.length) {t : Th} (ht : M.W.ths[i]? = some t) (hd : thDone P i t = false) (hbg : t.begun = true) (hl : M.W.evs.length ≤ 100000) {tm : Int} {r : MB} {s : MI} (hws : M.ws[i]? = some (some (tm, r, s))) (hcn : WoCan P r s)
    (k : Nat) (ek ex eh eo ey ev er : Int) (hk : k < P.cells.length) (hb2 : ∀ c ∈ M.cs, -999999000 ≤ c.val ∧ c.val ≤ 999999000) :
    Calls Tryz.prog 107 #[.pointer (some ⟨C.bM, 0, none⟩), .int .i64 i, evV ⟨ek, ex, eh, (k : Nat), eo, ey, ev, er⟩] w (LaPost C P (ansStep P M i t ⟨ek, ex, eh, (k : Nat), eo, ey, ev, er⟩ tm r s) .nilFunc w) := by
  have hk4 : k < 4 := by have := h.ok.cells.2; omega
  have hn4 := h.ok.threads.2
  have hkd : dI (k : Int) := dI_small (by omega) (by omega)
  obtain ⟨gC, cc, hce⟩ := h.ceForm
  obtain ⟨br, bs, hu, hwo, hgW, w0, w1, w2⟩ := h.woAt hi hws
  obtain ⟨hgC, c, hc, c0, c1, c2⟩ := h.ceAt hce hk
  have d0 := row_cell h.row 0
  have d1 := row_cell h.row 1
  have d2 := row_cell h.row 2
  rw [hce] at d1
  have lM := row_lt h.row
  have hbv := hb2 c (List.mem_of_getElem? hc)
  have hat := ceAt_of hc
  have H := hid h
  have HU := hid hu
  have HC := hid hc
  have HCE := hid hce
  have HT := hid ht
  have HCN := hid hcn
  have HD := hid (And.intro hd hbg)
  have HP := hid hwo
  obtain ⟨Y0, hY0⟩ : ∃ Y0 : LM, Y0 = ansStep P M i t ⟨ek, ex, eh, (k : Nat), eo, ey, ev, er⟩ tm r s := ⟨_, rfl⟩
  rw [← hY0]
  simp only [ansStep, hat] at hY0
  have HY0 := hid hY0
  clear hY0 h hu ht hc hcn hws hce hwo hd hbg hb2 hat
  go_enter Tryz.func107, Tryz.ntmps107
  go_wp2_with fail
  have bA : Below w.heap.size w (w.alloc (.cells #[.int .i64 ek, .int .i64 ex, .int .i64 eh, .int .i64 (k : Nat), .int .i64 eo, .int .i64 ey, .int .i64 ev, .int .i64 er] 46)) := (Below.refl _ w).alloc (Nat.le_refl _) _
  have rA := row_new w (.cells #[.int .i64 ek, .int .i64 ex, .int .i64 eh, .int .i64 (k : Nat), .int .i64 eo, .int .i64 ey, .int .i64 ev, .int .i64 er] 46)
  have zA : (w.alloc (.cells #[.int .i64 ek, .int .i64 ex, .int .i64 eh, .int .i64 (k : Nat), .int .i64 eo, .int .i64 ey, .int .i64 ev, .int .i64 er] 46)).heap.size = w.heap.size + 1 := by simp
  generalize w.alloc (.cells #[.int .i64 ek, .int .i64 ex, .int .i64 eh, .int .i64 (k : Nat), .int .i64 eo, .int .i64 ey, .int .i64 ev, .int .i64 er] 46) = W at *
  have lE : w.heap.size < W.heap.size := by omega
  have lM' : C.bM < W.heap.size := by omega
  have lW' : C.gW < W.heap.size := by omega
  have lC' : gC < W.heap.size := by omega
  have d0 := cell_below bA lM d0
  have d1 := cell_below bA lM d1
  have d2 := cell_below bA lM d2
  have w0 := cell_below bA hgW w0
  have w1 := cell_below bA hgW w1
  have w2 := cell_below bA hgW w2
  have c0 := cell_below bA hgC c0
  have c1 := cell_below bA hgC c1
  have c2 := cell_below bA hgC c2
  have e3 := row_cell rA 3
  have e4 := row_cell rA 4
  have e6 := row_cell rA 6
  have hB := H.out.size
  have HA := hid (bA.mono hB)
  have ZA := hid zA
  have HW := hid (H.out.below bA)
  have HQ := hid (HP.out.keep fun b hb => by
    obtain ⟨-, es, cl, hh⟩ := HP.out.isMap b hb
    rw [row_below hh bA (row_lt hh), hh])
  clear bA rA zA H HP
  obtain ⟨br', bs', hu, hbr, hbs, hne, hmr, hms, hcr, hsr, hcs, hss⟩ := HQ.out
  simp only [Prod.mk.injEq, Value.map.injEq, Option.some.injEq, true_and] at hu
  obtain ⟨rfl, rfl⟩ := hu
  have HMR := hid hmr
  have HMS := hid hms
  have HCR := hid hcr
  have HCS := hid hcs
  have HSR := hid hsr
  have HSS := hid hss
  clear hmr hms hcr hsr hcs hss
  obtain ⟨q, hf⟩ : ∃ q, fnd (k : Int) s = q := ⟨_, rfl⟩
  have lk : ∀ X : World, X.heap[bs]? = W.heap[bs]? → (Instr.lookup 160 (.map (some bs)) (.int .i64 (k : Int)) true).run Tryz.prog X = .ok (.tuple #[.int .i64 (q.getD 0), .bool q.isSome]) X := fun X hX => lookOkI (HMS.out.obj hX) HCS.out.dom hkd hf
  have lbs := HMS.out.lt
  refine wp_region_x [0, 0, 0, 1, 0, 0, 0, 0, 0, 1, 0, 1, 0, 0, 0] [0, 1, 2, 3, 4, 5, 6, 7, 8, 9, 10, 11, 12, 13, 14] (by kernel_rfl) (by kernel_rfl) rfl (by kernel_rfl) ?_
  simp only [selX, guardAt, sD, sE, sF, sG]
  repeat (first | (refine wpL_p (fun K hK => ?_); go_simp; refine hK _ _ ?_; clear hK K) | (apply wpL_s; (intro w2 hw2; have hk1 := hw2.cell; have hk3 := hw2.heap; clear hw2; go_simp; with_reducible rfl); simp only [Act.put, sA, sB, sC]) | (refine wpL_nil ?_))
  go_wp2_with fail
  cases q with
  | some v =>
    have hv := (HCN.out.sin (k, v) ((fnd_some HSS.out).1 hf)).2
    rw [hf] at HY0
    clear hf
    refine wp_region_x [0, 0, 0, 1, 0, 1, 1, 0, 0, 0, 0, 0] [0, 1, 2, 3, 4, 5, 6, 7, 8, 9, 10, 11] (by kernel_rfl) (by kernel_rfl) rfl (by kernel_rfl) ?_
    simp only [selX, guardAt, sD, sE, sF, sG]
    repeat (first | (refine wpL_p (fun K hK => ?_); go_simp; refine hK _ _ ?_; clear hK K) | (apply wpL_s; (intro w2 hw2; have hk1 := hw2.cell; have hk3 := hw2.heap; clear hw2; go_simp; with_reducible rfl); simp only [Act.put, sA, sB, sC]) | (refine wpL_nil ?_))
    refine wpL_r (fun K hK => ?_)
    refine ⟨.tuple #[.int .i64 v, .bool true], fun w2 hw2 => ?_, ?_⟩
    · have lk2 := lk w2 (hw2.heap bs (show W.heap[bs]?.isSome = true by rw [Array.getElem?_eq_getElem lbs]; rfl))
      clear lk
      go_simp
    refine hK _ _ ?_
    clear hK K
    simp only [Act.put, sA, sB, sC]
    repeat (first | (refine wpL_p (fun K hK => ?_); go_simp; refine hK _ _ ?_; clear hK K) | (apply wpL_s; (intro w2 hw2; have hk1 := hw2.cell; have hk3 := hw2.heap; clear hw2; go_simp; with_reducible rfl); simp only [Act.put, sA, sB, sC]) | (refine wpL_nil ?_))
    by_cases hop : eo = 2
    · subst hop
      have qo : ((2 : Int) == 2) = true := rfl
      have hY := HY0.out
      rw [if_pos rfl] at hY
      have HY1 := hid hY
      clear hY HY0
      go_wp2_with fail
      refine wp_region_x [0, 0, 0, 1, 0, 1, 0, 1, 2] [0, 1, 2, 3, 4, 5, 6, 7, 8] (by kernel_rfl) (by kernel_rfl) rfl (by kernel_rfl) ?_
      simp only [selX, guardAt, sD, sE, sF, sG]
      repeat (first | (refine wpL_p (fun K hK => ?_); go_simp; refine hK _ _ ?_; clear hK K) | (apply wpL_s; (intro w2 hw2; have hk1 := hw2.cell; have hk3 := hw2.heap; clear hw2; go_simp; with_reducible rfl); simp only [Act.put, sA, sB, sC]) | (refine wpL_nil ?_))
      refine wpL_e (fun K hK => ?_)
      refine (HMS.out.drew.drew.drew).wp_store keyI elem_int HCS.out.dom HSS.out Tryz.underlying160 (v := ev) (by have := HCS.out.len HSS.out; unfold maxLen; omega) hkd rfl (by rfl) (by rfl) (by rfl) ?_
      intro X6 h6 t6
      refine hK _ _ ?_
      clear hK K
      have L6 := (HW.out.below (Below.refl _ W).drew.drew.drew).store (i := i) HU.out (.inr rfl) t6 (o' := some (tm, r, upd (k : Int) ev s)) ⟨br, bs, rfl, hbr, hbs, hne, HMR.out.drew.drew.drew.obj (turned_other t6 hne), h6.tight, HCR.out, HSR.out, HCS.out.upd (by omega) (by omega), srt_upd HSS.out⟩
      have B6 := hid (HA.out.drew.drew.drew.trans (Below.turned t6 hbs))
      have z0 := row_cell L6.row 0
      have lz := row_lt L6.row
      have HL6 := hid L6
      clear h6 t6 L6 d0 d1 d2 w0 w1 w2 c0 c1 c2 e3 e4 e6 lk
      repeat (first | (refine wpL_p (fun K hK => ?_); go_simp; refine hK _ _ ?_; clear hK K) | (apply wpL_s; (intro w2 hw2; have hk1 := hw2.cell; have hk3 := hw2.heap; clear hw2; go_simp; with_reducible rfl); simp only [Act.put, sA, sB, sC]) | (refine wpL_nil ?_))
      go_wp2_with fail
      refine (la_said HL6.out i hi HT.out 0 false (by omega) hl).mono ?_
      rintro e X7 ⟨rfl, hb, ve', us', hla⟩
      have B7 := hid (B6.out.trans hb)
      have L7 := hid hla
      clear hb hla z0
      go_wp2
      go_ret
      exact ⟨rfl, B7.out, ve', us', by rw [HY1.out]; exact L7.out⟩
    · have qo : (eo == 2) = false := by simpa using hop
      have hY := HY0.out
      rw [if_neg hop] at hY
      have HY1 := hid hY
      clear hY HY0 hop
      go_wp2_with fail
      refine (la_said (HW.out.below (by first | exact (Below.refl _ W).drew.drew | exact (Below.refl _ W).drew | exact (Below.refl _ W).drew.drew.drew | exact Below.refl _ W | exact (Below.refl _ W).drew.drew.drew.drew)) i hi HT.out v false hv hl).mono ?_
      rintro e X2 ⟨rfl, hb, ve', us', hla⟩
      have B2 : Hid (Below C.B w X2) := hid (Below.trans (by first | exact HA.out.drew.drew | exact HA.out.drew | exact HA.out.drew.drew.drew | exact HA.out) hb)
      have L2 := hid hla
      clear hb hla d0 d1 d2 w0 w1 w2 c0 c1 c2 e3 e4 e6 lk
      go_wp2
      go_ret
      exact ⟨rfl, B2.out, ve', us', by rw [HY1.out]; exact L2.out⟩
  | none =>
    rw [hf] at HY0
    clear hf
    refine wp_region_x [0, 0, 0, 1, 0, 1, 1, 0, 0, 0, 0, 0] [0, 1, 2, 3, 4, 5, 6, 7, 8, 9, 10, 11] (by kernel_rfl) (by kernel_rfl) rfl (by kernel_rfl) ?_
    simp only [selX, guardAt, sD, sE, sF, sG]
    repeat (first | (refine wpL_p (fun K hK => ?_); go_simp; refine hK _ _ ?_; clear hK K) | (apply wpL_s; (intro w2 hw2; have hk1 := hw2.cell; have hk3 := hw2.heap; clear hw2; go_simp; with_reducible rfl); simp only [Act.put, sA, sB, sC]) | (refine wpL_nil ?_))
    refine wpL_r (fun K hK => ?_)
    refine ⟨.tuple #[.int .i64 0, .bool false], fun w2 hw2 => ?_, ?_⟩
    · have lk2 := lk w2 (hw2.heap bs (show W.heap[bs]?.isSome = true by rw [Array.getElem?_eq_getElem lbs]; rfl))
      clear lk
      go_simp
    refine hK _ _ ?_
    clear hK K
    simp only [Act.put, sA, sB, sC]
    repeat (first | (refine wpL_p (fun K hK => ?_); go_simp; refine hK _ _ ?_; clear hK K) | (apply wpL_s; (intro w2 hw2; have hk1 := hw2.cell; have hk3 := hw2.heap; clear hw2; go_simp; with_reducible rfl); simp only [Act.put, sA, sB, sC]) | (refine wpL_nil ?_))
    by_cases hop : eo = 2
    · subst hop
      have qo : ((2 : Int) == 2) = true := rfl
      have hY := HY0.out
      rw [if_pos rfl] at hY
      have HY1 := hid hY
      clear hY HY0
      go_wp2_with fail
      refine wp_region_x [0, 0, 0, 1, 0, 1, 0, 1, 2] [0, 1, 2, 3, 4, 5, 6, 7, 8] (by kernel_rfl) (by kernel_rfl) rfl (by kernel_rfl) ?_
      simp only [selX, guardAt, sD, sE, sF, sG]
      repeat (first | (refine wpL_p (fun K hK => ?_); go_simp; refine hK _ _ ?_; clear hK K) | (apply wpL_s; (intro w2 hw2; have hk1 := hw2.cell; have hk3 := hw2.heap; clear hw2; go_simp; with_reducible rfl); simp only [Act.put, sA, sB, sC]) | (refine wpL_nil ?_))
      refine wpL_e (fun K hK => ?_)
      refine (HMS.out.drew.drew.drew).wp_store keyI elem_int HCS.out.dom HSS.out Tryz.underlying160 (v := ev) (by have := HCS.out.len HSS.out; unfold maxLen; omega) hkd rfl (by rfl) (by rfl) (by rfl) ?_
      intro X6 h6 t6
      refine hK _ _ ?_
      clear hK K
      have L6 := (HW.out.below (Below.refl _ W).drew.drew.drew).store (i := i) HU.out (.inr rfl) t6 (o' := some (tm, r, upd (k : Int) ev s)) ⟨br, bs, rfl, hbr, hbs, hne, HMR.out.drew.drew.drew.obj (turned_other t6 hne), h6.tight, HCR.out, HSR.out, HCS.out.upd (by omega) (by omega), srt_upd HSS.out⟩
      have B6 := hid (HA.out.drew.drew.drew.trans (Below.turned t6 hbs))
      have z0 := row_cell L6.row 0
      have lz := row_lt L6.row
      have HL6 := hid L6
      clear h6 t6 L6 d0 d1 d2 w0 w1 w2 c0 c1 c2 e3 e4 e6 lk
      repeat (first | (refine wpL_p (fun K hK => ?_); go_simp; refine hK _ _ ?_; clear hK K) | (apply wpL_s; (intro w2 hw2; have hk1 := hw2.cell; have hk3 := hw2.heap; clear hw2; go_simp; with_reducible rfl); simp only [Act.put, sA, sB, sC]) | (refine wpL_nil ?_))
      go_wp2_with fail
      refine (la_said HL6.out i hi HT.out 0 false (by omega) hl).mono ?_
      rintro e X7 ⟨rfl, hb, ve', us', hla⟩
      have B7 := hid (B6.out.trans hb)
      have L7 := hid hla
      clear hb hla z0
      go_wp2
      go_ret
      exact ⟨rfl, B7.out, ve', us', by rw [HY1.out]; exact L7.out⟩
    · have qo : (eo == 2) = false := by simpa using hop
      have hY := HY0.out
      rw [if_neg hop] at hY
      clear HY0 hop
      by_cases ho : c.own = 0
      · by_cases hv : tm < c.ver
        ·
          have qa : (c.own != 0) = false := by simp [ho]
          have HO := hid ho
          have qc : decide (c.ver > tm) = true := by simp; omega
          have qd : decide (tm < c.ver) = true := by simp; omega
          have HN := hid hv
          have hst : stale tm c = true := by simp [stale, ho, hv]
          rw [if_pos hst] at hY
          have HY1 := hid hY
          clear hY hst ho hv
          go_wp2_with fail
          refine wp_region_x [0, 0, 0, 1, 0, 0, 0, 0, 0, 1, 0, 0, 0, 1, 0, 0, 0] [0, 1, 2, 3, 4, 5, 6, 7, 8, 9, 10, 11, 12, 13, 14, 15, 16] (by kernel_rfl) (by kernel_rfl) rfl (by kernel_rfl) ?_
          simp only [selX, guardAt, sD, sE, sF, sG, Option.bind_some]
          repeat (first | (refine wpL_p (fun K hK => ?_); go_simp; refine hK _ _ ?_; clear hK K) | (apply wpL_s; (intro w2 hw2; have hk1 := hw2.cell; have hk3 := hw2.heap; clear hw2; go_simp; with_reducible rfl); simp only [Act.put, sA, sB, sC]) | (refine wpL_yes rfl rfl ?_) | (refine wpL_no rfl rfl (fun K hK => ?_); simp only [Act.put, sA, sB, sC]; refine hK _ _ ?_; clear hK K) | (refine wpL_nil ?_))
          go_wp2_with fail
          refine (la_mkAbort (HW.out.below (by first | exact (Below.refl _ W).drew.drew | exact (Below.refl _ W).drew | exact (Below.refl _ W).drew.drew.drew | exact Below.refl _ W | exact (Below.refl _ W).drew.drew.drew.drew)) i).mono ?_
          rintro e X1 ⟨q1, q2, rfl, b1, hbx⟩
          have b1 : Below W.heap.size W X1 := Below.trans (by first | exact (Below.refl _ W).drew.drew | exact (Below.refl _ W).drew | exact (Below.refl _ W).drew.drew.drew | exact Below.refl _ W | exact (Below.refl _ W).drew.drew.drew.drew) b1
          have HC1 := hid (la_abort1 (HW.out.below b1) i hi HT.out HD.out.1 HD.out.2 hl hbx)
          have B1 := hid (HA.out.trans (b1.mono HW.out.size))
          clear b1 hbx d0 d1 d2 w0 w1 w2 c0 c1 c2 e3 e4 e6 lk
          go_wp2_with fail
          refine (HC1.out).mono ?_
          rintro e X2 ⟨rfl, hb, ve', us', hla⟩
          have B2 := hid (B1.out.trans hb)
          have L2 := hid hla
          clear hb hla HC1
          go_wp2
          go_ret
          exact ⟨rfl, B2.out, ve', us', by rw [HY1.out]; exact L2.out⟩
        ·
          have qa : (c.own != 0) = false := by simp [ho]
          have HO := hid ho
          have qc : decide (c.ver > tm) = false := by simp; omega
          have qd : decide (tm < c.ver) = false := by simp; omega
          have HN := hid hv
          have hst : stale tm c = false := by simp [stale, ho, hv]
          rw [if_neg (by rw [hst]; decide)] at hY
          have HY1 := hid hY
          clear hY hst ho hv
          go_wp2_with fail
          refine wp_region_x [0, 0, 0, 1, 0, 0, 0, 0, 0, 1, 0, 0, 0, 1, 0, 0, 0] [0, 1, 2, 3, 4, 5, 6, 7, 8, 9, 10, 11, 12, 13, 14, 15, 16] (by kernel_rfl) (by kernel_rfl) rfl (by kernel_rfl) ?_
          simp only [selX, guardAt, sD, sE, sF, sG, Option.bind_some]
          repeat (first | (refine wpL_p (fun K hK => ?_); go_simp; refine hK _ _ ?_; clear hK K) | (apply wpL_s; (intro w2 hw2; have hk1 := hw2.cell; have hk3 := hw2.heap; clear hw2; go_simp; with_reducible rfl); simp only [Act.put, sA, sB, sC]) | (refine wpL_yes rfl rfl ?_) | (refine wpL_no rfl rfl (fun K hK => ?_); simp only [Act.put, sA, sB, sC]; refine hK _ _ ?_; clear hK K) | (refine wpL_nil ?_))
          go_wp2_with fail
          refine wp_region_x [0, 0, 0, 1, 0, 1, 2] [0, 1, 2, 3, 4, 5, 6] (by kernel_rfl) (by kernel_rfl) rfl (by kernel_rfl) ?_
          simp only [selX, guardAt, sD, sE, sF, sG]
          repeat (first | (refine wpL_p (fun K hK => ?_); go_simp; refine hK _ _ ?_; clear hK K) | (apply wpL_s; (intro w2 hw2; have hk1 := hw2.cell; have hk3 := hw2.heap; clear hw2; go_simp; with_reducible rfl); simp only [Act.put, sA, sB, sC]) | (refine wpL_nil ?_))
          refine wpL_e (fun K hK => ?_)
          refine (HMR.out.drew.drew.drew.drew).wp_store keyI elem_bool HCR.out.dom HSR.out Tryz.underlying168 (v := ()) (by have := HCR.out.len HSR.out; unfold maxLen; omega) hkd rfl (by rfl) (by rfl) (by rfl) ?_
          intro X6 h6 t6
          refine hK _ _ ?_
          clear hK K
          have L6 := (HW.out.below (Below.refl _ W).drew.drew.drew.drew).store (i := i) HU.out (.inl rfl) t6 (o' := some (tm, upd (k : Int) () r, s)) ⟨br, bs, rfl, hbr, hbs, hne, h6.tight, HMS.out.drew.drew.drew.drew.obj (turned_other t6 (Ne.symm hne)), HCR.out.upd (by omega) (by omega), srt_upd HSR.out, HCS.out, HSS.out⟩
          have B6 := hid (HA.out.drew.drew.drew.drew.trans (Below.turned t6 hbr))
          have z0 := row_cell L6.row 0
          have lz := row_lt L6.row
          have kt := Kd.turned (T := fun _ => False) t6
          obtain ⟨csr, hrC⟩ := (HW.out.below (Below.refl _ W).drew.drew.drew.drew).ceRow HCE.out
          have hrC' := kt _ _ _ _ hrC (fun h => h)
          have zc : X6.cell? ⟨gC, k * 3, none⟩ = some (.int .i64 c.val) := by
            obtain ⟨-, c', hc', g0, -⟩ := L6.ceAt HCE.out hk
            have hc' : M.cs[k]? = some c' := hc'
            rw [HC.out] at hc'
            obtain rfl := Option.some.inj hc'
            exact g0
          have lzc := row_lt hrC'
          have HL6 := hid L6
          clear h6 t6 L6 hrC hrC' kt d0 d1 d2 w0 w1 w2 c0 c1 c2 e3 e4 e6 lk
          repeat (first | (refine wpL_p (fun K hK => ?_); go_simp; refine hK _ _ ?_; clear hK K) | (apply wpL_s; (intro w2 hw2; have hk1 := hw2.cell; have hk3 := hw2.heap; clear hw2; go_simp; with_reducible rfl); simp only [Act.put, sA, sB, sC]) | (refine wpL_nil ?_))
          go_wp2_with fail
          refine wp_region_x [0, 0, 0, 1, 0, 0, 0, 0, 1, 2] [0, 1, 2, 3, 4, 5, 6, 7, 8, 9] (by kernel_rfl) (by kernel_rfl) rfl (by kernel_rfl) ?_
          simp only [selX, guardAt, sD, sE, sF, sG]
          repeat (first | (refine wpL_p (fun K hK => ?_); go_simp; refine hK _ _ ?_; clear hK K) | (apply wpL_s; (intro w2 hw2; have hk1 := hw2.cell; have hk3 := hw2.heap; clear hw2; go_simp; with_reducible rfl); simp only [Act.put, sA, sB, sC]) | (refine wpL_nil ?_))
          refine wpL_e (fun K hK => ?_)
          go_simp
          refine (la_said (HL6.out.below (Below.refl _ X6).drew) i hi HT.out c.val false hbv hl).mono ?_
          rintro e X7 ⟨rfl, hb, ve', us', hla⟩
          refine hK _ _ ?_
          clear hK K
          have B7 := hid (B6.out.drew.trans hb)
          have L7 := hid hla
          clear hb hla z0 zc
          repeat (first | (refine wpL_p (fun K hK => ?_); go_simp; refine hK _ _ ?_; clear hK K) | (apply wpL_s; (intro w2 hw2; have hk1 := hw2.cell; have hk3 := hw2.heap; clear hw2; go_simp; with_reducible rfl); simp only [Act.put, sA, sB, sC]) | (refine wpL_nil ?_))
          go_wp2
          go_ret
          exact ⟨rfl, B7.out, ve', us', by rw [HY1.out]; exact L7.out⟩
      ·
        have qa : (c.own != 0) = true := by simp [ho]
        have HO := hid ho
        have hst : stale tm c = true := by simp [stale, ho]
        rw [if_pos hst] at hY
        have HY1 := hid hY
        clear hY hst ho
        go_wp2_with fail
        refine wp_region_x [0, 0, 0, 1, 0, 0, 0, 0, 0, 1, 0, 0, 0, 1, 0, 0, 0] [0, 1, 2, 3, 4, 5, 6, 7, 8, 9, 10, 11, 12, 13, 14, 15, 16] (by kernel_rfl) (by kernel_rfl) rfl (by kernel_rfl) ?_
        simp only [selX, guardAt, sD, sE, sF, sG, Option.bind_some]
        repeat (first | (refine wpL_p (fun K hK => ?_); go_simp; refine hK _ _ ?_; clear hK K) | (apply wpL_s; (intro w2 hw2; have hk1 := hw2.cell; have hk3 := hw2.heap; clear hw2; go_simp; with_reducible rfl); simp only [Act.put, sA, sB, sC]) | (refine wpL_yes rfl rfl ?_) | (refine wpL_no rfl rfl (fun K hK => ?_); simp only [Act.put, sA, sB, sC]; refine hK _ _ ?_; clear hK K) | (refine wpL_nil ?_))
        go_wp2_with fail
        refine (la_mkAbort (HW.out.below (by first | exact (Below.refl _ W).drew.drew | exact (Below.refl _ W).drew | exact (Below.refl _ W).drew.drew.drew | exact Below.refl _ W | exact (Below.refl _ W).drew.drew.drew.drew)) i).mono ?_
        rintro e X1 ⟨q1, q2, rfl, b1, hbx⟩
        have b1 : Below W.heap.size W X1 := Below.trans (by first | exact (Below.refl _ W).drew.drew | exact (Below.refl _ W).drew | exact (Below.refl _ W).drew.drew.drew | exact Below.refl _ W | exact (Below.refl _ W).drew.drew.drew.drew) b1
        have HC1 := hid (la_abort1 (HW.out.below b1) i hi HT.out HD.out.1 HD.out.2 hl hbx)
        have B1 := hid (HA.out.trans (b1.mono HW.out.size))
        clear b1 hbx d0 d1 d2 w0 w1 w2 c0 c1 c2 e3 e4 e6 lk
        go_wp2_with fail
        refine (HC1.out).mono ?_
        rintro e X2 ⟨rfl, hb, ve', us', hla⟩
        have B2 := hid (B1.out.trans hb)
        have L2 := hid hla
        clear hb hla HC1
        go_wp2
        go_ret
        exact ⟨rfl, B2.out, ve', us', by rw [HY1.out]; exact L2.out⟩

end
end Go.Proofs.YtogphaiomlfofaaGreatDoor
