/- The engine clock: the closures that lock, tick, look, write. Printed by wip/tools/gencks.py. Conditions: those of each theorem, as typed. -/
import Derived.Test.YtogphaiomlfofaaGreatDoorCkDM
set_option linter.unusedVariables false
set_option linter.unusedSimpArgs false
namespace Go.Proofs.YtogphaiomlfofaaGreatDoor
open Go.RowKit Go.Maps
set_option linter.unusedVariables false
set_option linter.unusedSimpArgs false
attribute [local irreducible] wpL

section
variable {w w' : World} {C : LC} {ve : Value} {P : Pg} {M : LM} {us : List WkV}
theorem lookI {w : World} {f n : Nat} {F : MI} (h : IsMI w f n F) (hd : KDom dI F) {a : Int} (ha : dI a) : (Instr.lookup 160 (.map (some f)) (.int .i64 a) false).run Tryz.prog w = .ok (.int .i64 ((fnd a F).getD 0)) w := by
  have := h.look keyI elem_int hd Tryz.underlying160 (zeroI w) ha
  rw [this]
  cases fnd a F <;> rfl
theorem ceAt_of {cs : List Ce} {k : Nat} {c : Ce} (h : cs[k]? = some c) : ceAt cs (k : Int) = c := by simp [ceAt, h]
set_option maxRecDepth 100000 in
set_option maxHeartbeats 2000000 in
theorem la_lock1 (h : LaAt w C ve us P M) (i : Nat) (hi : i < P.threads.length) {t : Th} (ht : M.W.ths[i]? = some t) (hd : thDone P i t = false) (hbg : t.begun = true) (hl : M.W.evs.length ≤ 100000) (k : Int) (l : List Int) (hl4 : (k :: l).length ≤ 4) (hk : ∀ z ∈ k :: l, 0 ≤ z ∧ z < P.cells.length) {p1 p2 p3 : Nat} (hx : BxM w C i p1 p2) (h3 : LsBx w C p3 (k :: l)) :
    Calls Tryz.prog 140 #[.pointer (some ⟨p1, 0, none⟩), .pointer (some ⟨p3, 0, none⟩), .pointer (some ⟨p2, 0, none⟩)] w (LaNext C P i (lockStep P M i t (k :: l)) w) := by
  have hn4 := h.ok.threads.2
  obtain ⟨gC, cc, hce⟩ := h.ceForm
  obtain ⟨hk0, hk1⟩ := hk k (by simp)
  obtain ⟨k, rfl⟩ : ∃ z : Nat, k = z := ⟨k.toNat, by omega⟩
  have hc4 := h.ok.cells.2
  have hkn : k < P.cells.length := by omega
  obtain ⟨lC, c, hc, c0, c1, c2⟩ := h.ceAt hce hkn
  have hat := ceAt_of hc
  obtain ⟨g, off, cap, n, cs, r3, rg, yg, hn3, hn5, hncap, hv'⟩ := h3.open
  have hn2 : (1 : Int) ≤ (n : Int) := by omega
  have hn4' : (0 : Int) < (n : Int) := by omega
  have hl3 : l.length ≤ 4 := by simp only [List.length_cons] at hl4; omega
  have e1 := row_cell h.row 1
  rw [hce] at e1
  have lM := row_lt h.row
  have y0 := row_cell hx.1 0
  have y1 := row_cell hx.2.1 0
  have y3 := row_cell r3 0
  have k0 := row_lt hx.1
  have k1 := row_lt hx.2.1
  have k3 := row_lt r3
  have kg := row_lt rg
  have H := hid h
  have HT := hid ht
  have HC := hid hc
  have HX := hid hx
  have HCE := hid hce
  have R3 := hid r3
  have RG := hid rg
  have HV := hid hv'
  have HD := hid (And.intro hd hbg)
  obtain ⟨Y0, hY0⟩ : ∃ Y0 : LM × Nx, Y0 = lockStep P M i t ((k : Int) :: l) := ⟨_, rfl⟩
  rw [← hY0]
  simp only [lockStep, hat, Int.toNat_natCast] at hY0
  have HY0 := hid hY0
  clear h ht hc hx hce h3 hat r3 rg hv' hd hbg hY0 hk hl4
  go_enter Tryz.func140, Tryz.ntmps140
  go_wp2_with fail
  refine wp_region_x [1, 0, 0, 1, 1, 0, 1, 0, 0] [0, 1, 2, 3, 4, 5, 6, 7, 8] (by kernel_rfl) (by kernel_rfl) rfl (by kernel_rfl) ?_
  simp only [selX, guardAt, sD, sE, sF, sG]
  repeat (first | (refine wpL_p (fun K hK => ?_); go_simp; refine hK _ _ ?_; clear hK K) | (apply wpL_s; (intro w2 hw2; have hk1 := hw2.cell; have hk3 := hw2.heap; clear hw2; go_simp; with_reducible rfl); simp only [Act.put, sA, sB, sC]) | (refine wpL_nil ?_))
  by_cases ho : c.own = 0
  · have q1 : (c.own != 0) = false := by simp [ho]
    have hY := HY0.out
    rw [if_pos ho] at hY
    have HY1 := hid hY
    clear hY HY0
    have HO := hid ho
    have e0 := row_cell H.out.row 0
    clear ho
    go_wp2_with fail
    refine RN.wp_region_t (w.heap.size) [0, 1, 0, 0, 1, 1, 3, 0, 0, 2] (.fin [0, 1, 2, 3, 4, 5, 6, 7, 8, 9]) (by kernel_rfl) (by kernel_rfl) (by kernel_rfl) (by kernel_rfl) ?_
    simp only [RN.wpT, selX, guardAt, sD, sE, sF, sG]
    repeat (first | (refine RN.wpL_p (fun K hK => ?_); go_simp; refine hK _ _ ?_; clear hK K) | (apply RN.wpL_s; (intro w2 hw2; have hk1 := hw2.cell; have hk3 := hw2.1; clear hw2; go_simp; with_reducible rfl); simp only [Act.put, sA, sB, sC]) | (refine RN.wpL_nil ?_))
    refine RN.wpL_k (fun K hK => ?_)
    go_simp
    refine (la_tx (H.out.below (Below.refl _ w).drew.drew) i hi HT.out HD.out.1 HD.out.2).mono ?_
    rintro e X0 ⟨rfl, b1⟩
    have b0 : Below w.heap.size w X0 := (Below.refl _ w).drew.drew.trans b1
    refine hK _ _ (RN.KeepsN.of_below b1) ?_
    clear hK K b1
    have HX0 := hid (H.out.below b0)
    have c2 := cell_below b0 lC c2
    obtain ⟨csr, hrC⟩ := HX0.out.ceRow HCE.out
    have ff := row_free hrC (k * 3 + 2)
    have lC0 := row_lt hrC
    obtain ⟨L4, hBC, kd1, km1, ro⟩ := HX0.out.ceSet HCE.out (k := k) (j := 2) (c := c) (u := ⟨c.val, c.ver, idOf i t.tx⟩) (a := .int .i64 (idOf i t.tx)) HC.out (by decide) rfl
    have bx4 := (HX.out.below b0).kd kd1 (by decide) (by decide)
    have b4 : Below C.B w (X0.setCell ⟨gC, k * 3 + 2, none⟩ (.int .i64 (idOf i t.tx))) := (b0.mono H.out.size).setCell (p := ⟨gC, k * 3 + 2, none⟩) hBC _
    have r34 := kd1 _ _ _ _ (row_below R3.out b0 k3) (by decide)
    have rg4 := kd1 _ _ _ _ (row_below RG.out b0 kg) (by decide)
    have HLX := hid L4
    have HXX := hid bx4
    have HBX := hid b4
    have R3X := hid r34
    have RGX := hid rg4
    clear L4 kd1 km1 ro bx4 b4 r34 rg4 hrC b0
    repeat (first | (refine RN.wpL_p (fun K hK => ?_); go_simp; refine hK _ _ ?_; clear hK K) | (apply RN.wpL_s; (intro w2 hw2; have hk1 := hw2.cell; have hk3 := hw2.1; clear hw2; go_simp; with_reducible rfl); simp only [Act.put, sA, sB, sC]) | (refine RN.wpL_nil ?_))
    refine RN.wpL_e (fun K hK => ?_)
    go_simp
    refine hK _ _ ?_
    clear hK K
    repeat (first | (refine RN.wpL_p (fun K hK => ?_); go_simp; refine hK _ _ ?_; clear hK K) | (apply RN.wpL_s; (intro w2 hw2; have hk1 := hw2.cell; have hk3 := hw2.1; clear hw2; go_simp; with_reducible rfl); simp only [Act.put, sA, sB, sC]) | (refine RN.wpL_nil ?_))
    generalize X0.setCell ⟨gC, k * 3 + 2, none⟩ (.int .i64 (idOf i t.tx)) = X at *
    clear y0 y1 y3 yg c0 c1 c2 e1 e0 ff H HX R3 RG
    have y0 := row_cell HXX.out.1 0
    have y1 := row_cell HXX.out.2.1 0
    have y3 := row_cell R3X.out 0
    have k0 := row_lt HXX.out.1
    have k1 := row_lt HXX.out.2.1
    have k3 := row_lt R3X.out
    go_wp2_with fail
    by_cases hc1 : cap = 1
    · subst hc1
      refine wp_region_x [1, 1, 1, 0, 2, 0] [0, 1, 2, 3, 4, 5] (by kernel_rfl) (by kernel_rfl) rfl (by kernel_rfl) ?_
      simp only [selX, guardAt, sD, sE, sF, sG]
      repeat (first | (refine wpL_p (fun K hK => ?_); go_simp; refine hK _ _ ?_; clear hK K) | (apply wpL_s; (intro w2 hw2; have hk1 := hw2.cell; have hk3 := hw2.heap; clear hw2; go_simp; with_reducible rfl); simp only [Act.put, sA, sB, sC]) | (refine wpL_nil ?_))
      refine wpL_e (fun K hK => ?_)
      go_simp
      refine (la_lock (HLX.out.below (by first | exact (Below.refl _ X).drew.drew | exact (Below.refl _ X).drew | exact Below.refl _ X)) i hi _ l (by have h9 := HV.out _ RGX.out; first | exact h9 | (rw [if_neg (by assumption)] at h9; exact h9) | (rw [hn5 rfl] at h9; exact h9)) hl3).mono ?_
      rintro e X9 ⟨v, ve', us', rfl, hb, hla, hx2⟩
      refine hK _ _ ?_
      clear hK K
      have B9 : Hid (Below C.B w X9) := hid (Below.trans (by first | exact HBX.out.drew.drew | exact HBX.out.drew | exact HBX.out) hb)
      have L9 := hid hla
      have X9' := hid hx2
      clear hb hla hx2 y0 y1 y3
      repeat (first | (refine wpL_p (fun K hK => ?_); go_simp; refine hK _ _ ?_; clear hK K) | (apply wpL_s; (intro w2 hw2; have hk1 := hw2.cell; have hk3 := hw2.heap; clear hw2; go_simp; with_reducible rfl); simp only [Act.put, sA, sB, sC]) | (refine wpL_nil ?_))
      go_wp2
      go_ret
      exact ⟨v, ve', us', rfl, B9.out, by first | exact L9.out | (rw [HY1.out]; exact L9.out), by first | exact X9'.out | (rw [HY1.out]; exact X9'.out)⟩
    ·
      refine wp_region_x [1, 1, 1, 0, 2, 0] [0, 1, 2, 3, 4, 5] (by kernel_rfl) (by kernel_rfl) rfl (by kernel_rfl) ?_
      simp only [selX, guardAt, sD, sE, sF, sG]
      repeat (first | (refine wpL_p (fun K hK => ?_); go_simp; refine hK _ _ ?_; clear hK K) | (apply wpL_s; (intro w2 hw2; have hk1 := hw2.cell; have hk3 := hw2.heap; clear hw2; go_simp; with_reducible rfl); simp only [Act.put, sA, sB, sC]) | (refine wpL_nil ?_))
      refine wpL_e (fun K hK => ?_)
      go_simp
      refine (la_lock (HLX.out.below (by first | exact (Below.refl _ X).drew.drew | exact (Below.refl _ X).drew | exact Below.refl _ X)) i hi _ l (by have h9 := HV.out _ RGX.out; first | exact h9 | (rw [if_neg (by assumption)] at h9; exact h9) | (rw [hn5 rfl] at h9; exact h9)) hl3).mono ?_
      rintro e X9 ⟨v, ve', us', rfl, hb, hla, hx2⟩
      refine hK _ _ ?_
      clear hK K
      have B9 : Hid (Below C.B w X9) := hid (Below.trans (by first | exact HBX.out.drew.drew | exact HBX.out.drew | exact HBX.out) hb)
      have L9 := hid hla
      have X9' := hid hx2
      clear hb hla hx2 y0 y1 y3
      repeat (first | (refine wpL_p (fun K hK => ?_); go_simp; refine hK _ _ ?_; clear hK K) | (apply wpL_s; (intro w2 hw2; have hk1 := hw2.cell; have hk3 := hw2.heap; clear hw2; go_simp; with_reducible rfl); simp only [Act.put, sA, sB, sC]) | (refine wpL_nil ?_))
      go_wp2
      go_ret
      exact ⟨v, ve', us', rfl, B9.out, by first | exact L9.out | (rw [HY1.out]; exact L9.out), by first | exact X9'.out | (rw [HY1.out]; exact X9'.out)⟩
  · have q1 : (c.own != 0) = true := by simp [ho]
    have hY := HY0.out
    rw [if_neg ho] at hY
    have HY1 := hid hY
    clear hY HY0
    go_wp2_with fail
    refine (la_mkAbort (H.out.below (by first | exact (Below.refl _ w).drew | exact Below.refl _ w | exact (Below.refl _ w).drew.drew)) i).mono ?_
    rintro e X1 ⟨q1, q2, rfl, b1, hbx⟩
    have b1 : Below w.heap.size w X1 := Below.trans (by first | exact (Below.refl _ w).drew | exact Below.refl _ w | exact (Below.refl _ w).drew.drew) b1
    have HC1 := hid (la_abort1 (H.out.below b1) i hi HT.out HD.out.1 HD.out.2 hl hbx)
    have B1 := hid (b1.mono H.out.size)
    clear b1 hbx y0 y1 y3 yg e1
    go_wp2_with fail
    refine (HC1.out).mono ?_
    rintro e X2 ⟨rfl, hb, ve', us', hla⟩
    have B2 := hid (B1.out.trans hb)
    have L2 := hid hla
    clear hb hla HC1
    go_wp2
    go_ret
    exact ⟨_, ve', us', rfl, B2.out, by rw [HY1.out]; exact L2.out, by rw [HY1.out]; exact rfl⟩
set_option maxRecDepth 100000 in
set_option maxHeartbeats 2000000 in
theorem la_tick1 (h : LaAt w C ve us P M) (i : Nat) (hi : i < P.threads.length) {tm : Int} {r : MB} {s : MI} (hws : M.ws[i]? = some (some (tm, r, s))) (hclk : 0 ≤ M.clk ∧ M.clk ≤ 1000000) {p1 p2 : Nat} (hx : BxM w C i p1 p2) :
    Calls Tryz.prog 175 #[.pointer (some ⟨p1, 0, none⟩), .pointer (some ⟨p2, 0, none⟩)] w (LaNext C P i ({ M with clk := M.clk + 1 }, lookNx (M.clk + 1) s (r.map (·.1))) w) := by
  have hn4 := h.ok.threads.2
  have hw1 : wrap64 (M.clk + 1) = M.clk + 1 := IntWalk.wrap64_in _ (by omega)
  have hw2 : IntKind.i64.wrap (M.clk + 1) = M.clk + 1 := IntWalk.i64_in _ (by omega)
  have d3 := row_cell h.row 3
  have f3 := row_free h.row 3
  have lM := row_lt h.row
  have y0 := row_cell hx.1 0
  have y1 := row_cell hx.2.1 0
  have k0 := row_lt hx.1
  have k1 := row_lt hx.2.1
  have hB := h.size
  have hX := h.tock (M.clk + 1)
  have kx : Kd (fun t => t = 114) w (w.setCell ⟨C.bM, 3, none⟩ (.int .i64 (M.clk + 1))) := Kd.set (T := fun t => t = 114) h.row rfl _
  have hbx := hx.kd kx (by decide) (by decide)
  have bX : Below C.B w (w.setCell ⟨C.bM, 3, none⟩ (.int .i64 (M.clk + 1))) := (Below.refl _ w).setCell (p := ⟨C.bM, 3, none⟩) h.hB _
  have HX := hid hX
  have HBX := hid hbx
  have BX := hid bX
  clear h hx hX kx hbx bX
  go_enter Tryz.func175, Tryz.ntmps175
  go_wp2_with fail
  generalize w.setCell ⟨C.bM, 3, none⟩ (.int .i64 (M.clk + 1)) = X at *
  clear d3 f3 lM y0 y1 k0 k1
  obtain ⟨br, bs, hu, hwo, hgW, w0, w1, w2⟩ := HX.out.woAt hi hws
  have d2 := row_cell HX.out.row 2
  have d3 := row_cell HX.out.row 3
  have lM := row_lt HX.out.row
  have y0 := row_cell HBX.out.1 0
  have y1 := row_cell HBX.out.2.1 0
  have k0 := row_lt HBX.out.1
  have k1 := row_lt HBX.out.2.1
  have hBW : C.B ≤ X.heap.size := HX.out.size
  obtain ⟨br', bs', hu', hbr, hbs, hne, hmr, hms, hcr, hsr, hcs, hss⟩ := id hwo
  simp only [Prod.mk.injEq, Value.map.injEq, Option.some.injEq, true_and] at hu'
  obtain ⟨rfl, rfl⟩ := hu'
  have hr4 := hcr.len hsr
  have HSR := hid hsr
  have HMR := hid hmr
  have HWS := hid hws
  clear hmr hms hcr hsr hcs hss hwo hu hws
  go_wp2_with fail
  refine RN.wp_region_t (X.heap.size) [1, 1, 1, 0, 0, 1, 1, 0, 0, 1, 1, 0, 0, 1, 3, 3, 2, 0] (.fin [0, 1, 2, 3, 4, 5, 6, 7, 8, 9, 10, 11, 12, 13, 14, 15, 16, 17]) (by kernel_rfl) (by kernel_rfl) (by kernel_rfl) (by kernel_rfl) ?_
  simp only [RN.wpT, selX, guardAt, sD, sE, sF, sG]
  repeat (first | (refine RN.wpL_p (fun K hK => ?_); go_simp; refine hK _ _ ?_; clear hK K) | (apply RN.wpL_s; (intro w2 hw2; have hk1 := hw2.cell; have hk3 := hw2.1; clear hw2; go_simp; with_reducible rfl); simp only [Act.put, sA, sB, sC]) | (refine RN.wpL_nil ?_))
  refine RN.wpL_k (fun K hK => ?_)
  go_simp
  refine (keysB (some br) X.drew).mono ?_
  rintro e W1 ⟨rfl, rfl⟩
  refine hK _ _ (RN.KeepsN.alloc _ _ (Nat.le_refl _)) ?_
  clear hK K
  repeat (first | (refine RN.wpL_p (fun K hK => ?_); go_simp; refine hK _ _ ?_; clear hK K) | (apply RN.wpL_s; (intro w2 hw2; have hk1 := hw2.cell; have hk3 := hw2.1; clear hw2; go_simp; with_reducible rfl); simp only [Act.put, sA, sB, sC]) | (refine RN.wpL_nil ?_))
  refine RN.wpL_k (fun K hK => ?_)
  go_simp
  refine (sortedB (w := X.drew) (HMR.out.drew) HSR.out (by omega)).mono ?_
  rintro e W2 ⟨v, rfl, ho, hb2⟩
  have b2 : Below X.heap.size X W2 := ((Below.refl _ X).drew.alloc (Nat.le_refl _) _).trans (hb2.mono (by show X.heap.size ≤ X.heap.size + 1; omega))
  refine hK _ _ (RN.KeepsN.of_below (hb2.mono (by show X.heap.size ≤ X.heap.size + 1; omega))) ?_
  clear hK K
  have L2 := hid (HX.out.below b2)
  have LS := hid (LsAt.ofOwn (C := C) ho (show C.B ≤ X.heap.size + 1 by omega))
  have B2 := hid (BX.out.trans (b2.mono hBW))
  clear ho hb2 b2
  repeat (first | (refine RN.wpL_p (fun K hK => ?_); go_simp; refine hK _ _ ?_; clear hK K) | (apply RN.wpL_s; (intro w2 hw2; have hk1 := hw2.cell; have hk3 := hw2.1; clear hw2; go_simp; with_reducible rfl); simp only [Act.put, sA, sB, sC]) | (refine RN.wpL_nil ?_))
  refine RN.wpL_e (fun K hK => ?_)
  go_simp
  refine (la_look L2.out i hi (M.clk + 1) v _ LS.out (by rw [List.length_map]; exact hr4) (show _ from HWS.out)).mono ?_
  rintro e W3 ⟨v3, ve', us', rfl, hb, hla, hx⟩
  refine hK _ _ ?_
  clear hK K
  have B3 := hid (B2.out.trans hb)
  have L3 := hid hla
  have X3 := hid hx
  clear hb hla hx y0 y1 d2 d3 w0 w1 w2
  repeat (first | (refine RN.wpL_p (fun K hK => ?_); go_simp; refine hK _ _ ?_; clear hK K) | (apply RN.wpL_s; (intro w2 hw2; have hk1 := hw2.cell; have hk3 := hw2.1; clear hw2; go_simp; with_reducible rfl); simp only [Act.put, sA, sB, sC]) | (refine RN.wpL_nil ?_))
  go_wp2
  go_ret
  exact ⟨v3, ve', us', rfl, B3.out, L3.out, X3.out⟩
set_option maxRecDepth 100000 in
set_option maxHeartbeats 4000000 in
theorem la_look1 (h : LaAt w C ve us P M) (i : Nat) (hi : i < P.threads.length) {t : Th} (ht : M.W.ths[i]? = some t) (hd : thDone P i t = false) (hbg : t.begun = true) (hl : M.W.evs.length ≤ 100000) {tm : Int} {r : MB} {s : MI} (hws : M.ws[i]? = some (some (tm, r, s))) (now : Int) (k : Int) (l : List Int) (hl4 : (k :: l).length ≤ 4) (hk : ∀ z ∈ k :: l, 0 ≤ z ∧ z < P.cells.length) {p1 p2 p3 p4 : Nat} (hx : BxM w C i p1 p2) (h3 : LsBx w C p3 (k :: l)) (h4 : IxBx w C p4 now) :
    Calls Tryz.prog 214 #[.pointer (some ⟨p1, 0, none⟩), .pointer (some ⟨p3, 0, none⟩), .pointer (some ⟨p2, 0, none⟩), .pointer (some ⟨p4, 0, none⟩)] w (LaNext C P i (lookStep P M i t tm s now (k :: l)) w) := by
  have hn4 := h.ok.threads.2
  obtain ⟨gC, cc, hce⟩ := h.ceForm
  obtain ⟨hk0, hk1⟩ := hk k (by simp)
  obtain ⟨k, rfl⟩ : ∃ z : Nat, k = z := ⟨k.toNat, by omega⟩
  have hc4 := h.ok.cells.2
  have hkn : k < P.cells.length := by omega
  obtain ⟨lC, c, hc, c0, c1, c2⟩ := h.ceAt hce hkn
  have hat := ceAt_of hc
  obtain ⟨g, off, cap, n, cs, r3, rg, yg, hn3, hn5, hncap, hv'⟩ := h3.open
  have hn2 : (1 : Int) ≤ (n : Int) := by omega
  have hn4' : (0 : Int) < (n : Int) := by omega
  have hl3 : l.length ≤ 4 := by simp only [List.length_cons] at hl4; omega
  have e1 := row_cell h.row 1
  rw [hce] at e1
  have lM := row_lt h.row
  have y0 := row_cell hx.1 0
  have y1 := row_cell hx.2.1 0
  have y3 := row_cell r3 0
  have k0 := row_lt hx.1
  have k1 := row_lt hx.2.1
  have k3 := row_lt r3
  have kg := row_lt rg
  have H := hid h
  have HT := hid ht
  have HC := hid hc
  have HX := hid hx
  have HCE := hid hce
  have R3 := hid r3
  have RG := hid rg
  have HV := hid hv'
  have HD := hid (And.intro hd hbg)
  have R4 := hid h4
  have k4 := row_lt h4.1
  obtain ⟨br, bs, hu, hwo, hgW, w0, w1, w2⟩ := h.woAt hi hws
  have HWS := hid hws
  obtain ⟨Y0, hY0⟩ : ∃ Y0 : LM × Nx, Y0 = lookStep P M i t tm s now ((k : Int) :: l) := ⟨_, rfl⟩
  rw [← hY0]
  simp only [lookStep, hat] at hY0
  have HY0 := hid hY0
  clear h ht hc hx hce h3 hat r3 rg hv' hd hbg hY0 hk hl4 h4 hu hwo hws
  go_enter Tryz.func214, Tryz.ntmps214
  go_wp2_with fail
  refine RN.wp_region_t (w.heap.size) [1, 0, 0, 1, 1, 0, 1, 0, 1, 3, 3] (.fin [0, 1, 2, 3, 4, 5, 6, 7, 8, 9, 10]) (by kernel_rfl) (by kernel_rfl) (by kernel_rfl) (by kernel_rfl) ?_
  simp only [RN.wpT, selX, guardAt, sD, sE, sF, sG]
  repeat (first | (refine RN.wpL_p (fun K hK => ?_); go_simp; refine hK _ _ ?_; clear hK K) | (apply RN.wpL_s; (intro w2 hw2; have hk1 := hw2.cell; have hk3 := hw2.1; clear hw2; go_simp; with_reducible rfl); simp only [Act.put, sA, sB, sC]) | (refine RN.wpL_nil ?_))
  refine RN.wpL_k (fun K hK => ?_)
  go_simp
  refine hK _ _ (RN.KeepsN.alloc _ _ (by first | omega | exact Nat.le_refl _)) ?_
  clear hK K
  refine RN.wpL_k (fun K hK => ?_)
  go_simp
  refine hK _ _ (KeepsN.both (W := w) (RN.KeepsN.alloc _ _ (Nat.le_refl _)) (RN.KeepsN.alloc _ _ (Nat.le_refl _)) (by simp)) ?_
  clear hK K
  repeat (first | (refine RN.wpL_p (fun K hK => ?_); go_simp; refine hK _ _ ?_; clear hK K) | (apply RN.wpL_s; (intro w2 hw2; have hk1 := hw2.cell; have hk3 := hw2.1; clear hw2; go_simp; with_reducible rfl); simp only [Act.put, sA, sB, sC]) | (refine RN.wpL_nil ?_))
  have bX : Below w.heap.size w (w.alloc (.cells #[.int .i64 c.val, .int .i64 c.ver, .int .i64 c.own] 116)).drew := ((Below.refl w.heap.size w).alloc (Nat.le_refl _) _).drew
  have rX : (w.alloc (.cells #[.int .i64 c.val, .int .i64 c.ver, .int .i64 c.own] 116)).drew.heap[w.heap.size]? = some (.cells #[.int .i64 c.val, .int .i64 c.ver, .int .i64 c.own] 116 (0, 0)) := row_new w _
  have zX : (w.alloc (.cells #[.int .i64 c.val, .int .i64 c.ver, .int .i64 c.own] 116)).drew.heap.size = w.heap.size + 1 := by simp
  generalize (w.alloc (.cells #[.int .i64 c.val, .int .i64 c.ver, .int .i64 c.own] 116)).drew = X at *
  have x1 := row_cell rX 1
  have x2 := row_cell rX 2
  have lX := row_lt rX
  have HLX := hid (H.out.below bX)
  have HXX := hid (HX.out.below bX)
  have R3X := hid (row_below R3.out bX k3)
  have RGX := hid (row_below RG.out bX kg)
  have R4X := hid (R4.out.below bX)
  have HBX := hid (bX.mono H.out.size)
  have BW := hid bX
  have w0 := cell_below bX hgW w0
  have lgW : C.gW < X.heap.size := by omega
  clear y0 y1 y3 yg c0 c1 c2 e1 w1 w2 k0 k1 k3 k4 kg lM lC H HX R3 RG R4 bX rX
  have y0 := row_cell HXX.out.1 0
  have y1 := row_cell HXX.out.2.1 0
  have y3 := row_cell R3X.out 0
  have y4 := row_cell R4X.out.1 0
  have k0 := row_lt HXX.out.1
  have k1 := row_lt HXX.out.2.1
  have k3 := row_lt R3X.out
  have k4 := row_lt R4X.out.1
  have e0 := row_cell HLX.out.row 0
  have e2 := row_cell HLX.out.row 2
  have lM := row_lt HLX.out.row
  go_wp2_with fail
  by_cases ho : c.own = 0
  · by_cases hv : tm < c.ver
    ·
      have qa : (c.own != 0) = false := by simp [ho]
      have HO := hid ho
      have qc : decide (c.ver > tm) = true := by simp; omega
      have qd : decide (tm < c.ver) = true := by simp; omega
      have HN := hid hv
      have htk : taken i t tm c = true := by simp [taken, ho, hv]
      have hY := HY0.out
      rw [if_pos htk] at hY
      have HY1 := hid hY
      clear hY HY0 htk ho hv
      refine wp_region_x [0, 1, 0, 0, 0, 1, 1, 0, 0, 1, 1, 3, 0, 0, 0, 0, 1, 1, 0, 0, 1, 1, 0, 0, 1, 0, 0] [0, 1, 2, 3, 4, 5, 6, 7, 8, 9, 10, 11, 12, 13, 14, 15, 16, 17, 18, 19, 20, 21, 22, 23, 24, 25, 26] (by kernel_rfl) (by kernel_rfl) rfl (by kernel_rfl) ?_
      simp only [selX, guardAt, sD, sE, sF, sG, Option.bind_some]
      repeat (first | (refine wpL_p (fun K hK => ?_); go_simp; refine hK _ _ ?_; clear hK K) | (apply wpL_s; (intro w2 hw2; have hk1 := hw2.cell; have hk3 := hw2.heap; clear hw2; go_simp; with_reducible rfl); simp only [Act.put, sA, sB, sC]) | (refine wpL_yes rfl rfl ?_) | (refine wpL_no rfl rfl (fun K hK => ?_); simp only [Act.put, sA, sB, sC]; refine hK _ _ ?_; clear hK K) | (refine wpL_nil ?_))
      go_wp2_with fail
      refine (la_mkAbort (HLX.out.below (by first | exact (Below.refl _ X).drew.drew | exact (Below.refl _ X).drew | exact Below.refl _ X)) i).mono ?_
      rintro e X1 ⟨q1, q2, rfl, b1, hbx⟩
      have b1 : Below X.heap.size X X1 := Below.trans (by first | exact (Below.refl _ X).drew.drew | exact (Below.refl _ X).drew | exact Below.refl _ X) b1
      have HC1 := hid (la_abort1 (HLX.out.below b1) i hi HT.out HD.out.1 HD.out.2 hl hbx)
      have B1 := hid (HBX.out.trans (b1.mono HLX.out.size))
      clear b1 hbx y0 y1 y3 y4 e0 e2 x1 x2 w0
      go_wp2_with fail
      refine (HC1.out).mono ?_
      rintro e X2 ⟨rfl, hb, ve', us', hla⟩
      have B2 := hid (B1.out.trans hb)
      have L2 := hid hla
      clear hb hla HC1
      go_wp2
      go_ret
      exact ⟨_, ve', us', rfl, B2.out, by rw [HY1.out]; exact L2.out, by rw [HY1.out]; exact rfl⟩
    ·
      have qa : (c.own != 0) = false := by simp [ho]
      have HO := hid ho
      have qc : decide (c.ver > tm) = false := by simp; omega
      have qd : decide (tm < c.ver) = false := by simp; omega
      have HN := hid hv
      have htk : taken i t tm c = false := by simp [taken, ho, hv]
      have hY := HY0.out
      rw [if_neg (by rw [htk]; decide)] at hY
      have HY1 := hid hY
      clear hY HY0 htk ho hv
      refine wp_region_x [0, 1, 0, 0, 0, 1, 1, 0, 0, 1, 1, 3, 0, 0, 0, 0, 1, 1, 0, 0, 1, 1, 0, 0, 1, 0, 0] [0, 1, 2, 3, 4, 5, 6, 7, 8, 9, 10, 11, 12, 13, 14, 15, 16, 17, 18, 19, 20, 21, 22, 23, 24, 25, 26] (by kernel_rfl) (by kernel_rfl) rfl (by kernel_rfl) ?_
      simp only [selX, guardAt, sD, sE, sF, sG, Option.bind_some]
      repeat (first | (refine wpL_p (fun K hK => ?_); go_simp; refine hK _ _ ?_; clear hK K) | (apply wpL_s; (intro w2 hw2; have hk1 := hw2.cell; have hk3 := hw2.heap; clear hw2; go_simp; with_reducible rfl); simp only [Act.put, sA, sB, sC]) | (refine wpL_yes rfl rfl ?_) | (refine wpL_no rfl rfl (fun K hK => ?_); simp only [Act.put, sA, sB, sC]; refine hK _ _ ?_; clear hK K) | (refine wpL_nil ?_))
      clear x1 x2 w0 e0 e2
      go_wp2_with fail
      by_cases hc1 : cap = 1
      · subst hc1
        refine wp_region_x [1, 1, 1, 1, 0, 2, 0] [0, 1, 2, 3, 4, 5, 6] (by kernel_rfl) (by kernel_rfl) rfl (by kernel_rfl) ?_
        simp only [selX, guardAt, sD, sE, sF, sG]
        repeat (first | (refine wpL_p (fun K hK => ?_); go_simp; refine hK _ _ ?_; clear hK K) | (apply wpL_s; (intro w2 hw2; have hk1 := hw2.cell; have hk3 := hw2.heap; clear hw2; go_simp; with_reducible rfl); simp only [Act.put, sA, sB, sC]) | (refine wpL_nil ?_))
        refine wpL_e (fun K hK => ?_)
        go_simp
        refine (la_look (HLX.out.below (by first | exact (Below.refl _ X).drew.drew | exact (Below.refl _ X).drew | exact Below.refl _ X)) i hi now _ l (by have h9 := HV.out _ RGX.out; first | exact h9 | (rw [if_neg (by assumption)] at h9; exact h9) | (rw [hn5 rfl] at h9; exact h9)) hl3 HWS.out).mono ?_
        rintro e X9 ⟨v, ve', us', rfl, hb, hla, hx2⟩
        refine hK _ _ ?_
        clear hK K
        have B9 : Hid (Below C.B w X9) := hid (Below.trans (by first | exact HBX.out.drew.drew | exact HBX.out.drew | exact HBX.out) hb)
        have L9 := hid hla
        have X9' := hid hx2
        clear hb hla hx2 y0 y1 y3 y4
        repeat (first | (refine wpL_p (fun K hK => ?_); go_simp; refine hK _ _ ?_; clear hK K) | (apply wpL_s; (intro w2 hw2; have hk1 := hw2.cell; have hk3 := hw2.heap; clear hw2; go_simp; with_reducible rfl); simp only [Act.put, sA, sB, sC]) | (refine wpL_nil ?_))
        go_wp2
        go_ret
        exact ⟨v, ve', us', rfl, B9.out, by first | exact L9.out | (rw [HY1.out]; exact L9.out), by first | exact X9'.out | (rw [HY1.out]; exact X9'.out)⟩
      ·
        refine wp_region_x [1, 1, 1, 1, 0, 2, 0] [0, 1, 2, 3, 4, 5, 6] (by kernel_rfl) (by kernel_rfl) rfl (by kernel_rfl) ?_
        simp only [selX, guardAt, sD, sE, sF, sG]
        repeat (first | (refine wpL_p (fun K hK => ?_); go_simp; refine hK _ _ ?_; clear hK K) | (apply wpL_s; (intro w2 hw2; have hk1 := hw2.cell; have hk3 := hw2.heap; clear hw2; go_simp; with_reducible rfl); simp only [Act.put, sA, sB, sC]) | (refine wpL_nil ?_))
        refine wpL_e (fun K hK => ?_)
        go_simp
        refine (la_look (HLX.out.below (by first | exact (Below.refl _ X).drew.drew | exact (Below.refl _ X).drew | exact Below.refl _ X)) i hi now _ l (by have h9 := HV.out _ RGX.out; first | exact h9 | (rw [if_neg (by assumption)] at h9; exact h9) | (rw [hn5 rfl] at h9; exact h9)) hl3 HWS.out).mono ?_
        rintro e X9 ⟨v, ve', us', rfl, hb, hla, hx2⟩
        refine hK _ _ ?_
        clear hK K
        have B9 : Hid (Below C.B w X9) := hid (Below.trans (by first | exact HBX.out.drew.drew | exact HBX.out.drew | exact HBX.out) hb)
        have L9 := hid hla
        have X9' := hid hx2
        clear hb hla hx2 y0 y1 y3 y4
        repeat (first | (refine wpL_p (fun K hK => ?_); go_simp; refine hK _ _ ?_; clear hK K) | (apply wpL_s; (intro w2 hw2; have hk1 := hw2.cell; have hk3 := hw2.heap; clear hw2; go_simp; with_reducible rfl); simp only [Act.put, sA, sB, sC]) | (refine wpL_nil ?_))
        go_wp2
        go_ret
        exact ⟨v, ve', us', rfl, B9.out, by first | exact L9.out | (rw [HY1.out]; exact L9.out), by first | exact X9'.out | (rw [HY1.out]; exact X9'.out)⟩
  · by_cases hs : c.own = idOf i t.tx
    · by_cases hv : tm < c.ver
      ·
        have qa : (c.own != 0) = true := by simp [ho]
        have HO := hid ho
        have qb : (c.own != idOf i t.tx) = false := by simp [hs]
        have HS := hid hs
        have qc : decide (c.ver > tm) = true := by simp; omega
        have qd : decide (tm < c.ver) = true := by simp; omega
        have HN := hid hv
        have htk : taken i t tm c = true := by simp [taken, ho, hs, hv]
        have hY := HY0.out
        rw [if_pos htk] at hY
        have HY1 := hid hY
        clear hY HY0 htk ho hs hv
        refine wp_region_x [0, 1, 0, 0, 0, 1, 1, 0, 0, 1, 1, 3, 0, 0, 0, 0, 1, 1, 0, 0, 1, 1, 0, 0, 1, 0, 0] [0, 1, 2, 3, 4, 5, 6, 7, 8, 9, 10, 11, 12, 13, 14, 15, 16, 17, 18, 19, 20, 21, 22, 23, 24, 25, 26] (by kernel_rfl) (by kernel_rfl) rfl (by kernel_rfl) ?_
        simp only [selX, guardAt, sD, sE, sF, sG, Option.bind_some]
        repeat (first | (refine wpL_p (fun K hK => ?_); go_simp; refine hK _ _ ?_; clear hK K) | (apply wpL_s; (intro w2 hw2; have hk1 := hw2.cell; have hk3 := hw2.heap; clear hw2; go_simp; with_reducible rfl); simp only [Act.put, sA, sB, sC]) | (refine wpL_yes rfl rfl ?_) | (refine wpL_no rfl rfl (fun K hK => ?_); simp only [Act.put, sA, sB, sC]; refine hK _ _ ?_; clear hK K) | (refine wpL_nil ?_))
        refine wpL_k (fun K hK => ?_)
        go_simp
        refine (la_tx (HLX.out.below (Below.refl _ X).drew) i hi HT.out HD.out.1 HD.out.2).mono ?_
        rintro e X0 ⟨rfl, b1⟩
        refine hK _ _ (Keeps.of_below b1) ?_
        clear hK K
        have b1 : Below X.heap.size X X0 := (Below.refl _ X).drew.trans b1
        have w0 := cell_below b1 lgW w0
        have e2 := cell_below b1 lM e2
        have e0 := cell_below b1 lM e0
        have x1 := cell_below b1 lX x1
        have x2 := cell_below b1 lX x2
        have y0 := cell_below b1 k0 y0
        have y1 := cell_below b1 k1 y1
        have y3 := cell_below b1 k3 y3
        have y4 := cell_below b1 k4 y4
        have z1 := b1.size
        have lgW : C.gW < X0.heap.size := by omega
        have lM : C.bM < X0.heap.size := by omega
        have lX : w.heap.size < X0.heap.size := by omega
        have HBX := hid (HBX.out.trans (b1.mono HLX.out.size))
        have HXX := hid (HXX.out.below b1)
        have R3X := hid (row_below R3X.out b1 k3)
        have RGX := hid (row_below RGX.out b1 (row_lt RGX.out))
        have R4X := hid (R4X.out.below b1)
        have HLX := hid (HLX.out.below b1)
        have k0 := row_lt HXX.out.1
        have k1 := row_lt HXX.out.2.1
        have k3 := row_lt R3X.out
        have k4 := row_lt R4X.out.1
        obtain ⟨X, rfl⟩ : ∃ Z, Z = X0 := ⟨_, rfl⟩
        clear b1 z1
        repeat (first | (refine wpL_p (fun K hK => ?_); go_simp; refine hK _ _ ?_; clear hK K) | (apply wpL_s; (intro w2 hw2; have hk1 := hw2.cell; have hk3 := hw2.heap; clear hw2; go_simp; with_reducible rfl); simp only [Act.put, sA, sB, sC]) | (refine wpL_yes rfl rfl ?_) | (refine wpL_no rfl rfl (fun K hK => ?_); simp only [Act.put, sA, sB, sC]; refine hK _ _ ?_; clear hK K) | (refine wpL_nil ?_))
        go_wp2_with fail
        refine (la_mkAbort (HLX.out.below (by first | exact (Below.refl _ X).drew.drew | exact (Below.refl _ X).drew | exact Below.refl _ X)) i).mono ?_
        rintro e X1 ⟨q1, q2, rfl, b1, hbx⟩
        have b1 : Below X.heap.size X X1 := Below.trans (by first | exact (Below.refl _ X).drew.drew | exact (Below.refl _ X).drew | exact Below.refl _ X) b1
        have HC1 := hid (la_abort1 (HLX.out.below b1) i hi HT.out HD.out.1 HD.out.2 hl hbx)
        have B1 := hid (HBX.out.trans (b1.mono HLX.out.size))
        clear b1 hbx y0 y1 y3 y4 e0 e2 x1 x2 w0
        go_wp2_with fail
        refine (HC1.out).mono ?_
        rintro e X2 ⟨rfl, hb, ve', us', hla⟩
        have B2 := hid (B1.out.trans hb)
        have L2 := hid hla
        clear hb hla HC1
        go_wp2
        go_ret
        exact ⟨_, ve', us', rfl, B2.out, by rw [HY1.out]; exact L2.out, by rw [HY1.out]; exact rfl⟩
      ·
        have qa : (c.own != 0) = true := by simp [ho]
        have HO := hid ho
        have qb : (c.own != idOf i t.tx) = false := by simp [hs]
        have HS := hid hs
        have qc : decide (c.ver > tm) = false := by simp; omega
        have qd : decide (tm < c.ver) = false := by simp; omega
        have HN := hid hv
        have htk : taken i t tm c = false := by simp [taken, ho, hs, hv]
        have hY := HY0.out
        rw [if_neg (by rw [htk]; decide)] at hY
        have HY1 := hid hY
        clear hY HY0 htk ho hs hv
        refine wp_region_x [0, 1, 0, 0, 0, 1, 1, 0, 0, 1, 1, 3, 0, 0, 0, 0, 1, 1, 0, 0, 1, 1, 0, 0, 1, 0, 0] [0, 1, 2, 3, 4, 5, 6, 7, 8, 9, 10, 11, 12, 13, 14, 15, 16, 17, 18, 19, 20, 21, 22, 23, 24, 25, 26] (by kernel_rfl) (by kernel_rfl) rfl (by kernel_rfl) ?_
        simp only [selX, guardAt, sD, sE, sF, sG, Option.bind_some]
        repeat (first | (refine wpL_p (fun K hK => ?_); go_simp; refine hK _ _ ?_; clear hK K) | (apply wpL_s; (intro w2 hw2; have hk1 := hw2.cell; have hk3 := hw2.heap; clear hw2; go_simp; with_reducible rfl); simp only [Act.put, sA, sB, sC]) | (refine wpL_yes rfl rfl ?_) | (refine wpL_no rfl rfl (fun K hK => ?_); simp only [Act.put, sA, sB, sC]; refine hK _ _ ?_; clear hK K) | (refine wpL_nil ?_))
        refine wpL_k (fun K hK => ?_)
        go_simp
        refine (la_tx (HLX.out.below (Below.refl _ X).drew) i hi HT.out HD.out.1 HD.out.2).mono ?_
        rintro e X0 ⟨rfl, b1⟩
        refine hK _ _ (Keeps.of_below b1) ?_
        clear hK K
        have b1 : Below X.heap.size X X0 := (Below.refl _ X).drew.trans b1
        have w0 := cell_below b1 lgW w0
        have e2 := cell_below b1 lM e2
        have e0 := cell_below b1 lM e0
        have x1 := cell_below b1 lX x1
        have x2 := cell_below b1 lX x2
        have y0 := cell_below b1 k0 y0
        have y1 := cell_below b1 k1 y1
        have y3 := cell_below b1 k3 y3
        have y4 := cell_below b1 k4 y4
        have z1 := b1.size
        have lgW : C.gW < X0.heap.size := by omega
        have lM : C.bM < X0.heap.size := by omega
        have lX : w.heap.size < X0.heap.size := by omega
        have HBX := hid (HBX.out.trans (b1.mono HLX.out.size))
        have HXX := hid (HXX.out.below b1)
        have R3X := hid (row_below R3X.out b1 k3)
        have RGX := hid (row_below RGX.out b1 (row_lt RGX.out))
        have R4X := hid (R4X.out.below b1)
        have HLX := hid (HLX.out.below b1)
        have k0 := row_lt HXX.out.1
        have k1 := row_lt HXX.out.2.1
        have k3 := row_lt R3X.out
        have k4 := row_lt R4X.out.1
        obtain ⟨X, rfl⟩ : ∃ Z, Z = X0 := ⟨_, rfl⟩
        clear b1 z1
        repeat (first | (refine wpL_p (fun K hK => ?_); go_simp; refine hK _ _ ?_; clear hK K) | (apply wpL_s; (intro w2 hw2; have hk1 := hw2.cell; have hk3 := hw2.heap; clear hw2; go_simp; with_reducible rfl); simp only [Act.put, sA, sB, sC]) | (refine wpL_yes rfl rfl ?_) | (refine wpL_no rfl rfl (fun K hK => ?_); simp only [Act.put, sA, sB, sC]; refine hK _ _ ?_; clear hK K) | (refine wpL_nil ?_))
        clear x1 x2 w0 e0 e2
        go_wp2_with fail
        by_cases hc1 : cap = 1
        · subst hc1
          refine wp_region_x [1, 1, 1, 1, 0, 2, 0] [0, 1, 2, 3, 4, 5, 6] (by kernel_rfl) (by kernel_rfl) rfl (by kernel_rfl) ?_
          simp only [selX, guardAt, sD, sE, sF, sG]
          repeat (first | (refine wpL_p (fun K hK => ?_); go_simp; refine hK _ _ ?_; clear hK K) | (apply wpL_s; (intro w2 hw2; have hk1 := hw2.cell; have hk3 := hw2.heap; clear hw2; go_simp; with_reducible rfl); simp only [Act.put, sA, sB, sC]) | (refine wpL_nil ?_))
          refine wpL_e (fun K hK => ?_)
          go_simp
          refine (la_look (HLX.out.below (by first | exact (Below.refl _ X).drew.drew | exact (Below.refl _ X).drew | exact Below.refl _ X)) i hi now _ l (by have h9 := HV.out _ RGX.out; first | exact h9 | (rw [if_neg (by assumption)] at h9; exact h9) | (rw [hn5 rfl] at h9; exact h9)) hl3 HWS.out).mono ?_
          rintro e X9 ⟨v, ve', us', rfl, hb, hla, hx2⟩
          refine hK _ _ ?_
          clear hK K
          have B9 : Hid (Below C.B w X9) := hid (Below.trans (by first | exact HBX.out.drew.drew | exact HBX.out.drew | exact HBX.out) hb)
          have L9 := hid hla
          have X9' := hid hx2
          clear hb hla hx2 y0 y1 y3 y4
          repeat (first | (refine wpL_p (fun K hK => ?_); go_simp; refine hK _ _ ?_; clear hK K) | (apply wpL_s; (intro w2 hw2; have hk1 := hw2.cell; have hk3 := hw2.heap; clear hw2; go_simp; with_reducible rfl); simp only [Act.put, sA, sB, sC]) | (refine wpL_nil ?_))
          go_wp2
          go_ret
          exact ⟨v, ve', us', rfl, B9.out, by first | exact L9.out | (rw [HY1.out]; exact L9.out), by first | exact X9'.out | (rw [HY1.out]; exact X9'.out)⟩
        ·
          refine wp_region_x [1, 1, 1, 1, 0, 2, 0] [0, 1, 2, 3, 4, 5, 6] (by kernel_rfl) (by kernel_rfl) rfl (by kernel_rfl) ?_
          simp only [selX, guardAt, sD, sE, sF, sG]
          repeat (first | (refine wpL_p (fun K hK => ?_); go_simp; refine hK _ _ ?_; clear hK K) | (apply wpL_s; (intro w2 hw2; have hk1 := hw2.cell; have hk3 := hw2.heap; clear hw2; go_simp; with_reducible rfl); simp only [Act.put, sA, sB, sC]) | (refine wpL_nil ?_))
          refine wpL_e (fun K hK => ?_)
          go_simp
          refine (la_look (HLX.out.below (by first | exact (Below.refl _ X).drew.drew | exact (Below.refl _ X).drew | exact Below.refl _ X)) i hi now _ l (by have h9 := HV.out _ RGX.out; first | exact h9 | (rw [if_neg (by assumption)] at h9; exact h9) | (rw [hn5 rfl] at h9; exact h9)) hl3 HWS.out).mono ?_
          rintro e X9 ⟨v, ve', us', rfl, hb, hla, hx2⟩
          refine hK _ _ ?_
          clear hK K
          have B9 : Hid (Below C.B w X9) := hid (Below.trans (by first | exact HBX.out.drew.drew | exact HBX.out.drew | exact HBX.out) hb)
          have L9 := hid hla
          have X9' := hid hx2
          clear hb hla hx2 y0 y1 y3 y4
          repeat (first | (refine wpL_p (fun K hK => ?_); go_simp; refine hK _ _ ?_; clear hK K) | (apply wpL_s; (intro w2 hw2; have hk1 := hw2.cell; have hk3 := hw2.heap; clear hw2; go_simp; with_reducible rfl); simp only [Act.put, sA, sB, sC]) | (refine wpL_nil ?_))
          go_wp2
          go_ret
          exact ⟨v, ve', us', rfl, B9.out, by first | exact L9.out | (rw [HY1.out]; exact L9.out), by first | exact X9'.out | (rw [HY1.out]; exact X9'.out)⟩
    ·
      have qa : (c.own != 0) = true := by simp [ho]
      have HO := hid ho
      have qb : (c.own != idOf i t.tx) = true := by simp [hs]
      have HS := hid hs
      have htk : taken i t tm c = true := by simp [taken, ho, hs]
      have hY := HY0.out
      rw [if_pos htk] at hY
      have HY1 := hid hY
      clear hY HY0 htk ho hs
      refine wp_region_x [0, 1, 0, 0, 0, 1, 1, 0, 0, 1, 1, 3, 0, 0, 0, 0, 1, 1, 0, 0, 1, 1, 0, 0, 1, 0, 0] [0, 1, 2, 3, 4, 5, 6, 7, 8, 9, 10, 11, 12, 13, 14, 15, 16, 17, 18, 19, 20, 21, 22, 23, 24, 25, 26] (by kernel_rfl) (by kernel_rfl) rfl (by kernel_rfl) ?_
      simp only [selX, guardAt, sD, sE, sF, sG, Option.bind_some]
      repeat (first | (refine wpL_p (fun K hK => ?_); go_simp; refine hK _ _ ?_; clear hK K) | (apply wpL_s; (intro w2 hw2; have hk1 := hw2.cell; have hk3 := hw2.heap; clear hw2; go_simp; with_reducible rfl); simp only [Act.put, sA, sB, sC]) | (refine wpL_yes rfl rfl ?_) | (refine wpL_no rfl rfl (fun K hK => ?_); simp only [Act.put, sA, sB, sC]; refine hK _ _ ?_; clear hK K) | (refine wpL_nil ?_))
      refine wpL_k (fun K hK => ?_)
      go_simp
      refine (la_tx (HLX.out.below (Below.refl _ X).drew) i hi HT.out HD.out.1 HD.out.2).mono ?_
      rintro e X0 ⟨rfl, b1⟩
      refine hK _ _ (Keeps.of_below b1) ?_
      clear hK K
      have b1 : Below X.heap.size X X0 := (Below.refl _ X).drew.trans b1
      have w0 := cell_below b1 lgW w0
      have e2 := cell_below b1 lM e2
      have e0 := cell_below b1 lM e0
      have x1 := cell_below b1 lX x1
      have x2 := cell_below b1 lX x2
      have y0 := cell_below b1 k0 y0
      have y1 := cell_below b1 k1 y1
      have y3 := cell_below b1 k3 y3
      have y4 := cell_below b1 k4 y4
      have z1 := b1.size
      have lgW : C.gW < X0.heap.size := by omega
      have lM : C.bM < X0.heap.size := by omega
      have lX : w.heap.size < X0.heap.size := by omega
      have HBX := hid (HBX.out.trans (b1.mono HLX.out.size))
      have HXX := hid (HXX.out.below b1)
      have R3X := hid (row_below R3X.out b1 k3)
      have RGX := hid (row_below RGX.out b1 (row_lt RGX.out))
      have R4X := hid (R4X.out.below b1)
      have HLX := hid (HLX.out.below b1)
      have k0 := row_lt HXX.out.1
      have k1 := row_lt HXX.out.2.1
      have k3 := row_lt R3X.out
      have k4 := row_lt R4X.out.1
      obtain ⟨X, rfl⟩ : ∃ Z, Z = X0 := ⟨_, rfl⟩
      clear b1 z1
      repeat (first | (refine wpL_p (fun K hK => ?_); go_simp; refine hK _ _ ?_; clear hK K) | (apply wpL_s; (intro w2 hw2; have hk1 := hw2.cell; have hk3 := hw2.heap; clear hw2; go_simp; with_reducible rfl); simp only [Act.put, sA, sB, sC]) | (refine wpL_yes rfl rfl ?_) | (refine wpL_no rfl rfl (fun K hK => ?_); simp only [Act.put, sA, sB, sC]; refine hK _ _ ?_; clear hK K) | (refine wpL_nil ?_))
      go_wp2_with fail
      refine (la_mkAbort (HLX.out.below (by first | exact (Below.refl _ X).drew.drew | exact (Below.refl _ X).drew | exact Below.refl _ X)) i).mono ?_
      rintro e X1 ⟨q1, q2, rfl, b1, hbx⟩
      have b1 : Below X.heap.size X X1 := Below.trans (by first | exact (Below.refl _ X).drew.drew | exact (Below.refl _ X).drew | exact Below.refl _ X) b1
      have HC1 := hid (la_abort1 (HLX.out.below b1) i hi HT.out HD.out.1 HD.out.2 hl hbx)
      have B1 := hid (HBX.out.trans (b1.mono HLX.out.size))
      clear b1 hbx y0 y1 y3 y4 e0 e2 x1 x2 w0
      go_wp2_with fail
      refine (HC1.out).mono ?_
      rintro e X2 ⟨rfl, hb, ve', us', hla⟩
      have B2 := hid (B1.out.trans hb)
      have L2 := hid hla
      clear hb hla HC1
      go_wp2
      go_ret
      exact ⟨_, ve', us', rfl, B2.out, by rw [HY1.out]; exact L2.out, by rw [HY1.out]; exact rfl⟩
set_option maxRecDepth 100000 in
set_option maxHeartbeats 4000000 in
theorem la_write1 (h : LaAt w C ve us P M) (i : Nat) (hi : i < P.threads.length) {tm : Int} {r : MB} {s : MI} (hws : M.ws[i]? = some (some (tm, r, s))) (now : Int) (k : Int) (l : List Int) (hl4 : (k :: l).length ≤ 4) (hk : ∀ z ∈ k :: l, 0 ≤ z ∧ z < P.cells.length) {p1 p2 p3 p4 : Nat} (hx : BxM w C i p1 p2) (h3 : LsBx w C p3 (k :: l)) (h4 : IxBx w C p4 now) :
    Calls Tryz.prog 236 #[.pointer (some ⟨p1, 0, none⟩), .pointer (some ⟨p2, 0, none⟩), .pointer (some ⟨p3, 0, none⟩), .pointer (some ⟨p4, 0, none⟩)] w (LaNext C P i (writeStep M s now (k :: l)) w) := by
  have hn4 := h.ok.threads.2
  obtain ⟨gC, cc, hce⟩ := h.ceForm
  obtain ⟨hk0, hk1⟩ := hk k (by simp)
  obtain ⟨k, rfl⟩ : ∃ z : Nat, k = z := ⟨k.toNat, by omega⟩
  have hc4 := h.ok.cells.2
  have hkn : k < P.cells.length := by omega
  obtain ⟨lC, c, hc, c0, c1, c2⟩ := h.ceAt hce hkn
  have hat := ceAt_of hc
  obtain ⟨g, off, cap, n, cs, r3, rg, yg, hn3, hn5, hncap, hv'⟩ := h3.open
  have hn2 : (1 : Int) ≤ (n : Int) := by omega
  have hn4' : (0 : Int) < (n : Int) := by omega
  have hl3 : l.length ≤ 4 := by simp only [List.length_cons] at hl4; omega
  have e1 := row_cell h.row 1
  rw [hce] at e1
  have lM := row_lt h.row
  have y0 := row_cell hx.1 0
  have y1 := row_cell hx.2.1 0
  have y3 := row_cell r3 0
  have k0 := row_lt hx.1
  have k1 := row_lt hx.2.1
  have k3 := row_lt r3
  have kg := row_lt rg
  have H := hid h
  have HC := hid hc
  have HX := hid hx
  have HCE := hid hce
  have R3 := hid r3
  have RG := hid rg
  have HV := hid hv'
  have R4 := hid h4
  have y4 := row_cell h4.1 0
  have k4 := row_lt h4.1
  have e2 := row_cell h.row 2
  have hkd : dI (k : Int) := dI_small (by omega) (by omega)
  obtain ⟨br, bs, hu, hwo, hgW, w0, w1, w2⟩ := h.woAt hi hws
  obtain ⟨br', bs', hu', hbr, hbs, hne, hmr, hms, hcr, hsr, hcs, hss⟩ := id hwo
  simp only [Prod.mk.injEq, Value.map.injEq, Option.some.injEq, true_and] at hu'
  obtain ⟨rfl, rfl⟩ := hu'
  have lk : ∀ X : World, X.heap[bs]? = w.heap[bs]? → (Instr.lookup 160 (.map (some bs)) (.int .i64 (k : Int)) false).run Tryz.prog X = .ok (.int .i64 ((fnd (k : Int) s).getD 0)) X := fun X hX => lookI (hms.obj hX) hcs.dom hkd
  have lbs := hms.lt
  obtain ⟨wv, hwv⟩ : ∃ x : Int, x = (fnd (k : Int) s).getD 0 := ⟨_, rfl⟩
  rw [← hwv] at lk
  have hst : writeStep M s now ((k : Int) :: l) = ({ M with cs := M.cs.set k ⟨wv, now, 0⟩ }, writeNx now l) := by simp [writeStep, hwv]
  rw [hst]
  obtain ⟨csr, hrC⟩ := h.ceRow hce
  have ff0 := row_free hrC (k * 3)
  have ff1 := row_free hrC (k * 3 + 1)
  have ff2 := row_free hrC (k * 3 + 2)
  obtain ⟨L1, hBC, kd1, -, -⟩ := h.ceSet hce (k := k) (j := 0) (c := c) (u := ⟨wv, c.ver, c.own⟩) (a := .int .i64 wv) hc (by decide) rfl
  obtain ⟨L2, -, kd2, -, -⟩ := L1.ceSet hce (k := k) (j := 1) (c := ⟨wv, c.ver, c.own⟩) (u := ⟨wv, now, c.own⟩) (a := .int .i64 now) (by show (M.cs.set k _)[k]? = _; rw [List.getElem?_set_self (List.getElem?_eq_some_iff.1 hc).1]) (by decide) rfl
  obtain ⟨L3, -, kd3, -, -⟩ := L2.ceSet hce (k := k) (j := 2) (c := ⟨wv, now, c.own⟩) (u := ⟨wv, now, 0⟩) (a := .int .i64 0) (by show ((M.cs.set k _).set k _)[k]? = _; rw [List.set_set, List.getElem?_set_self (List.getElem?_eq_some_iff.1 hc).1]) (by decide) rfl
  have kd4 := (kd1.trans kd2).trans kd3
  simp only [Nat.add_zero] at L3 kd4
  have L3 : LaAt (((w.setCell ⟨gC, k * 3, none⟩ (.int .i64 wv)).setCell ⟨gC, k * 3 + 1, none⟩ (.int .i64 now)).setCell ⟨gC, k * 3 + 2, none⟩ (.int .i64 0)) C ve us P { M with cs := M.cs.set k ⟨wv, now, 0⟩ } := by
    have := L3
    simp only [List.set_set] at this
    exact this
  have bx4 := hx.kd kd4 (by decide) (by decide)
  have b4 : Below C.B w (((w.setCell ⟨gC, k * 3, none⟩ (.int .i64 wv)).setCell ⟨gC, k * 3 + 1, none⟩ (.int .i64 now)).setCell ⟨gC, k * 3 + 2, none⟩ (.int .i64 0)) := (((Below.refl _ w).setCell (p := ⟨gC, k * 3, none⟩) hBC _).setCell (p := ⟨gC, k * 3 + 1, none⟩) hBC _).setCell (p := ⟨gC, k * 3 + 2, none⟩) hBC _
  have r34 := kd4 _ _ _ _ r3 (by decide)
  have rg4 := kd4 _ _ _ _ rg (by decide)
  have h44 : IxBx _ C p4 now := ⟨kd4 _ _ _ _ h4.1 (by decide), h4.2⟩
  have HLX := hid L3
  have HXX := hid bx4
  have HBX := hid b4
  have R3X := hid r34
  have RGX := hid rg4
  have R4X := hid h44
  clear h hc hx hce h3 hat r3 rg hv' hk hl4 h4 hu hwo hws hmr hms hcr hsr hcs hss hst L1 L2 L3 kd1 kd2 kd3 kd4 bx4 b4 r34 rg4 h44 hrC hwv
  go_enter Tryz.func236, Tryz.ntmps236
  go_wp2_with fail
  refine wp_region_x [1, 0, 0, 1, 1, 0, 1, 1, 0, 0, 1, 1, 0, 0, 1, 1, 0, 1, 1, 1, 0, 0, 2] [0, 1, 2, 3, 4, 5, 6, 7, 8, 9, 10, 11, 12, 13, 14, 15, 16, 17, 18, 19, 20, 21, 22] (by kernel_rfl) (by kernel_rfl) rfl (by kernel_rfl) ?_
  simp only [selX, guardAt, sD, sE, sF, sG]
  repeat (first | (refine wpL_p (fun K hK => ?_); go_simp; refine hK _ _ ?_; clear hK K) | (apply wpL_s; (intro w2 hw2; have hk1 := hw2.cell; have hk3 := hw2.heap; clear hw2; go_simp; with_reducible rfl); simp only [Act.put, sA, sB, sC]) | (refine wpL_nil ?_))
  refine wpL_r (fun K hK => ?_)
  refine ⟨.int .i64 wv, fun w2 hw2 => ?_, ?_⟩
  · have lk2 := lk w2 (hw2.heap bs (show w.heap[bs]?.isSome = true by rw [Array.getElem?_eq_getElem lbs]; rfl))
    clear lk
    go_simp
    try trace_state
    try with_reducible rfl
  refine hK _ _ ?_
  clear hK K
  simp only [Act.put, sA, sB, sC]
  repeat (first | (refine wpL_p (fun K hK => ?_); go_simp; refine hK _ _ ?_; clear hK K) | (apply wpL_s; (intro w2 hw2; have hk1 := hw2.cell; have hk3 := hw2.heap; clear hw2; go_simp; with_reducible rfl); simp only [Act.put, sA, sB, sC]) | (refine wpL_nil ?_))
  refine wpL_e (fun K hK => ?_)
  go_simp
  refine hK _ _ ?_
  clear hK K
  repeat (first | (refine wpL_p (fun K hK => ?_); go_simp; refine hK _ _ ?_; clear hK K) | (apply wpL_s; (intro w2 hw2; have hk1 := hw2.cell; have hk3 := hw2.heap; clear hw2; go_simp; with_reducible rfl); simp only [Act.put, sA, sB, sC]) | (refine wpL_nil ?_))
  generalize ((w.setCell ⟨gC, k * 3, none⟩ (.int .i64 wv)).setCell ⟨gC, k * 3 + 1, none⟩ (.int .i64 now)).setCell ⟨gC, k * 3 + 2, none⟩ (.int .i64 0) = X at *
  clear y0 y1 y3 y4 yg c0 c1 c2 e1 e2 ff0 ff1 ff2 w0 w1 w2 lk H HX R3 RG R4
  have y0 := row_cell HXX.out.1 0
  have y1 := row_cell HXX.out.2.1 0
  have y3 := row_cell R3X.out 0
  have y4 := row_cell R4X.out.1 0
  have k0 := row_lt HXX.out.1
  have k1 := row_lt HXX.out.2.1
  have k3 := row_lt R3X.out
  have k4 := row_lt R4X.out.1
  go_wp2_with fail
  by_cases hc1 : cap = 1
  · subst hc1
    refine wp_region_x [1, 1, 1, 1, 0, 2, 0] [0, 1, 2, 3, 4, 5, 6] (by kernel_rfl) (by kernel_rfl) rfl (by kernel_rfl) ?_
    simp only [selX, guardAt, sD, sE, sF, sG]
    repeat (first | (refine wpL_p (fun K hK => ?_); go_simp; refine hK _ _ ?_; clear hK K) | (apply wpL_s; (intro w2 hw2; have hk1 := hw2.cell; have hk3 := hw2.heap; clear hw2; go_simp; with_reducible rfl); simp only [Act.put, sA, sB, sC]) | (refine wpL_nil ?_))
    refine wpL_e (fun K hK => ?_)
    go_simp
    refine (la_write (HLX.out.below (by first | exact (Below.refl _ X).drew.drew | exact (Below.refl _ X).drew | exact Below.refl _ X)) i hi now _ l (by have h9 := HV.out _ RGX.out; first | exact h9 | (rw [if_neg (by assumption)] at h9; exact h9) | (rw [hn5 rfl] at h9; exact h9)) hl3).mono ?_
    rintro e X9 ⟨v, ve', us', rfl, hb, hla, hx2⟩
    refine hK _ _ ?_
    clear hK K
    have B9 : Hid (Below C.B w X9) := hid (Below.trans (by first | exact HBX.out.drew.drew | exact HBX.out.drew | exact HBX.out) hb)
    have L9 := hid hla
    have X9' := hid hx2
    clear hb hla hx2 y0 y1 y3 y4
    repeat (first | (refine wpL_p (fun K hK => ?_); go_simp; refine hK _ _ ?_; clear hK K) | (apply wpL_s; (intro w2 hw2; have hk1 := hw2.cell; have hk3 := hw2.heap; clear hw2; go_simp; with_reducible rfl); simp only [Act.put, sA, sB, sC]) | (refine wpL_nil ?_))
    go_wp2
    go_ret
    exact ⟨v, ve', us', rfl, B9.out, by first | exact L9.out | (rw [HY1.out]; exact L9.out), by first | exact X9'.out | (rw [HY1.out]; exact X9'.out)⟩
  ·
    refine wp_region_x [1, 1, 1, 1, 0, 2, 0] [0, 1, 2, 3, 4, 5, 6] (by kernel_rfl) (by kernel_rfl) rfl (by kernel_rfl) ?_
    simp only [selX, guardAt, sD, sE, sF, sG]
    repeat (first | (refine wpL_p (fun K hK => ?_); go_simp; refine hK _ _ ?_; clear hK K) | (apply wpL_s; (intro w2 hw2; have hk1 := hw2.cell; have hk3 := hw2.heap; clear hw2; go_simp; with_reducible rfl); simp only [Act.put, sA, sB, sC]) | (refine wpL_nil ?_))
    refine wpL_e (fun K hK => ?_)
    go_simp
    refine (la_write (HLX.out.below (by first | exact (Below.refl _ X).drew.drew | exact (Below.refl _ X).drew | exact Below.refl _ X)) i hi now _ l (by have h9 := HV.out _ RGX.out; first | exact h9 | (rw [if_neg (by assumption)] at h9; exact h9) | (rw [hn5 rfl] at h9; exact h9)) hl3).mono ?_
    rintro e X9 ⟨v, ve', us', rfl, hb, hla, hx2⟩
    refine hK _ _ ?_
    clear hK K
    have B9 : Hid (Below C.B w X9) := hid (Below.trans (by first | exact HBX.out.drew.drew | exact HBX.out.drew | exact HBX.out) hb)
    have L9 := hid hla
    have X9' := hid hx2
    clear hb hla hx2 y0 y1 y3 y4
    repeat (first | (refine wpL_p (fun K hK => ?_); go_simp; refine hK _ _ ?_; clear hK K) | (apply wpL_s; (intro w2 hw2; have hk1 := hw2.cell; have hk3 := hw2.heap; clear hw2; go_simp; with_reducible rfl); simp only [Act.put, sA, sB, sC]) | (refine wpL_nil ?_))
    go_wp2
    go_ret
    exact ⟨v, ve', us', rfl, B9.out, by first | exact L9.out | (rw [HY1.out]; exact L9.out), by first | exact X9'.out | (rw [HY1.out]; exact X9'.out)⟩
end
end Go.Proofs.YtogphaiomlfofaaGreatDoor
