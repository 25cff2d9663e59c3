/- The engine clock: what comes behind an event of a thread's own. Printed by wip/tools/gencke.py. Conditions: those of each theorem, as typed. -/
import Derived.Test.YtogphaiomlfofaaGreatDoorCkPM
set_option linter.unusedVariables false
set_option linter.unusedSimpArgs false
namespace Go.Proofs.YtogphaiomlfofaaGreatDoor
open Go.RowKit Go.Maps
set_option linter.unusedVariables false
set_option linter.unusedSimpArgs false
attribute [local irreducible] wpL

section
variable {w w' : World} {C : LC} {ve : Value} {P : Pg} {M : LM} {us : List WkV}
set_option maxRecDepth 100000 in
set_option maxHeartbeats 2000000 in
theorem la_react1 (h : LaAt w C ve us P M) (i : Nat) (hi : i < P.threads.length) (ex eh ej eo ey ev er : Int) :
    Calls Tryz.prog 64 #[.pointer (some ⟨C.bM, 0, none⟩), .int .i64 i, evV ⟨1, ex, eh, ej, eo, ey, ev, er⟩] w (LaNext C P i ({ M with ws := M.ws.set i (some (M.clk, [], [])) }, .none) w) := by
  have hn4 := h.ok.threads.2
  have bA : Below w.heap.size w (((w.alloc (.cells #[.pointer (some ⟨C.bM, 0, none⟩)] 62)).alloc (.cells #[.int .i64 i] 3)).alloc (.cells #[.int .i64 1, .int .i64 ex, .int .i64 eh, .int .i64 ej, .int .i64 eo, .int .i64 ey, .int .i64 ev, .int .i64 er] 46)) := (((Below.refl w.heap.size w).alloc (Nat.le_refl _) _).alloc (by simp) _).alloc (by simp; omega) _
  have rA := row_old (o := .cells #[.int .i64 1, .int .i64 ex, .int .i64 eh, .int .i64 ej, .int .i64 eo, .int .i64 ey, .int .i64 ev, .int .i64 er] 46) (row_old (o := .cells #[.int .i64 i] 3) (row_new w (.cells #[.pointer (some ⟨C.bM, 0, none⟩)] 62)))
  have rB := row_old (o := .cells #[.int .i64 1, .int .i64 ex, .int .i64 eh, .int .i64 ej, .int .i64 eo, .int .i64 ey, .int .i64 ev, .int .i64 er] 46) (row_new' (w := w.alloc (.cells #[.pointer (some ⟨C.bM, 0, none⟩)] 62)) (o := .cells #[.int .i64 i] 3) (g := w.heap.size + 1) (by simp))
  have rC := row_new' (w := (w.alloc (.cells #[.pointer (some ⟨C.bM, 0, none⟩)] 62)).alloc (.cells #[.int .i64 i] 3)) (o := .cells #[.int .i64 1, .int .i64 ex, .int .i64 eh, .int .i64 ej, .int .i64 eo, .int .i64 ey, .int .i64 ev, .int .i64 er] 46) (g := w.heap.size + 1 + 1) (by simp)
  have hve : ve.ownBlock ≠ some (w.heap.size + 1 + 1) := fun e => by
    obtain ⟨vs, h1, -⟩ := h.dr
    have := (h1.walk.evs.lt _ e).2
    omega
  have zA : (((w.alloc (.cells #[.pointer (some ⟨C.bM, 0, none⟩)] 62)).alloc (.cells #[.int .i64 i] 3)).alloc (.cells #[.int .i64 1, .int .i64 ex, .int .i64 eh, .int .i64 ej, .int .i64 eo, .int .i64 ey, .int .i64 ev, .int .i64 er] 46)).heap.size = w.heap.size + 3 := by simp
  have hB := h.size
  have HA := hid (h.below bA)
  have BA := hid (bA.mono hB)
  have RA := hid rA
  have RB := hid rB
  have RC := hid rC
  have HVE := hid hve
  have ZA := hid zA
  have d2 := row_cell HA.out.row 2
  have d3 := row_cell HA.out.row 3
  have lM := row_lt HA.out.row
  have xA := row_cell rA 0
  have xB := row_cell rB 0
  have xC := row_cell rC 0
  have lA := row_lt rA
  have lB := row_lt rB
  have lC := row_lt rC
  obtain ⟨u, hu, hgW, w0, w1, w2⟩ := HA.out.wkCell hi
  obtain ⟨csW, rW⟩ := HA.out.wks.own.keepObj C.gW rfl
  have RW := hid rW
  clear bA rA rB rC hve h zA rW
  have mk1 : ∀ X : World, Sem.run Tryz.prog (Instr.makeMap 168 none) X = .ok (.map (some X.heap.size)) (X.alloc (.map #[] 0)) := fun X => rfl
  have mk2 : ∀ X : World, Sem.run Tryz.prog (Instr.makeMap 160 none) X = .ok (.map (some X.heap.size)) (X.alloc (.map #[] 0)) := fun X => rfl
  go_enter Tryz.func64, Tryz.ntmps64
  go_wp2_with fail
  generalize ((w.alloc (.cells #[.pointer (some ⟨C.bM, 0, none⟩)] 62)).alloc (.cells #[.int .i64 i] 3)).alloc (.cells #[.int .i64 1, .int .i64 ex, .int .i64 eh, .int .i64 ej, .int .i64 eo, .int .i64 ey, .int .i64 ev, .int .i64 er] 46) = W at *
  refine wp_region_x [1, 0, 0, 1, 1, 0, 0] [0, 1, 2, 3, 4, 5, 6] (by kernel_rfl) (by kernel_rfl) rfl (by kernel_rfl) ?_
  simp only [selX, guardAt, sD, sE, sF, sG]
  repeat (first | (refine wpL_p (fun K hK => ?_); go_simp; refine hK _ _ ?_; clear hK K) | (apply wpL_s; (intro w2 hw2; have hk1 := hw2.cell; have hk3 := hw2.heap; clear hw2; go_simp; with_reducible rfl); simp only [Act.put, sA, sB, sC]) | (refine wpL_nil ?_))
  have hlW : C.gW < W.heap.size := row_lt RW.out
  have ff : ∀ j, W.frozen? ⟨C.gW, j, none⟩ = false := fun j => row_free RW.out j
  go_wp2
  have e1 : ∀ (X : World) (o : Obj) (j : Nat) (v : Value), C.gW < X.heap.size → (X.alloc o).setCell ⟨C.gW, j, none⟩ v = (X.setCell ⟨C.gW, j, none⟩ v).alloc o := fun X o j v h => World.setCell_alloc_past o C.gW j v h
  have hZ : ((((W.setCell ⟨C.gW, i * 3, none⟩ (.int .i64 M.clk)).setCell ⟨C.gW, i * 3 + 1, none⟩ (.map (some W.heap.size))).setCell ⟨C.gW, i * 3 + 2, none⟩ (.map (some (W.heap.size + 1)))).alloc (.map #[] 0)).alloc (.map #[] 0) =
      ((((W.alloc (.map #[] 0)).alloc (.map #[] 0)).setCell ⟨C.gW, i * 3, none⟩ (.int .i64 M.clk)).setCell ⟨C.gW, i * 3 + 1, none⟩ (.map (some W.heap.size))).setCell ⟨C.gW, i * 3 + 2, none⟩ (.map (some (W.heap.size + 1))) := by
    rw [e1, e1, e1, e1, e1, e1] <;> first | omega | (simp; omega)
  rw [hZ]
  have bY : Below W.heap.size W ((W.alloc (.map #[] 0)).alloc (.map #[] 0)) := ((Below.refl W.heap.size W).alloc (Nat.le_refl _) _).alloc (by simp) _
  have rb1 : ((W.alloc (.map #[] 0)).alloc (.map #[] 0)).heap[W.heap.size]? = some (.map #[] 0) := row_old (row_new W _)
  have rb2 : ((W.alloc (.map #[] 0)).alloc (.map #[] 0)).heap[W.heap.size + 1]? = some (.map #[] 0) := row_new' (by simp)
  generalize (W.alloc (.map #[] 0)).alloc (.map #[] 0) = Y at *
  have rWY := row_below RW.out bY hlW
  have hk1 : Kd (fun t => t = 178) Y (Y.setCell ⟨C.gW, i * 3, none⟩ (.int .i64 M.clk)) := Kd.set (T := fun t => t = 178) rWY rfl _
  have rW1 := row_set rWY (i * 3) (.int .i64 M.clk)
  have hk2 := Kd.set (T := fun t => t = 178) (j := i * 3 + 1) rW1 rfl (.map (some W.heap.size))
  have rW2 := row_set rW1 (i * 3 + 1) (.map (some W.heap.size))
  have hk3 := Kd.set (T := fun t => t = 178) (j := i * 3 + 2) rW2 rfl (.map (some (W.heap.size + 1)))
  have hk := (hk1.trans hk2).trans hk3
  have hm := (KmAll.below bY).trans (((KmAll.set rWY (.int .i64 M.clk)).trans (KmAll.set rW1 (.map (some W.heap.size)))).trans (KmAll.set (j := i * 3 + 2) rW2 (.map (some (W.heap.size + 1)))))
  have hul := (List.getElem?_eq_some_iff.1 hu).1
  have how := own_setN (own_setN (own_setN (OwnF.below HA.out.wks.own bY) wkC_len (j := 0) (by decide) (u := (M.clk, u.2.1, u.2.2)) (a := .int .i64 M.clk) hu rfl) wkC_len (j := 1) (by decide) (k := i) (x := (M.clk, u.2.1, u.2.2)) (u := (M.clk, .map (some W.heap.size), u.2.2)) (a := .map (some W.heap.size)) (by rw [List.getElem?_set_self hul]) rfl) wkC_len (j := 2) (by decide) (k := i) (x := (M.clk, .map (some W.heap.size), u.2.2)) (u := (M.clk, .map (some W.heap.size), .map (some (W.heap.size + 1)))) (a := .map (some (W.heap.size + 1))) (by rw [List.set_set, List.getElem?_set_self hul]) rfl
  simp only [List.set_set, Nat.add_zero] at how
  have nW : ∀ q, W.heap.size ≤ q → q ≠ C.gW := fun q hq => by omega
  have hr1 := row_other (v := .map (some (W.heap.size + 1))) (j := i * 3 + 2) (row_other (v := .map (some W.heap.size)) (j := i * 3 + 1) (row_other (v := .int .i64 M.clk) (j := i * 3) rb1 (nW _ (Nat.le_refl _)).symm) (nW _ (Nat.le_refl _)).symm) (nW _ (Nat.le_refl _)).symm
  have hr2 := row_other (v := .map (some (W.heap.size + 1))) (j := i * 3 + 2) (row_other (v := .map (some W.heap.size)) (j := i * 3 + 1) (row_other (v := .int .i64 M.clk) (j := i * 3) rb2 (nW _ (by omega)).symm) (nW _ (by omega)).symm) (nW _ (by omega)).symm
  have hB2 : C.B ≤ W.heap.size := HA.out.size
  have hBW : C.B ≤ C.gW := (HA.out.wks.own.lt C.gW rfl).1
  have hb := (((BA.out.trans (bY.mono hB2)).setCell (p := ⟨C.gW, i * 3, none⟩) hBW (.int .i64 M.clk)).setCell (p := ⟨C.gW, i * 3 + 1, none⟩) hBW (.map (some W.heap.size))).setCell (p := ⟨C.gW, i * 3 + 2, none⟩) hBW (.map (some (W.heap.size + 1)))
  have hL := (HA.out.below bY).turn (cs' := M.cs) (fun k cs t fz h1 h2 => hk k cs t fz h1 (fun e => h2 (.inr e))) (OwnF.kd (HA.out.below bY).cells hk (by decide)) HA.out.clen (HA.out.wks.begin (i := i) (u := (M.clk, .map (some W.heap.size), .map (some (W.heap.size + 1)))) (o' := some (M.clk, [], [])) hm how (by
    rintro q (e | e) <;> cases e <;> omega) ⟨W.heap.size, W.heap.size + 1, rfl, by omega, by omega, by omega, isMB_new hr1, isMI_new hr2, (fun _ h => by cases h), List.Pairwise.nil, (fun _ h => by cases h), List.Pairwise.nil⟩)
  go_ret
  exact ⟨_, ve, _, rfl, hb.drew, hL.below (Below.refl _ _).drew, rfl⟩
set_option maxRecDepth 100000 in
set_option maxHeartbeats 2000000 in
theorem la_react (h : LaAt w C ve us P M) (i : Nat) (hi : i < P.threads.length) (ek ex eh ej eo ey ev er : Int) (he : ek ≠ 1) {tm : Int} {r : MB} {s : MI} (hws : M.ws[i]? = some (some (tm, r, s))) :
    Calls Tryz.prog 64 #[.pointer (some ⟨C.bM, 0, none⟩), .int .i64 i, evV ⟨ek, ex, eh, ej, eo, ey, ev, er⟩] w (LaNext C P i (M, reactOf (woS M.ws[i]?) ⟨ek, ex, eh, ej, eo, ey, ev, er⟩) w) := by
  have hn4 := h.ok.threads.2
  have e1 : woS M.ws[i]? = s := by rw [hws]; rfl
  rw [e1]
  clear e1
  have bA : Below w.heap.size w (((w.alloc (.cells #[.pointer (some ⟨C.bM, 0, none⟩)] 62)).alloc (.cells #[.int .i64 i] 3)).alloc (.cells #[.int .i64 ek, .int .i64 ex, .int .i64 eh, .int .i64 ej, .int .i64 eo, .int .i64 ey, .int .i64 ev, .int .i64 er] 46)) := (((Below.refl w.heap.size w).alloc (Nat.le_refl _) _).alloc (by simp) _).alloc (by simp; omega) _
  have rA := row_old (o := .cells #[.int .i64 ek, .int .i64 ex, .int .i64 eh, .int .i64 ej, .int .i64 eo, .int .i64 ey, .int .i64 ev, .int .i64 er] 46) (row_old (o := .cells #[.int .i64 i] 3) (row_new w (.cells #[.pointer (some ⟨C.bM, 0, none⟩)] 62)))
  have rB := row_old (o := .cells #[.int .i64 ek, .int .i64 ex, .int .i64 eh, .int .i64 ej, .int .i64 eo, .int .i64 ey, .int .i64 ev, .int .i64 er] 46) (row_new' (w := w.alloc (.cells #[.pointer (some ⟨C.bM, 0, none⟩)] 62)) (o := .cells #[.int .i64 i] 3) (g := w.heap.size + 1) (by simp))
  have rC := row_new' (w := (w.alloc (.cells #[.pointer (some ⟨C.bM, 0, none⟩)] 62)).alloc (.cells #[.int .i64 i] 3)) (o := .cells #[.int .i64 ek, .int .i64 ex, .int .i64 eh, .int .i64 ej, .int .i64 eo, .int .i64 ey, .int .i64 ev, .int .i64 er] 46) (g := w.heap.size + 1 + 1) (by simp)
  have hve : ve.ownBlock ≠ some (w.heap.size + 1 + 1) := fun e => by
    obtain ⟨vs, h1, -⟩ := h.dr
    have := (h1.walk.evs.lt _ e).2
    omega
  have zA : (((w.alloc (.cells #[.pointer (some ⟨C.bM, 0, none⟩)] 62)).alloc (.cells #[.int .i64 i] 3)).alloc (.cells #[.int .i64 ek, .int .i64 ex, .int .i64 eh, .int .i64 ej, .int .i64 eo, .int .i64 ey, .int .i64 ev, .int .i64 er] 46)).heap.size = w.heap.size + 3 := by simp
  have hB := h.size
  have HA := hid (h.below bA)
  have BA := hid (bA.mono hB)
  have RA := hid rA
  have RB := hid rB
  have RC := hid rC
  have HVE := hid hve
  have ZA := hid zA
  have d2 := row_cell HA.out.row 2
  have d3 := row_cell HA.out.row 3
  have lM := row_lt HA.out.row
  have xA := row_cell rA 0
  have xB := row_cell rB 0
  have xC := row_cell rC 0
  have lA := row_lt rA
  have lB := row_lt rB
  have lC := row_lt rC
  obtain ⟨br, bs, hu, hwo, hgW, w0, w1, w2⟩ := HA.out.woAt hi hws
  have HQ := hid hwo
  have q1 : (ek == 1) = false := by simpa using he
  by_cases h7 : ek = 7
  · subst h7
    clear bA rA rB rC hve h zA hu hwo
    go_enter Tryz.func64, Tryz.ntmps64
    go_wp2_with fail
    generalize ((w.alloc (.cells #[.pointer (some ⟨C.bM, 0, none⟩)] 62)).alloc (.cells #[.int .i64 i] 3)).alloc (.cells #[.int .i64 7, .int .i64 ex, .int .i64 eh, .int .i64 ej, .int .i64 eo, .int .i64 ey, .int .i64 ev, .int .i64 er] 46) = W at *
    refine wp_region_x [1, 0, 0, 1, 1, 0, 0] [0, 1, 2, 3, 4, 5, 6] (by kernel_rfl) (by kernel_rfl) rfl (by kernel_rfl) ?_
    simp only [selX, guardAt, sD, sE, sF, sG]
    repeat (first | (refine wpL_p (fun K hK => ?_); go_simp; refine hK _ _ ?_; clear hK K) | (apply wpL_s; (intro w2 hw2; have hk1 := hw2.cell; have hk3 := hw2.heap; clear hw2; go_simp; with_reducible rfl); simp only [Act.put, sA, sB, sC]) | (refine wpL_nil ?_))
    go_wp2_with fail
    refine (la_mkAbort (HA.out.below (Below.refl _ W).drew) i).mono ?_
    rintro e X1 ⟨p1, p2, rfl, b1, hbx⟩
    have b1 : Below W.heap.size W X1 := (Below.refl _ W).drew.trans b1
    have B1 := hid (BA.out.trans (b1.mono HA.out.size))
    have L1 := hid (HA.out.below b1)
    have HX := hid hbx
    clear b1 hbx d2 d3 w0 w1 w2 xA xB xC
    go_wp2
    go_ret
    exact ⟨_, ve, us, rfl, B1.out, L1.out, p1, p2, rfl, HX.out⟩
  · have q7 : (ek == 7) = false := by simpa using h7
    by_cases h4 : ek = 4
    · subst h4
      have hre : reactOf s ⟨4, ex, eh, ej, eo, ey, ev, er⟩ = if s = [] then .commit else lockNx (s.map (·.1)) := by simp [reactOf]
      rw [hre]
      clear bA rA rB rC hve h hu hwo hre
      go_enter Tryz.func64, Tryz.ntmps64
      obtain ⟨Y0, hY0⟩ : ∃ Y : Nx, Y = if s = [] then .commit else lockNx (s.map (·.1)) := ⟨_, rfl⟩
      rw [← hY0]
      have HY0 := hid hY0
      clear hY0
      go_wp2_with fail
      generalize ((w.alloc (.cells #[.pointer (some ⟨C.bM, 0, none⟩)] 62)).alloc (.cells #[.int .i64 i] 3)).alloc (.cells #[.int .i64 4, .int .i64 ex, .int .i64 eh, .int .i64 ej, .int .i64 eo, .int .i64 ey, .int .i64 ev, .int .i64 er] 46) = W at *
      have hBW : C.B ≤ W.heap.size := HA.out.size
      obtain ⟨br', bs', hu, hbr, hbs, hne, hmr, hms, hcr, hsr, hcs, hss⟩ := HQ.out
      simp only [Prod.mk.injEq, Value.map.injEq, Option.some.injEq, true_and] at hu
      obtain ⟨rfl, rfl⟩ := hu
      have hs4 := hcs.len hss
      have HSS := hid hss
      have HMS := hid hms
      have ln := fun X : World => fun hX : IsMI X bs s.length s => hX.len Tryz.underlying160
      have ln1 := fun ty => hms.drew.len Tryz.underlying160 ty
      clear hmr hms hcr hsr hcs hss zA ln
      refine wp_region_x [1, 0, 0, 1, 1, 0, 0] [0, 1, 2, 3, 4, 5, 6] (by kernel_rfl) (by kernel_rfl) rfl (by kernel_rfl) ?_
      simp only [selX, guardAt, sD, sE, sF, sG]
      repeat (first | (refine wpL_p (fun K hK => ?_); go_simp; refine hK _ _ ?_; clear hK K) | (apply wpL_s; (intro w2 hw2; have hk1 := hw2.cell; have hk3 := hw2.heap; clear hw2; go_simp; with_reducible rfl); simp only [Act.put, sA, sB, sC]) | (refine wpL_nil ?_))
      cases hse : s with
      | nil =>
        have HE := hid hse
        have l0 : (s.length : Int) = 0 := by rw [hse]; rfl
        rw [l0] at ln1
        clear hse
        go_wp2_with fail
        refine (la_mkCommit (HA.out.below (Below.refl _ W).drew) i).mono ?_
        rintro e X1 ⟨p1, p2, rfl, b1, hbx⟩
        have b1 : Below W.heap.size W X1 := (Below.refl _ W).drew.trans b1
        have B1 := hid (BA.out.trans (b1.mono HA.out.size))
        have L1 := hid (HA.out.below b1)
        have HX := hid hbx
        clear b1 hbx d2 d3 w0 w1 w2 xA xB xC ln1
        go_wp2
        go_ret
        refine ⟨_, ve, us, rfl, B1.out, L1.out, ?_⟩
        rw [HY0.out, if_pos HE.out]
        exact ⟨p1, p2, rfl, HX.out⟩
      | cons a z =>
        have HE := hid hse
        have l0 : ((s.length : Int) == 0) = false := by rw [hse]; simp only [List.length_cons]; simp; omega
        clear hse
        go_wp2_with fail
        refine RN.wp_region_t (W.heap.size) [1, 1, 0, 0, 0, 1, 3, 3, 2, 0] (.fin [0, 1, 2, 3, 4, 5, 6, 7, 8, 9]) (by kernel_rfl) (by kernel_rfl) (by kernel_rfl) (by kernel_rfl) ?_
        simp only [RN.wpT, selX, guardAt, sD, sE, sF, sG]
        repeat (first | (refine RN.wpL_p (fun K hK => ?_); go_simp; refine hK _ _ ?_; clear hK K) | (apply RN.wpL_s; (intro w2 hw2; have hk1 := hw2.cell; have hk3 := hw2.1; clear hw2; go_simp; with_reducible rfl); simp only [Act.put, sA, sB, sC]) | (refine RN.wpL_nil ?_))
        refine RN.wpL_k (fun K hK => ?_)
        go_simp
        refine (keysI (some bs) W.drew.drew).mono ?_
        rintro e W1 ⟨rfl, rfl⟩
        refine hK _ _ (RN.KeepsN.alloc _ _ (Nat.le_refl _)) ?_
        clear hK K
        repeat (first | (refine RN.wpL_p (fun K hK => ?_); go_simp; refine hK _ _ ?_; clear hK K) | (apply RN.wpL_s; (intro w2 hw2; have hk1 := hw2.cell; have hk3 := hw2.1; clear hw2; go_simp; with_reducible rfl); simp only [Act.put, sA, sB, sC]) | (refine RN.wpL_nil ?_))
        refine RN.wpL_k (fun K hK => ?_)
        go_simp
        refine (sortedI (w := W.drew.drew) (HMS.out.drew.drew) HSS.out (by omega)).mono ?_
        rintro e W2 ⟨v, rfl, ho, hb2⟩
        have b2 : Below W.heap.size W W2 := ((Below.refl _ W).drew.drew.alloc (Nat.le_refl _) _).trans (hb2.mono (by show W.heap.size ≤ W.heap.size + 1; omega))
        refine hK _ _ (RN.KeepsN.of_below (hb2.mono (by show W.heap.size ≤ W.heap.size + 1; omega))) ?_
        clear hK K
        have L2 := hid (HA.out.below b2)
        have LS := hid (LsAt.ofOwn (C := C) ho (show C.B ≤ W.heap.size + 1 by omega))
        have B2 := hid (BA.out.trans (b2.mono hBW))
        clear ho hb2 b2
        repeat (first | (refine RN.wpL_p (fun K hK => ?_); go_simp; refine hK _ _ ?_; clear hK K) | (apply RN.wpL_s; (intro w2 hw2; have hk1 := hw2.cell; have hk3 := hw2.1; clear hw2; go_simp; with_reducible rfl); simp only [Act.put, sA, sB, sC]) | (refine RN.wpL_nil ?_))
        refine RN.wpL_e (fun K hK => ?_)
        go_simp
        refine (la_lock L2.out i hi v _ LS.out (by rw [List.length_map]; exact hs4)).mono ?_
        rintro e W3 ⟨v3, ve', us', rfl, hb, hla, hx⟩
        refine hK _ _ ?_
        clear hK K
        have B3 := hid (B2.out.trans hb)
        have L3 := hid hla
        have X3 := hid hx
        clear hb hla hx d2 d3 w0 w1 w2 xA xB xC ln1
        repeat (first | (refine RN.wpL_p (fun K hK => ?_); go_simp; refine hK _ _ ?_; clear hK K) | (apply RN.wpL_s; (intro w2 hw2; have hk1 := hw2.cell; have hk3 := hw2.1; clear hw2; go_simp; with_reducible rfl); simp only [Act.put, sA, sB, sC]) | (refine RN.wpL_nil ?_))
        go_wp2
        go_ret
        refine ⟨v3, ve', us', rfl, B3.out, L3.out, ?_⟩
        rw [HY0.out, if_neg (by rw [HE.out]; simp)]
        exact X3.out
    · have q4 : (ek == 4) = false := by simpa using h4
      have hre : reactOf s ⟨ek, ex, eh, ej, eo, ey, ev, er⟩ = .ans ⟨ek, ex, eh, ej, eo, ey, ev, er⟩ := by simp [reactOf, he, h7, h4]
      rw [hre]
      clear bA rA rB rC hve h zA hu hwo
      go_enter Tryz.func64, Tryz.ntmps64
      go_wp2_with fail
      generalize ((w.alloc (.cells #[.pointer (some ⟨C.bM, 0, none⟩)] 62)).alloc (.cells #[.int .i64 i] 3)).alloc (.cells #[.int .i64 ek, .int .i64 ex, .int .i64 eh, .int .i64 ej, .int .i64 eo, .int .i64 ey, .int .i64 ev, .int .i64 er] 46) = W at *
      refine wp_region_x [1, 0, 0, 1, 1, 0, 0] [0, 1, 2, 3, 4, 5, 6] (by kernel_rfl) (by kernel_rfl) rfl (by kernel_rfl) ?_
      simp only [selX, guardAt, sD, sE, sF, sG]
      repeat (first | (refine wpL_p (fun K hK => ?_); go_simp; refine hK _ _ ?_; clear hK K) | (apply wpL_s; (intro w2 hw2; have hk1 := hw2.cell; have hk3 := hw2.heap; clear hw2; go_simp; with_reducible rfl); simp only [Act.put, sA, sB, sC]) | (refine wpL_nil ?_))
      clear d2 d3 w0 w1 w2 xA xB
      go_wp2
      go_ret
      exact ⟨_, ve, us, rfl, BA.out.drew, HA.out.below (Below.refl _ W).drew, w.heap.size, w.heap.size + 1, w.heap.size + 1 + 1, rfl, ⟨RA.out, RB.out, hB, by omega⟩, RC.out, HVE.out, by omega⟩
theorem la_ans1 (h : LaAt w C ve us P M) (i : Nat) (hi : i < P.threads.length) {t : Th} (ht : M.W.ths[i]? = some t) (hd : thDone P i t = false) (hbg : t.begun = true) (hl : M.W.evs.length ≤ 100000) {tm : Int} {r : MB} {s : MI} (hws : M.ws[i]? = some (some (tm, r, s))) (hcn : WoCan P r s)
    (k : Nat) (ek ex eh eo ey ev er : Int) (hk : k < P.cells.length) (hb2 : ∀ c ∈ M.cs, -999999000 ≤ c.val ∧ c.val ≤ 999999000)
    {p1 p2 p3 : Nat} (hx : BxM w C i p1 p2) (h3 : w.heap[p3]? = some (.cells #[.int .i64 ek, .int .i64 ex, .int .i64 eh, .int .i64 (k : Nat), .int .i64 eo, .int .i64 ey, .int .i64 ev, .int .i64 er] 46 (0, 0))) :
    Calls Tryz.prog 106 #[.pointer (some ⟨p1, 0, none⟩), .pointer (some ⟨p2, 0, none⟩), .pointer (some ⟨p3, 0, none⟩)] w (LaPost C P (ansStep P M i t ⟨ek, ex, eh, (k : Nat), eo, ey, ev, er⟩ tm r s) .nilFunc w) := by
  have d0 := row_cell hx.1 0
  have d1 := row_cell hx.2.1 0
  have l0 := row_lt hx.1
  have l1 := row_lt hx.2.1
  have l2 := row_lt h3
  have f0 := row_cell h3 0
  have f1 := row_cell h3 1
  have f2 := row_cell h3 2
  have f3 := row_cell h3 3
  have f4 := row_cell h3 4
  have f5 := row_cell h3 5
  have f6 := row_cell h3 6
  have f7 := row_cell h3 7
  have hc := hid (la_answer h i hi ht hd hbg hl hws hcn k ek ex eh eo ey ev er hk hb2)
  clear h hx h3 hws ht hcn hb2
  generalize ansStep P M i t ⟨ek, ex, eh, (k : Nat), eo, ey, ev, er⟩ tm r s = y at *
  go_enter Tryz.func106, Tryz.ntmps106
  go_wp2_with fail
  refine (hc.out).mono ?_
  clear hc
  rintro e w1 ⟨rfl, hb, ve', us', hla⟩
  have HB := hid hb
  have HL := hid hla
  clear hb hla d0 d1 f0 f1 f2 f3 f4 f5 f6 f7
  go_wp2
  go_ret
  exact ⟨rfl, HB.out, ve', us', HL.out⟩
end
end Go.Proofs.YtogphaiomlfofaaGreatDoor
