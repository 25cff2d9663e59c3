/- LatchApart: the document's copy of a program. Printed by wip/tools/genapb.py. Conditions: those of each theorem, as typed. -/
import Derived.Test.YtogphaiomlfofaaDoorApAM
set_option linter.unusedVariables false
set_option linter.unusedSimpArgs false
namespace Go.Proofs.YtogphaiomlfofaaDoor
open Go.RowKit
set_option linter.unusedVariables false
set_option linter.unusedSimpArgs false
attribute [local irreducible] wpL RN.wpL

set_option maxRecDepth 100000 in
set_option maxHeartbeats 4000000 in
theorem ref_Program (vc vt : Value) (P : Pg) (w : World) (h : PgIs w w.heap.size vc vt P) (hP : PgOk P) : Calls Tryd.prog 7 #[.agg #[vc, vt]] w (CloneRet P w) := by
  obtain ⟨ac, cc, rfl, mc⟩ := h.cells.ex
  obtain ⟨at', ct, rfl, mt⟩ := h.thr.ex
  have H := hid h
  have HP := hid hP
  have hc4 := hP.cells
  have ht4 := hP.threads
  clear h hP
  have b0 : Below w.heap.size w ((w.alloc (.cells #[(.slice ac P.cells.length cc), (.slice at' P.threads.length ct)] 25)).alloc (.cells #[.slice none 0 0, .slice none 0 0] 25)) := ((Below.refl _ w).alloc (Nat.le_refl _) _).alloc (by simp) _
  have r1 := row_old (o := .cells #[.slice none 0 0, .slice none 0 0] 25) (row_new w (.cells #[(.slice ac P.cells.length cc), (.slice at' P.threads.length ct)] 25))
  have r2 := row_new' (w := w.alloc (.cells #[(.slice ac P.cells.length cc), (.slice at' P.threads.length ct)] 25)) (o := .cells #[.slice none 0 0, .slice none 0 0] 25) (g := w.heap.size + 1) (by simp)
  have z0 : w.heap.size + 2 ≤ ((w.alloc (.cells #[(.slice ac P.cells.length cc), (.slice at' P.threads.length ct)] 25)).alloc (.cells #[.slice none 0 0, .slice none 0 0] 25)).heap.size := by simp
  go_enter Tryd.func7, Tryd.ntmps7
  go_wp2_with fail
  generalize (w.alloc (.cells #[(.slice ac P.cells.length cc), (.slice at' P.threads.length ct)] 25)).alloc (.cells #[.slice none 0 0, .slice none 0 0] 25) = W at *
  have R2 := hid r2
  have B0 := hid b0
  have Y1 := hid (show W.cell? ⟨w.heap.size, 1, none⟩ = some (.slice at' P.threads.length ct) from row_cell r1 1)
  have lw : w.heap.size < W.heap.size := by omega
  have HW := hid (H.out.below b0)
  clear r1 r2 b0
  refine (ref_Ints _ P.cells W (HW.out.cells.more (by omega)) (by omega)).mono ?_
  rintro e W1 ⟨uc, rfl, o1, b1⟩
  obtain ⟨au, cu, rfl, -⟩ := o1.form2
  have hp3 : W.heap.size ≤ W1.heap.size := b1.size
  have r3 := row_new W1 (.cells #[.slice au P.cells.length cu, .slice none 0 0] 25)
  have O3 := hid (OwnF.alloc o1 (.cells #[.slice au P.cells.length cu, .slice none 0 0] 25))
  have B3 := hid (b1.alloc hp3 (.cells #[.slice au P.cells.length cu, .slice none 0 0] 25))
  have y1 := cell_below b1 lw Y1.out
  go_wp2_with fail
  generalize W1.alloc (.cells #[.slice au P.cells.length cu, .slice none 0 0] 25) = X at *
  have lX : W1.heap.size < X.heap.size := row_lt r3
  generalize W1.heap.size = p3 at *
  obtain ⟨uc, huc⟩ : ∃ u, u = Value.slice au P.cells.length cu := ⟨_, rfl⟩
  rw [← huc] at r3 O3
  clear huc o1 b1 y1
  have R3 := hid r3
  clear r3
  go_loopw [4] (fun p wr => ∃ (i : Nat) (ut : Value), i ≤ P.threads.length ∧ p = .int .i64 i ∧ Below W.heap.size W wr ∧ wr.heap[p3]? = some (.cells #[uc, ut] 25 (0, 0)) ∧ OwnI wr W.heap.size uc P.cells ∧ OwnThr wr W.heap.size ut (P.threads.take i)) (fun p _ => P.threads.length - (intOf p).toNat)
  case atStart => exact ⟨0, .slice none 0 0, by omega, by go_num, B3.out, R3.out, O3.out, [], OwnF.nil _ _, rfl, fun k u x hu => by simp at hu⟩
  case round =>
      obtain ⟨i, ut, hi, rfl, hB, r3, hO, hT⟩ := hrel
      have zB := hB.size
      have y1 := cell_below hB lw Y1.out
      have lwr : w.heap.size < wr.heap.size := by omega
      by_cases hlt : i < P.threads.length
      · obtain ⟨b, off, u, t, hat, hb, ht, hu, hut⟩ := HW.out.thr.at rfl hlt
        have HU := hid hu
        have hu := cell_below (hB.mono (show w.heap.size ≤ W.heap.size by omega)) hb hu
        obtain ⟨au, cu, rfl, mu⟩ := hut.ex
        have ht3 := HP.out.txs t (List.mem_of_getElem? ht)
        have hal := HP.out.acts t (List.mem_of_getElem? ht)
        have HAL := hid hal
        have HT0 := hid ht
        have HUT := hid hut
        have R3 := hid r3
        have HO := hid hO
        have HTT := hid hT
        have HB := hid hB
        have hbz : b < wr.heap.size := by omega
        subst hat
        clear r3 hO hT hB ht hut hal O3 B3
        obtain ⟨wo, rfl⟩ : ∃ wo, wo = wr := ⟨_, rfl⟩
        go_wp2_with fail
        clear hu y1
        go_loopw [5, 6] (fun q p wr => ∃ (k : Nat), k ≤ t.length ∧ p = .int .i64 k ∧ Below wo.heap.size wo wr ∧ OwnTxs wr wo.heap.size q (t.take k)) (fun _ p _ => t.length - (intOf p).toNat)
        case atStart => exact ⟨0, by omega, by go_num, Below.refl _ _, [], OwnF.nil _ _, rfl, fun k u x hu => by simp at hu⟩
        case round =>
          obtain ⟨k, hk, rfl, hB, hQ⟩ := hrel
          have zo := hB.size
          have y1 := cell_below (HB.out.trans (hB.mono zB)) lw Y1.out
          have hu := cell_below ((HB.out.trans (hB.mono zB)).mono (show w.heap.size ≤ W.heap.size by omega)) hb HU.out
          have hbz2 : b < wr.heap.size := by omega
          have lwr : w.heap.size < wr.heap.size := by omega
          by_cases hlk : k < t.length
          · obtain ⟨vs, hv, hvl, hvc⟩ := hQ
            obtain ⟨aq, cq, rfl, -⟩ := hv.form2
            have hvk : vs.length = k := by rw [hvl, List.length_take]; omega
            have hvk3 : vs.length ≤ 3 := by omega
            rw [hvk]
            rw [hvk] at hv
            have hB0 := HB.out.trans (hB.mono zB)
            have B := hid hB
            have HV := hid hv
            have HVC := hid hvc
            have HVL := hid hvl
            obtain ⟨b', off', u', l, hal', hb', hl, hu', hul⟩ := HUT.out.at rfl hlk
            obtain ⟨al, cl, rfl, ml⟩ := Sl.ex (show Sl W w.heap.size 3 u' l.length (l.flatMap Ac.cells) from hul)
            have hu' := cell_below (hB0.mono (show w.heap.size ≤ W.heap.size by omega)) hb' hu'
            have hbz' : b' < wr.heap.size := by omega
            have HUL := hid (show Sl wr w.heap.size 3 (.slice al l.length cl) l.length (l.flatMap Ac.cells) from Sl.below (show Sl W w.heap.size 3 (.slice al l.length cl) l.length (l.flatMap Ac.cells) from hul) (hB0.mono (by omega)))
            have hll := HAL.out l (List.mem_of_getElem? hl)
            have HL := hid hl
            subst hal'
            clear hl hul hv hvc hvl hB hvk hB0
            go_wp2_with fail
            refine (ref_Acts _ l wr (Sl.more (HUL.out) (by omega)) (by omega)).mono ?_
            rintro e w3 ⟨va, rfl, o3, b3⟩
            obtain ⟨ga, ka, rfl, -⟩ := OwnF.form2 (show OwnActs w3 wr.heap.size va l from o3)
            have O3 := hid (OwnF.base (show OwnActs w3 wr.heap.size (.slice ga l.length ka) l from o3) zo)
            have V3 := hid (OwnF.below HV.out b3)
            have VC3 := hid (fun (q : Nat) (u : Value) (x : List Ac) (h1 : vs[q]? = some u) (h2 : (t.take k)[q]? = some x) => OwnF.below (HVC.out q u x h1 h2) b3)
            have B3 := hid (B.out.trans (b3.mono zo))
            have z3 := b3.size
            clear o3 b3 HV HVC B hu' y1 hu
            go_wp2_with (at_builtin; refine wpList_appF rfl _ _ _ rfl _ 24 Tryd.underlying32 infoX rfl V3.out (.slice ga l.length ka) (by first | omega | (simp <;> omega)) (by rfl) (by rfl) (by first | rfl | simp) rfl (val_one _) (by first | omega | (simp only [List.length_append, List.length_cons, List.length_nil, List.length_replicate]; omega)) (by first | omega | (simp only [List.length_append, List.length_cons, List.length_nil, List.length_replicate]; omega)) ?_; refine Stop.halt ?_)
            refine Stop.go ?_
            intro g4 c4 w4 o4 G4
            have T4 := hid (OwnTxs.snoc V3.out HVL.out VC3.out O3.out o4 G4)
            have B4 := hid (B3.out.trans (G4.below B3.out.size fun q h => (V3.out.lt q h).1))
            clear o4 G4
            go_wp2_with fail
            go_roundw
            case rel => exact ⟨k + 1, by omega, by go_num, B4.out, by rw [take_step HL.out]; exact T4.out⟩
            case measure => simp [intOf]; omega
          · obtain rfl : k = t.length := by omega
            rw [List.take_length] at hQ
            have hB0 := HB.out.trans (hB.mono zB)
            have r5 := row_below R3.out hB (row_lt R3.out)
            have O5 := hid (OwnF.below HO.out hB)
            have T5 := HTT.out.below hB
            obtain ⟨vs, hv, hvl, hvc⟩ := hQ
            obtain ⟨aq, cq, rfl, -⟩ := hv.form2
            have Q5 := hid (show OwnTxs wr W.heap.size (.slice aq vs.length cq) t from ⟨vs, hv.base zB, hvl, fun q u x h1 h2 => OwnF.base (hvc q u x h1 h2) zB⟩)
            obtain ⟨ts, ht1, ht2, ht3⟩ := T5
            obtain ⟨at5, ct5, rfl, -⟩ := ht1.form2
            have htk : ts.length = i := by rw [ht2, List.length_take]; omega
            have htk4 : ts.length ≤ 4 := by omega
            rw [htk] at ht1 r5
            have H1 := hid ht1
            have H2 := hid ht2
            have H3 := hid ht3
            have R5 := hid r5
            have B5 := hid hB0
            have e1 := row_cell r5 1
            have l5 := row_lt r5
            have ef := row_free r5 1
            have hvt : vs.length ≤ 3 := by omega
            clear hv hvl hvc ht1 ht2 ht3 r5 hB hB0 R3 HO HTT HB htk
            go_wp2_with (at_builtin; refine wpList_appF rfl _ _ _ rfl _ 24 Tryd.underlying23 infoY rfl H1.out (.slice aq vs.length cq) (by first | omega | (simp <;> omega)) (by rfl) (by rfl) (by first | rfl | simp) rfl (val_one _) (by first | omega | (simp only [List.length_append, List.length_cons, List.length_nil, List.length_replicate]; omega)) (by first | omega | (simp only [List.length_append, List.length_cons, List.length_nil, List.length_replicate]; omega)) ?_; refine Stop.halt ?_)
            refine Stop.go ?_
            intro g4 c4 w4 o4 G4
            have T6 := OwnThr.snoc H1.out H2.out H3.out Q5.out o4 G4
            have B6 := B5.out.trans (G4.below B5.out.size fun q h => (H1.out.lt q h).1)
            have R6 := row_grw R5.out G4 (OwnF.neT H1.out R5.out (by decide))
            have O6 := O5.out.grwT H1.out (by decide) G4
            have f6 := row_free R6 1
            have y6 := row_cell R6 1
            have l6 := row_lt R6
            have T6 := hid T6
            have B6 := hid B6
            have R6 := hid R6
            have O6 := hid O6
            clear o4 G4 e1 ef
            go_wp2_with fail
            go_roundw
            case rel =>
              refine ⟨i + 1, _, by omega, by go_num, B6.out.setCell (p := ⟨p3, 1, none⟩) hp3 _, row_set R6.out 1 _, OwnF.other O6.out (OwnF.neT O6.out R6.out (by decide)) _, ?_⟩
              rw [take_step HT0.out]
              exact T6.out.map (fun vs h => OwnF.other h (OwnF.neT h R6.out (by decide)) _) (fun u x h => h.map (fun vs h => OwnF.other h (OwnF.neT h R6.out (by decide)) _) (fun u x h => OwnF.other h (OwnF.neT h R6.out (by decide)) _))
            case measure => simp [intOf]; omega
      · obtain rfl : i = P.threads.length := by omega
        rw [List.take_length] at hT
        have r2 := row_below R2.out hB (by omega)
        obtain ⟨aq, cq, hut, -⟩ : ∃ a c, ut = .slice a P.threads.length c ∧ True := by
          obtain ⟨ts, h1, h2, -⟩ := hT
          obtain ⟨a, c, e, -⟩ := h1.form2
          exact ⟨a, c, by rw [e, h2], trivial⟩
        subst hut
        obtain ⟨a6, c6, rfl, -⟩ := hO.form2
        have e0 : wr.cell? ⟨p3, 0, none⟩ = some (.slice a6 P.cells.length c6) := row_cell r3 0
        have e1 : wr.cell? ⟨p3, 1, none⟩ = some (.slice aq P.threads.length cq) := row_cell r3 1
        have y0 : wr.cell? ⟨w.heap.size + 1, 0, none⟩ = some (.slice none 0 0) := row_cell r2 0
        have y1 : wr.cell? ⟨w.heap.size + 1, 1, none⟩ = some (.slice none 0 0) := row_cell r2 1
        have yf : ∀ j, wr.frozen? ⟨w.heap.size + 1, j, none⟩ = false := fun j => row_free r2 j
        have l3 := row_lt r3
        have l2 := row_lt r2
        have HB := hid hB
        have HO := hid hO
        have HTT := hid hT
        have R4 := hid r2
        clear hB hO hT r2 r3 B3 R2
        go_wp2
        have r4 := row2 (u1 := .slice a6 P.cells.length c6) (u2 := .slice aq P.threads.length cq) R4.out
        have c0 := row_cell r4 0
        have c1 := row_cell r4 1
        simp only [List.getElem?_toArray, List.getElem?_cons_zero, List.getElem?_cons_succ] at c0 c1
        refine bodyPost_ret (v := .agg #[.slice a6 P.cells.length c6, .slice aq P.threads.length cq]) (by simp [results, Tryd.results7, go_sem, c0, c1]) rfl ⟨_, _, rfl, ?_, ?_, ?_⟩
        · exact OwnF.base (OwnF.box2 HO.out R4.out (by decide)) (by omega)
        · exact HTT.out.map2 (by omega) (fun vs h => OwnF.base (OwnF.box2 h R4.out (by decide)) (by omega)) (fun vs h => OwnF.base (OwnF.box2 h R4.out (by decide)) (by omega)) (fun u x h => OwnF.base (OwnF.box2 h R4.out (by decide)) (by omega))
        · exact ((B0.out.trans (HB.out.mono (by omega))).setCell (p := ⟨w.heap.size + 1, 0, none⟩) (by show w.heap.size ≤ w.heap.size + 1; omega) _).setCell (p := ⟨w.heap.size + 1, 1, none⟩) (by show w.heap.size ≤ w.heap.size + 1; omega) _
end Go.Proofs.YtogphaiomlfofaaDoor
