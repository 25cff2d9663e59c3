/- The chapter's examples of latch. Conditions: those of each theorem, as typed. -/
import Derived.Test.YtogphaiomlfofaaDoorTaMM
import Derived.Test.YtogphaiomlfofaaDoorQD10
import Derived.Test.YtogphaiomlfofaaDoorTmCM
import Derived.Test.YtogphaiomlfofaaDoorApQM
set_option linter.unusedVariables false
set_option linter.unusedSimpArgs false
namespace Go.Proofs.YtogphaiomlfofaaDoor
open Go.RowKit Go.Maps
set_option linter.unusedVariables false
set_option linter.unusedSimpArgs false
attribute [local irreducible] wpL

theorem ex20_valid : ValidIs exP20 := by
  refine ⟨by decide, fun k c hc => ?_, fun i t ht => ?_, fun i t ht k l hl => ?_, fun i t ht k l hl j a ha => ?_⟩
  · rcases k with _ | _ | k <;> simp [exP20] at hc <;> omega
  · rcases i with _ | _ | i <;> simp [exP20] at ht <;> subst ht <;> decide
  · rcases i with _ | _ | i <;> simp [exP20] at ht <;> subst ht <;> (rcases k with _ | k <;> simp at hl; subst hl; decide)
  · rcases i with _ | _ | i <;> simp [exP20] at ht <;> subst ht <;> (rcases k with _ | k <;> simp at hl; subst hl; rcases j with _ | _ | j <;> simp at ha <;> subst ha <;> decide)
theorem ex20_1 : (stepsTo exP20 (startLM exP20) [0, 0, 0, 1, 1, 1]).W.evs.length = 6 := by decide
theorem ex20_2 : (stepsTo exP20 (startLM exP20) [0, 0, 0, 1, 1, 1]).W.evs[5]?.map (fun e => (e.kind, e.tx)) = some (6, 4) := by decide
theorem ex20_3 : (stepsTo exP20 (startLM exP20) [1, 1, 1, 0, 0, 0]).W.evs.length = 6 := by decide
theorem ex20_4 : (stepsTo exP20 (startLM exP20) [1, 1, 1, 0, 0, 0]).W.evs[5]?.map (·.tx) = some 1 := by decide
def ExRun (w : World) (E : List Ev) (e : Ending) (w' : World) : Prop := ∃ ov vv, e = .returned (.tuple #[.agg #[ov, vv], .nilIface]) ∧ (∃ a n c, ov = .slice a n c) ∧ OwnF Ev.cells 50 8 w' w.heap.size vv E ∧ Below w.heap.size w w'
theorem ex20_run (w : World) (hG : Glob w) (vc vt : Value) (h : PgIs w w.heap.size vc vt exP20) (sv : Value) (l : List Int) (hs : Sl w w.heap.size 1 sv l.length (l.map (.int .i64))) (hl : l.length ≤ 300) (E : List Ev) (hE : (stepsTo exP20 (startLM exP20) l).W.evs = E) :
    Calls Tryd.prog 13 #[.agg #[vc, vt], sv] w (ExRun w E) := by
  obtain ⟨h1, ⟨t, v, h2⟩, h3⟩ := hG
  refine (la_Run vc vt exP20 w h (.iface t v) h2 ⟨_, _, rfl⟩ (by omega) (by decide) sv l hs hl (going _)).mono ?_
  rintro e w' ⟨hv, hb⟩
  rcases hv with ⟨hno, -⟩ | ⟨-, M', ov, vv, rfl, hro, ho, hv⟩
  · exact absurd ex20_valid hno
  · have : M' = stepsTo exP20 (startLM exP20) l := by simpa [RunOf] using hro
    subst this
    rw [hE] at hv
    obtain ⟨a, c, e1⟩ := OwnF.slv ho
    exact ⟨ov, vv, rfl, ⟨_, _, _, e1⟩, hv, hb⟩
set_option maxRecDepth 100000 in
set_option maxHeartbeats 2000000 in
theorem l_first20 (w : World) (hG : Glob w) : Calls Tryd.prog 4 #[] w fun e w' => e = .returned (.bool true) ∧ Below w.heap.size w w' := by
  have HG := hid hG
  have e1 := ex20_1
  have e2 := ex20_2
  have e3 := ex20_3
  have e4 := ex20_4
  obtain ⟨E1, hE1⟩ : ∃ E, (stepsTo exP20 (startLM exP20) [0, 0, 0, 1, 1, 1]).W.evs = E := ⟨_, rfl⟩
  obtain ⟨E2, hE2⟩ : ∃ E, (stepsTo exP20 (startLM exP20) [1, 1, 1, 0, 0, 0]).W.evs = E := ⟨_, rfl⟩
  rw [hE1] at e1 e2
  rw [hE2] at e3 e4
  have X1 := hid (And.intro hE1 (And.intro e1 e2))
  have X2 := hid (And.intro hE2 (And.intro e3 e4))
  clear hG e1 e2 e3 e4 hE1 hE2
  go_enter Tryd.func4, Tryd.ntmps4
  go_wp2_with fail
  refine (l_ex20 _).mono ?_
  rintro e W1 ⟨vc, vt, rfl, hp, b1⟩
  obtain ⟨ac, cc, rfl, -⟩ := hp.cells.ex
  obtain ⟨at', ct, rfl, -⟩ := hp.thr.ex
  have ba : Below W1.heap.size W1 (W1.alloc (.cells #[.int .i64 0, .int .i64 0, .int .i64 0, .int .i64 1, .int .i64 1, .int .i64 1] 3)) := (Below.refl _ W1).alloc (Nat.le_refl _) _
  have rs := row_new W1 (.cells #[.int .i64 0, .int .i64 0, .int .i64 0, .int .i64 1, .int .i64 1, .int .i64 1] 3)
  have hr := hid (ex20_run _ ((HG.out.below b1).below ba) _ _ ((hp.below ba).more ba.size) (.slice (some ⟨W1.heap.size, 0, none⟩) 6 6) [0, 0, 0, 1, 1, 1] (sl_row rs (by decide) rfl) (by decide) E1 X1.out.1)
  have B1 := hid (b1.trans (ba.mono b1.size))
  clear hp b1 ba rs
  go_wp2_with fail
  refine (hr.out).mono ?_
  rintro e W2 ⟨ov, vv, rfl, ⟨oa, on, oc, rfl⟩, hv, b2⟩
  obtain ⟨ae, ce, rfl⟩ := OwnF.slv hv
  obtain ⟨-, e1, e2⟩ := X1.out
  have HV := hid hv
  have B2 := hid (B1.out.trans (b2.mono B1.out.size))
  have HG2 := hid (HG.out.below (B1.out.trans (b2.mono B1.out.size)))
  have r2 := row_new W2 (.cells #[.slice oa on oc, .slice ae E1.length ce] 39)
  have b3 : Below W2.heap.size W2 (W2.alloc (.cells #[.slice oa on oc, .slice ae E1.length ce] 39)) := (Below.refl _ W2).alloc (Nat.le_refl _) _
  have X1' := hid (And.intro e1 e2)
  have R2 := hid r2
  have B3 := hid b3
  clear hv b2 hr e1 e2 r2 b3
  go_wp2_with fail
  generalize W2.alloc (.cells #[.slice oa on oc, .slice ae E1.length ce] 39) = W3 at *
  refine (l_ex20 _).mono ?_
  rintro e W4 ⟨vc2, vt2, rfl, hp, b4⟩
  obtain ⟨ac2, cc2, rfl, -⟩ := hp.cells.ex
  obtain ⟨at2, ct2, rfl, -⟩ := hp.thr.ex
  have ba : Below W4.heap.size W4 (W4.alloc (.cells #[.int .i64 1, .int .i64 1, .int .i64 1, .int .i64 0, .int .i64 0, .int .i64 0] 3)) := (Below.refl _ W4).alloc (Nat.le_refl _) _
  have rs := row_new W4 (.cells #[.int .i64 1, .int .i64 1, .int .i64 1, .int .i64 0, .int .i64 0, .int .i64 0] 3)
  have hr := hid (ex20_run _ (((HG2.out.below B3.out).below b4).below ba) _ _ ((hp.below ba).more ba.size) (.slice (some ⟨W4.heap.size, 0, none⟩) 6 6) [1, 1, 1, 0, 0, 0] (sl_row rs (by decide) rfl) (by decide) E2 X2.out.1)
  have B4 := hid (B3.out.trans ((b4.trans (ba.mono b4.size)).mono B3.out.size))
  have B34 := hid (b4.trans (ba.mono b4.size))
  clear hp b4 ba rs
  go_wp2_with fail
  refine (hr.out).mono ?_
  rintro e W5 ⟨ov2, vv2, rfl, ⟨oa2, on2, oc2, rfl⟩, hv, b5⟩
  obtain ⟨ae2, ce2, rfl⟩ := OwnF.slv hv
  obtain ⟨-, e3, e4⟩ := X2.out
  obtain ⟨e1, e2⟩ := X1'.out
  have b25 := B4.out.trans (b5.mono B4.out.size)
  have b35 : Below W3.heap.size W3 W5 := by
    refine Below.trans ?_ (b5.mono ?_)
    · exact B34.out
    · exact B34.out.size
  have r5 := row_below R2.out b35 (row_lt R2.out)
  have hv1 := OwnF.below HV.out b25
  obtain ⟨g1, k1, hg1, -⟩ : ∃ g k, ae = some ⟨g, 0, none⟩ ∧ ce = k := by
    rcases OwnF.form hv1 with ⟨h, h2⟩ | ⟨g, k, h, -⟩
    · rw [h2] at e1; cases e1
    · simp only [Value.slice.injEq] at h; exact ⟨g, k, h.1, h.2.2⟩
  obtain ⟨g2, k2, hg2, -⟩ : ∃ g k, ae2 = some ⟨g, 0, none⟩ ∧ ce2 = k := by
    rcases OwnF.form hv with ⟨h, h2⟩ | ⟨g, k, h, -⟩
    · rw [h2] at e3; cases e3
    · simp only [Value.slice.injEq] at h; exact ⟨g, k, h.1, h.2.2⟩
  subst hg1 hg2
  obtain ⟨b', o', x, h1, -, hx, hc⟩ := (OwnF.sl hv1).atF Ev.len rfl (k := 5) (by omega)
  simp only [Option.some.injEq, Addr.mk.injEq] at h1
  obtain ⟨rfl, rfl, -⟩ := h1
  rw [hx] at e2
  have c1 : W5.cell? ⟨g1, 40, none⟩ = some (.int .i64 6) := by
    have := hc 0 (by decide)
    simp only [Option.map_some, Option.some.injEq, Prod.mk.injEq] at e2
    simpa [Ev.cells, e2] using this
  have c3 : W5.cell? ⟨g1, 41, none⟩ = some (.int .i64 4) := by
    have := hc 1 (by decide)
    simp only [Option.map_some, Option.some.injEq, Prod.mk.injEq] at e2
    simpa [Ev.cells, e2] using this
  obtain ⟨b', o', x', h1, -, hx', hc'⟩ := (OwnF.sl hv).atF Ev.len rfl (k := 5) (by omega)
  simp only [Option.some.injEq, Addr.mk.injEq] at h1
  obtain ⟨rfl, rfl, -⟩ := h1
  rw [hx'] at e4
  have c2 : W5.cell? ⟨g2, 41, none⟩ = some (.int .i64 1) := by
    have := hc' 1 (by decide)
    simp only [Option.map_some, Option.some.injEq] at e4
    simpa [Ev.cells, e4] using this
  have l1 := (OwnF.lt hv1 g1 rfl).2
  have l2 := (OwnF.lt hv g2 rfl).2
  have l5 := row_lt r5
  rw [e1] at r5
  have y0 := row_cell r5 0
  have y1 := row_cell r5 1
  simp at y0 y1
  rw [e3]
  have HB := hid ((B2.out).trans (b25.mono B2.out.size))
  clear hx hc hx' hc' e2 e4 hv hv1 b25 b35 r5 hr b5 B34
  rw [e1]
  go_wp2
  go_ret
  exact ⟨rfl, HB.out.alloc HB.out.size _⟩
end Go.Proofs.YtogphaiomlfofaaDoor
