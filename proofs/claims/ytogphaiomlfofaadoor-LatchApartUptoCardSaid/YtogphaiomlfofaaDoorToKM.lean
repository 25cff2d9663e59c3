/- The engine latch: run, Run, Full. Conditions: those of each theorem, as typed. -/
import Derived.Test.YtogphaiomlfofaaDoorToJM
set_option linter.unusedVariables false
set_option linter.unusedSimpArgs false
namespace Go.Proofs.YtogphaiomlfofaaDoor
open Go.RowKit Go.Maps
set_option linter.unusedVariables false
set_option linter.unusedSimpArgs false
attribute [local irreducible] wpL

def RunRet (P : Pg) (l : List Int) (full : Bool) (ev : Value) (w : World) (e : Ending) (w' : World) : Prop :=
  (¬ ValidIs P ∧ e = .returned (.tuple #[.agg #[.slice none 0 0, .slice none 0 0], ev]) ∨ ValidIs P ∧ ∃ M' ov vv, e = .returned (.tuple #[.agg #[ov, vv], .nilIface]) ∧ RunOf P (startLM P) l full M' ∧ OwnF Ob.cells 156 2 w' w.heap.size ov (obsOf P) ∧ OwnF Ev.cells 50 8 w' w.heap.size vv M'.W.evs) ∧ Below w.heap.size w w'
def Going (P : Pg) : Prop := PgOk P → ∃ (Inv : LM → Prop) (mu : LM → Nat), Goes P Inv mu ∧ Inv (startLM P)
set_option maxRecDepth 100000 in
set_option maxHeartbeats 2000000 in
theorem la_run (vc vt : Value) (P : Pg) (w : World) (h : PgIs w w.heap.size vc vt P) (ev : Value) (hev : w.cell? ⟨0, 0, none⟩ = some ev) (hne : ∃ t v, ev = .iface t v) (h10 : 0 < w.heap.size) (hn : P.threads.length ≤ 1000)
    (sv : Value) (l : List Int) (hs : Sl w w.heap.size 1 sv l.length (l.map (.int .i64))) (hl : l.length ≤ 300) (full : Bool) (hG : Going P) :
    Calls Tryd.prog 18 #[.agg #[vc, vt], sv, .bool full] w (RunRet P l full ev w) := by
  obtain ⟨ac, cc, rfl, mc⟩ := h.cells.ex
  obtain ⟨at', ct, rfl, mt⟩ := h.thr.ex
  obtain ⟨sa, sc, rfl, -⟩ := hs.ex
  obtain ⟨ty, va, rfl⟩ := hne
  have H := hid h
  have HE := hid hev
  have HS := hid hs
  have HG := hid hG
  clear h hev hs hG
  go_enter Tryd.func18, Tryd.ntmps18
  go_wp2_with fail
  have b0 : Below w.heap.size w ((w.alloc (.cells #[.slice ac P.cells.length cc, .slice at' P.threads.length ct] 25)).alloc (.cells #[.slice none 0 0, .slice none 0 0] 39)) := ((Below.refl _ w).alloc (Nat.le_refl _) _).alloc (by simp) _
  have r0 := row_old (o := .cells #[.slice none 0 0, .slice none 0 0] 39) (row_new w (.cells #[.slice ac P.cells.length cc, .slice at' P.threads.length ct] 25))
  have r1 := row_new' (w := w.alloc (.cells #[.slice ac P.cells.length cc, .slice at' P.threads.length ct] 25)) (o := .cells #[.slice none 0 0, .slice none 0 0] 39) (g := w.heap.size + 1) (by simp)
  have z0 : ((w.alloc (.cells #[.slice ac P.cells.length cc, .slice at' P.threads.length ct] 25)).alloc (.cells #[.slice none 0 0, .slice none 0 0] 39)).heap.size = w.heap.size + 2 := by simp
  generalize (w.alloc (.cells #[.slice ac P.cells.length cc, .slice at' P.threads.length ct] 25)).alloc (.cells #[.slice none 0 0, .slice none 0 0] 39) = X at *
  refine (la_new _ _ P X ((H.out.below b0).more (by omega)) (.iface ty va) (cell_below b0 h10 HE.out) ⟨_, _, rfl⟩ (by omega) hn).mono ?_
  rintro e V ⟨hv, bV⟩
  have zV := bV.size
  have BV := hid (b0.trans (bV.mono (by omega)))
  have RV := hid (row_below r0 bV (by omega))
  have RH := hid (row_below r1 bV (by omega))
  have y0 := row_cell RH.out 0
  have y1 := row_cell RH.out 1
  have yf : ∀ j, V.frozen? ⟨w.heap.size + 1, j, none⟩ = false := fun j => row_free RH.out j
  have ly := row_lt RH.out
  rcases hv with ⟨hno, rfl⟩ | ⟨hok, C, us, ve, rfl, hB, hla⟩
  case inl =>
    have HN := hid hno
    clear hno b0 r0 r1 z0 bV
    go_wp2
    have r4 := row2 (u1 := .slice none 0 0) (u2 := .slice none 0 0) RH.out
    have c0 := row_cell r4 0
    have c1 := row_cell r4 1
    simp only [List.getElem?_toArray, List.getElem?_cons_zero, List.getElem?_cons_succ] at c0 c1
    refine bodyPost_ret (v := .tuple #[.agg #[.slice none 0 0, .slice none 0 0], .iface ty va]) (by simp [results, Tryd.results18, go_sem, c0, c1]) rfl ⟨.inl ⟨HN.out, rfl⟩, ?_⟩
    exact (BV.out.setCell (p := ⟨w.heap.size + 1, 0, none⟩) (by show w.heap.size ≤ w.heap.size + 1; omega) _).setCell (p := ⟨w.heap.size + 1, 1, none⟩) (by show w.heap.size ≤ w.heap.size + 1; omega) _
  case inr =>
    have HOK := hid hok
    have HL := hid hla
    have hXB : X.heap.size = C.B := hB.symm
    have hCB : w.heap.size + 2 = C.B := by omega
    have p1 := row_cell RV.out 1
    have lp := row_lt RV.out
    clear hok hla b0 r0 r1 z0 bV hB
    obtain ⟨Inv, mu, hg, hi0⟩ := HG.out HOK.out.ok
    have HSC := hid (show Sl V C.B 1 (.slice sa l.length sc) l.length (l.map (.int .i64)) from (HS.out.below BV.out).more (by omega))
    have HGG := hid hg
    have HII := hid hi0
    clear hg hi0 HS
    go_wp2_with fail
    refine (la_drive HL.out HGG.out HII.out _ l HSC.out hl full).mono ?_
    rintro e U ⟨M', ov, vv, rfl, hro, ho, hv, hb⟩
    obtain ⟨ao, co, rfl, -⟩ := ho.form2
    obtain ⟨ae, ce, rfl, -⟩ := hv.form2
    have r1 := row_below RH.out hb (by omega)
    have x0 := row_cell r1 0
    have x1 := row_cell r1 1
    have xf : ∀ j, U.frozen? ⟨w.heap.size + 1, j, none⟩ = false := fun j => row_free r1 j
    have lx := row_lt r1
    have HB1 := hid (BV.out.trans (hb.mono (by omega)))
    have HO := hid (OwnF.base ho (show w.heap.size ≤ C.B by omega))
    have HV := hid (OwnF.base hv (show w.heap.size ≤ C.B by omega))
    have R1 := hid r1
    have HRO := hid hro
    clear ho hv hb r1 hro y0 y1 yf p1 HL HSC HGG HII
    obtain ⟨eo, heo⟩ : ∃ eo, eo = obsOf P := ⟨_, rfl⟩
    obtain ⟨ee, hee⟩ : ∃ ee, ee = M'.W.evs := ⟨_, rfl⟩
    rw [← heo] at HO ⊢
    rw [← hee] at HV ⊢
    have HEE := hid (And.intro heo hee)
    clear heo hee
    go_wp2
    have r4 := row2 (u1 := .slice ao eo.length co) (u2 := .slice ae ee.length ce) R1.out
    have c0 := row_cell r4 0
    have c1 := row_cell r4 1
    simp only [List.getElem?_toArray, List.getElem?_cons_zero, List.getElem?_cons_succ] at c0 c1
    refine bodyPost_ret (v := .tuple #[.agg #[.slice ao eo.length co, .slice ae ee.length ce], .nilIface]) (by simp [results, Tryd.results18, go_sem, c0, c1]) rfl ⟨.inr ⟨HOK.out, M', _, _, rfl, HRO.out, ?_, ?_⟩, ?_⟩
    · rw [← HEE.out.1]; exact OwnF.box2 HO.out R1.out (by decide)
    · rw [← HEE.out.2]; exact OwnF.box2 HV.out R1.out (by decide)
    · exact (HB1.out.setCell (p := ⟨w.heap.size + 1, 0, none⟩) (by show w.heap.size ≤ w.heap.size + 1; omega) _).setCell (p := ⟨w.heap.size + 1, 1, none⟩) (by show w.heap.size ≤ w.heap.size + 1; omega) _
set_option maxRecDepth 100000 in
set_option maxHeartbeats 2000000 in
theorem la_Run (vc vt : Value) (P : Pg) (w : World) (h : PgIs w w.heap.size vc vt P) (ev : Value) (hev : w.cell? ⟨0, 0, none⟩ = some ev) (hne : ∃ t v, ev = .iface t v) (h10 : 0 < w.heap.size) (hn : P.threads.length ≤ 1000)
    (sv : Value) (l : List Int) (hs : Sl w w.heap.size 1 sv l.length (l.map (.int .i64))) (hl : l.length ≤ 300) (hG : Going P) :
    Calls Tryd.prog 13 #[.agg #[vc, vt], sv] w (RunRet P l false ev w) := by
  obtain ⟨ac, cc, rfl, mc⟩ := h.cells.ex
  obtain ⟨at', ct, rfl, mt⟩ := h.thr.ex
  obtain ⟨sa, sc, rfl, -⟩ := hs.ex
  obtain ⟨ty, va, rfl⟩ := hne
  have H := hid h
  have HE := hid hev
  have HS := hid hs
  have HG := hid hG
  clear h hev hs hG
  go_enter Tryd.func13, Tryd.ntmps13
  go_wp2_with fail
  have b0 : Below w.heap.size w ((w.alloc (.cells #[.slice ac P.cells.length cc, .slice at' P.threads.length ct] 25)).alloc (.cells #[.slice none 0 0, .slice none 0 0] 39)) := ((Below.refl _ w).alloc (Nat.le_refl _) _).alloc (by simp) _
  have r1 := row_new' (w := w.alloc (.cells #[.slice ac P.cells.length cc, .slice at' P.threads.length ct] 25)) (o := .cells #[.slice none 0 0, .slice none 0 0] 39) (g := w.heap.size + 1) (by simp)
  have z0 : ((w.alloc (.cells #[.slice ac P.cells.length cc, .slice at' P.threads.length ct] 25)).alloc (.cells #[.slice none 0 0, .slice none 0 0] 39)).heap.size = w.heap.size + 2 := by simp
  generalize (w.alloc (.cells #[.slice ac P.cells.length cc, .slice at' P.threads.length ct] 25)).alloc (.cells #[.slice none 0 0, .slice none 0 0] 39) = X at *
  refine (la_run _ _ P X ((H.out.below b0).more (by omega)) (.iface ty va) (cell_below b0 h10 HE.out) ⟨_, _, rfl⟩ (by omega) hn _ l ((HS.out.below b0).more (by omega)) hl false HG.out).mono ?_
  rintro e U ⟨hv, bV⟩
  have zV := bV.size
  have BV := hid (b0.trans (bV.mono (by omega)))
  have RH := hid (row_below r1 bV (by omega))
  have y0 := row_cell RH.out 0
  have y1 := row_cell RH.out 1
  have yf : ∀ j, U.frozen? ⟨w.heap.size + 1, j, none⟩ = false := fun j => row_free RH.out j
  have ly := row_lt RH.out
  have hwX : w.heap.size ≤ X.heap.size := by omega
  rcases hv with ⟨hno, rfl⟩ | ⟨hok, M', ov, vv, rfl, hro, ho, hv⟩
  · have HN := hid hno
    clear hno r1 z0 b0 bV
    go_wp2
    have r4 := row2 (u1 := .slice none 0 0) (u2 := .slice none 0 0) RH.out
    have c0 := row_cell r4 0
    have c1 := row_cell r4 1
    simp only [List.getElem?_toArray, List.getElem?_cons_zero, List.getElem?_cons_succ] at c0 c1
    refine bodyPost_ret (v := .tuple #[.agg #[.slice none 0 0, .slice none 0 0], .iface ty va]) (by simp [results, Tryd.results13, go_sem, c0, c1]) rfl ⟨.inl ⟨HN.out, rfl⟩, ?_⟩
    exact (BV.out.setCell (p := ⟨w.heap.size + 1, 0, none⟩) (by show w.heap.size ≤ w.heap.size + 1; omega) _).setCell (p := ⟨w.heap.size + 1, 1, none⟩) (by show w.heap.size ≤ w.heap.size + 1; omega) _
  · obtain ⟨ao, co, rfl, -⟩ := ho.form2
    obtain ⟨ae, ce, rfl, -⟩ := hv.form2
    have HOK := hid hok
    have HO := hid (OwnF.base ho hwX)
    have HV := hid (OwnF.base hv hwX)
    have HRO := hid hro
    clear hok ho hv hro r1 z0 b0 bV
    obtain ⟨eo, heo⟩ : ∃ eo, eo = obsOf P := ⟨_, rfl⟩
    obtain ⟨ee, hee⟩ : ∃ ee, ee = M'.W.evs := ⟨_, rfl⟩
    rw [← heo] at HO ⊢
    rw [← hee] at HV ⊢
    have HEE := hid (And.intro heo hee)
    clear heo hee
    go_wp2
    have r4 := row2 (u1 := .slice ao eo.length co) (u2 := .slice ae ee.length ce) RH.out
    have c0 := row_cell r4 0
    have c1 := row_cell r4 1
    simp only [List.getElem?_toArray, List.getElem?_cons_zero, List.getElem?_cons_succ] at c0 c1
    refine bodyPost_ret (v := .tuple #[.agg #[.slice ao eo.length co, .slice ae ee.length ce], .nilIface]) (by simp [results, Tryd.results13, go_sem, c0, c1]) rfl ⟨.inr ⟨HOK.out, M', _, _, rfl, HRO.out, ?_, ?_⟩, ?_⟩
    · rw [← HEE.out.1]; exact OwnF.box2 HO.out RH.out (by decide)
    · rw [← HEE.out.2]; exact OwnF.box2 HV.out RH.out (by decide)
    · exact (BV.out.setCell (p := ⟨w.heap.size + 1, 0, none⟩) (by show w.heap.size ≤ w.heap.size + 1; omega) _).setCell (p := ⟨w.heap.size + 1, 1, none⟩) (by show w.heap.size ≤ w.heap.size + 1; omega) _

set_option maxRecDepth 100000 in
set_option maxHeartbeats 2000000 in
theorem la_Full (vc vt : Value) (P : Pg) (w : World) (h : PgIs w w.heap.size vc vt P) (ev : Value) (hev : w.cell? ⟨0, 0, none⟩ = some ev) (hne : ∃ t v, ev = .iface t v) (h10 : 0 < w.heap.size) (hn : P.threads.length ≤ 1000)
    (sv : Value) (l : List Int) (hs : Sl w w.heap.size 1 sv l.length (l.map (.int .i64))) (hl : l.length ≤ 300) (hG : Going P) :
    Calls Tryd.prog 8 #[.agg #[vc, vt], sv] w (RunRet P l true ev w) := by
  obtain ⟨ac, cc, rfl, mc⟩ := h.cells.ex
  obtain ⟨at', ct, rfl, mt⟩ := h.thr.ex
  obtain ⟨sa, sc, rfl, -⟩ := hs.ex
  obtain ⟨ty, va, rfl⟩ := hne
  have H := hid h
  have HE := hid hev
  have HS := hid hs
  have HG := hid hG
  clear h hev hs hG
  go_enter Tryd.func8, Tryd.ntmps8
  go_wp2_with fail
  have b0 : Below w.heap.size w ((w.alloc (.cells #[.slice ac P.cells.length cc, .slice at' P.threads.length ct] 25)).alloc (.cells #[.slice none 0 0, .slice none 0 0] 39)) := ((Below.refl _ w).alloc (Nat.le_refl _) _).alloc (by simp) _
  have r1 := row_new' (w := w.alloc (.cells #[.slice ac P.cells.length cc, .slice at' P.threads.length ct] 25)) (o := .cells #[.slice none 0 0, .slice none 0 0] 39) (g := w.heap.size + 1) (by simp)
  have z0 : ((w.alloc (.cells #[.slice ac P.cells.length cc, .slice at' P.threads.length ct] 25)).alloc (.cells #[.slice none 0 0, .slice none 0 0] 39)).heap.size = w.heap.size + 2 := by simp
  generalize (w.alloc (.cells #[.slice ac P.cells.length cc, .slice at' P.threads.length ct] 25)).alloc (.cells #[.slice none 0 0, .slice none 0 0] 39) = X at *
  refine (la_run _ _ P X ((H.out.below b0).more (by omega)) (.iface ty va) (cell_below b0 h10 HE.out) ⟨_, _, rfl⟩ (by omega) hn _ l ((HS.out.below b0).more (by omega)) hl true HG.out).mono ?_
  rintro e U ⟨hv, bV⟩
  have zV := bV.size
  have BV := hid (b0.trans (bV.mono (by omega)))
  have RH := hid (row_below r1 bV (by omega))
  have y0 := row_cell RH.out 0
  have y1 := row_cell RH.out 1
  have yf : ∀ j, U.frozen? ⟨w.heap.size + 1, j, none⟩ = false := fun j => row_free RH.out j
  have ly := row_lt RH.out
  have hwX : w.heap.size ≤ X.heap.size := by omega
  rcases hv with ⟨hno, rfl⟩ | ⟨hok, M', ov, vv, rfl, hro, ho, hv⟩
  · have HN := hid hno
    clear hno r1 z0 b0 bV
    go_wp2
    have r4 := row2 (u1 := .slice none 0 0) (u2 := .slice none 0 0) RH.out
    have c0 := row_cell r4 0
    have c1 := row_cell r4 1
    simp only [List.getElem?_toArray, List.getElem?_cons_zero, List.getElem?_cons_succ] at c0 c1
    refine bodyPost_ret (v := .tuple #[.agg #[.slice none 0 0, .slice none 0 0], .iface ty va]) (by simp [results, Tryd.results8, go_sem, c0, c1]) rfl ⟨.inl ⟨HN.out, rfl⟩, ?_⟩
    exact (BV.out.setCell (p := ⟨w.heap.size + 1, 0, none⟩) (by show w.heap.size ≤ w.heap.size + 1; omega) _).setCell (p := ⟨w.heap.size + 1, 1, none⟩) (by show w.heap.size ≤ w.heap.size + 1; omega) _
  · obtain ⟨ao, co, rfl, -⟩ := ho.form2
    obtain ⟨ae, ce, rfl, -⟩ := hv.form2
    have HOK := hid hok
    have HO := hid (OwnF.base ho hwX)
    have HV := hid (OwnF.base hv hwX)
    have HRO := hid hro
    clear hok ho hv hro r1 z0 b0 bV
    obtain ⟨eo, heo⟩ : ∃ eo, eo = obsOf P := ⟨_, rfl⟩
    obtain ⟨ee, hee⟩ : ∃ ee, ee = M'.W.evs := ⟨_, rfl⟩
    rw [← heo] at HO ⊢
    rw [← hee] at HV ⊢
    have HEE := hid (And.intro heo hee)
    clear heo hee
    go_wp2
    have r4 := row2 (u1 := .slice ao eo.length co) (u2 := .slice ae ee.length ce) RH.out
    have c0 := row_cell r4 0
    have c1 := row_cell r4 1
    simp only [List.getElem?_toArray, List.getElem?_cons_zero, List.getElem?_cons_succ] at c0 c1
    refine bodyPost_ret (v := .tuple #[.agg #[.slice ao eo.length co, .slice ae ee.length ce], .nilIface]) (by simp [results, Tryd.results8, go_sem, c0, c1]) rfl ⟨.inr ⟨HOK.out, M', _, _, rfl, HRO.out, ?_, ?_⟩, ?_⟩
    · rw [← HEE.out.1]; exact OwnF.box2 HO.out RH.out (by decide)
    · rw [← HEE.out.2]; exact OwnF.box2 HV.out RH.out (by decide)
    · exact (BV.out.setCell (p := ⟨w.heap.size + 1, 0, none⟩) (by show w.heap.size ≤ w.heap.size + 1; omega) _).setCell (p := ⟨w.heap.size + 1, 1, none⟩) (by show w.heap.size ≤ w.heap.size + 1; omega) _
end Go.Proofs.YtogphaiomlfofaaDoor
