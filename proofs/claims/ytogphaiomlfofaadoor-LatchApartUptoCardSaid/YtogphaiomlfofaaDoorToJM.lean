/- The engine latch: drive.Run. Conditions: those of each theorem, as typed. -/
import Derived.Test.YtogphaiomlfofaaDoorToIM
set_option linter.unusedVariables false
set_option linter.unusedSimpArgs false
namespace Go.Proofs.YtogphaiomlfofaaDoor
open Go.RowKit Go.Maps
set_option linter.unusedVariables false
set_option linter.unusedSimpArgs false
attribute [local irreducible] wpL

def stepsTo (P : Pg) (M : LM) (l : List Int) : LM := l.foldl (stepTo P) M
theorem stepsTo_snoc (P : Pg) (M : LM) (l : List Int) (i : Int) : stepsTo P M (l ++ [i]) = stepTo P (stepsTo P M l) i := by simp [stepsTo]
theorem stepsTo_app (P : Pg) (M : LM) (l l2 : List Int) : stepsTo P M (l ++ l2) = stepsTo P (stepsTo P M l) l2 := by simp [stepsTo]
def roundOf (P : Pg) (M : LM) : LM := stepsTo P M (upI P.threads.length)
structure Goes (P : Pg) (Inv : LM → Prop) (mu : LM → Nat) : Prop where
  step : ∀ (M : LM) (i : Int), Inv M → Inv (stepTo P M i)
  can : ∀ M, Inv M → CanStep P M
  less : ∀ M, Inv M → allDone P M.W = false → mu (roundOf P M) < mu M
theorem Goes.steps {P : Pg} {Inv : LM → Prop} {mu : LM → Nat} (h : Goes P Inv mu) : ∀ (l : List Int) (M : LM), Inv M → Inv (stepsTo P M l)
  | [], M, hM => hM
  | i :: l, M, hM => h.steps l _ (h.step M i hM)
def RunOf (P : Pg) (M : LM) (l : List Int) (full : Bool) (M' : LM) : Prop := if full = true then ∃ l2, M' = stepsTo P M (l ++ l2) ∧ allDone P M'.W = true else M' = stepsTo P M l
def RunPost (B : Nat) (P : Pg) (M : LM) (l : List Int) (full : Bool) (w : World) (e : Ending) (w' : World) : Prop :=
  ∃ M' ov vv, e = .returned (.tuple #[.agg #[ov, vv], .nilIface]) ∧ RunOf P M l full M' ∧ OwnF Ob.cells 156 2 w' B ov (obsOf P) ∧ OwnF Ev.cells 50 8 w' B vv M'.W.evs ∧ Below B w w'
section
variable {w w' : World} {C : LC} {ve : Value} {P : Pg} {M : LM} {us : List (Value × Value)} {Inv : LM → Prop} {mu : LM → Nat}
set_option maxRecDepth 100000 in
set_option maxHeartbeats 2000000 in
theorem la_drive (h : LaAt w C ve us P M) (hG : Goes P Inv mu) (hI : Inv M) (sv : Value) (l : List Int) (hs : Sl w C.B 1 sv l.length (l.map (.int .i64))) (hl : l.length ≤ 300) (full : Bool) :
    Calls Tryd.prog 26 #[.iface 60 (.pointer (some ⟨C.bM, 0, none⟩)), .int .i64 P.threads.length, sv, .bool full] w (RunPost C.B P M l full w) := by
  obtain ⟨sa, sc, rfl, -⟩ := hs.ex
  have hn4 := h.ok.threads.2
  have hBw := h.size
  have q1 : decide ((l.length : Int) > 300) = false := by simp; omega
  have b0 : Below w.heap.size w (w.alloc (.cells #[.slice none 0 0, .slice none 0 0] 39)) := (Below.refl _ w).alloc (Nat.le_refl _) _
  have r0 := row_new w (.cells #[.slice none 0 0, .slice none 0 0] 39)
  have z0 : (w.alloc (.cells #[.slice none 0 0, .slice none 0 0] 39)).heap.size = w.heap.size + 1 := by simp
  have hX := (h.below b0).frame (F' := fun k cs => k = w.heap.size ∧ cs = #[.slice none 0 0, .slice none 0 0]) (by rintro k cs ⟨rfl, rfl⟩; exact r0)
  have hF : ∃ C' : LC, C.B = C'.B ∧ C.bM = C'.bM ∧ C'.F = (fun k cs => k = w.heap.size ∧ cs = #[.slice none 0 0, .slice none 0 0]) ∧ LaAt (w.alloc (.cells #[.slice none 0 0, .slice none 0 0] 39)) C' ve us P M := ⟨{ C with F := fun k cs => k = w.heap.size ∧ cs = #[.slice none 0 0, .slice none 0 0] }, rfl, rfl, rfl, hX⟩
  have HS := hid hs
  have BX := hid (b0.mono hBw)
  clear hX h hs b0 r0 z0
  obtain ⟨C', eB, eM, eF, hX⟩ := hF
  rw [eB] at HS BX hBw ⊢
  rw [eM]
  have HF := hid eF
  have HX := hid hX
  have HG := hid hG
  have HI := hid hI
  have hlC : P.threads.length < 1000 := by omega
  clear hG hI eB eM eF hX
  go_enter Tryd.func26, Tryd.ntmps26
  go_wp2_with fail
  have zX : w.heap.size ≤ (w.alloc (.cells #[.slice none 0 0, .slice none 0 0] 39)).heap.size := by simp
  generalize w.alloc (.cells #[.slice none 0 0, .slice none 0 0] 39) = X at *
  go_loopw [20] (fun p wr => ∃ (i : Nat), i ≤ l.length ∧ p = .int .i64 i ∧ Below C'.B w wr ∧ w.heap.size ≤ wr.heap.size ∧ ∃ ve us, LaAt wr C' ve us P (stepsTo P M (l.take i))) (fun p _ => l.length - (intOf p).toNat)
  case atStart => exact ⟨0, by omega, by go_num, BX.out, zX, ve, us, HX.out⟩
  case round =>
    obtain ⟨i, hi, rfl, hB, hz, ve1, us1, hL⟩ := hrel
    have HB := hid hB
    have HL := hid hL
    clear hB hL BX zX HX
    have HIN := hid (HG.out.steps (l.take i) M HI.out)
    by_cases hlt : i < l.length
    · obtain ⟨b, off, c, rfl, hb, hc, hcc⟩ := (HS.out.below (w := w) (w' := wr) HB.out : Sl wr C'.B 1 (.slice sa l.length sc) l.length (l.map (.int .i64))).intAt hlt
      have hbz : b < wr.heap.size := by have := HL.out.size; omega
      have HC := hid hc
      clear hc
      go_wp2_with fail
      refine (la_step HL.out (HG.out.can _ HIN.out) c).mono ?_
      rintro e w1 ⟨rfl, hb1, ve2, us2, hl2⟩
      have HB1 := hid (HB.out.trans hb1)
      have HL1 := hid hl2
      have hz1 := hb1.size
      clear hb1 hl2 hcc
      go_wp2_with fail
      go_roundw
      case rel => exact ⟨i + 1, by omega, by go_num, HB1.out, by omega, ve2, us2, by rw [take_step HC.out, stepsTo_snoc]; exact HL1.out⟩
      case measure => simp [intOf]; omega
    · obtain rfl : i = l.length := by omega
      rw [List.take_length] at HL HIN
      clear HS
      obtain ⟨w5, rfl⟩ : ∃ w5, w5 = wr := ⟨_, rfl⟩
      go_wp2_with fail
      go_loopg [33] (mu (stepsTo P M l)) (fun k _ wr => ∃ l2 ve us, (full = false → l2 = []) ∧ mu (stepsTo P M (l ++ l2)) ≤ k ∧ Below C'.B w wr ∧ w.heap.size ≤ wr.heap.size ∧ LaAt wr C' ve us P (stepsTo P M (l ++ l2)))
      case atStart => exact ⟨[], ve1, us1, fun _ => rfl, by rw [List.append_nil]; exact Nat.le_refl _, HB.out, hz, by rw [List.append_nil]; exact HL.out⟩
      case round =>
        obtain ⟨l2, ve3, us3, hfl, hk, hb, hz3, hl3⟩ := hrel
        clear HB HL HIN
        have HB := hid hb
        have HL := hid hl3
        have HK := hid hk
        have HFL := hid hfl
        have HIN := hid (HG.out.steps (l ++ l2) M HI.out)
        clear hb hl3 hk hfl
        cases full with
        | false =>
          obtain rfl := HFL.out rfl
          go_wp2_with fail
          refine (la_history HL.out (HG.out.can _ HIN.out).evs).mono ?_
          rintro e w1 ⟨ov, vv, rfl, ho, hv, hb1⟩
          obtain ⟨ao, co, rfl, -⟩ := ho.form2
          obtain ⟨ae, ce, rfl, -⟩ := hv.form2
          have r0 := HL.out.fr w.heap.size #[.slice none 0 0, .slice none 0 0] (by rw [HF.out]; exact ⟨rfl, rfl⟩)
          have r1 := row_below r0 hb1 (row_lt r0)
          have y0 := row_cell r1 0
          have y1 := row_cell r1 1
          have yf : ∀ j, w1.frozen? ⟨w.heap.size, j, none⟩ = false := fun j => row_free r1 j
          have l1 := row_lt r1
          have hBr := HL.out.size
          have HB1 := hid (HB.out.trans (hb1.mono hBr))
          have HO := hid (OwnF.base ho hBr)
          have HV := hid (OwnF.base hv hBr)
          have R1 := hid r1
          have HRO := hid (show RunOf P M l false (stepsTo P M (l ++ [])) from by rw [List.append_nil]; rfl)
          clear ho hv hb1 r0 r1 HL HB HIN HG
          obtain ⟨eo, heo⟩ : ∃ eo, eo = obsOf P := ⟨_, rfl⟩
          obtain ⟨ee, hee⟩ : ∃ ee, ee = (stepsTo P M (l ++ [])).W.evs := ⟨_, rfl⟩
          rw [← heo] at HO ⊢
          rw [← hee] at HV ⊢
          have HE := hid (And.intro heo hee)
          clear heo hee
          go_wp2
          have r4 := row2 (u1 := .slice ao eo.length co) (u2 := .slice ae ee.length ce) R1.out
          have c0 := row_cell r4 0
          have c1 := row_cell r4 1
          simp only [List.getElem?_toArray, List.getElem?_cons_zero, List.getElem?_cons_succ] at c0 c1
          refine bodyPost_ret (v := .tuple #[.agg #[.slice ao eo.length co, .slice ae ee.length ce], .nilIface]) (by simp [results, Tryd.results26, go_sem, c0, c1]) rfl ⟨_, _, _, rfl, HRO.out, ?_, ?_, ?_⟩
          · rw [← HE.out.1]; exact OwnF.box2 HO.out R1.out (by decide)
          · rw [← HE.out.2]; exact OwnF.box2 HV.out R1.out (by decide)
          · exact (HB1.out.setCell (p := ⟨w.heap.size, 0, none⟩) hBw _).setCell (p := ⟨w.heap.size, 1, none⟩) hBw _
        | true =>
          go_wp2_with fail
          refine (la_done HL.out).mono ?_
          rintro e w6 ⟨rfl, hb6⟩
          have hBr := HL.out.size
          have HL6 := hid (HL.out.below hb6)
          have HB6 := hid (HB.out.trans (hb6.mono hBr))
          have hz6 := hb6.size
          clear HL HB hb6
          cases hd : allDone P (stepsTo P M (l ++ l2)).W with
          | true =>
            have HL := hid HL6.out
            have HB := hid HB6.out
            have HD := hid hd
            clear HL6 HB6 hd
            go_wp2_with fail
            refine (la_history HL.out (HG.out.can _ HIN.out).evs).mono ?_
            rintro e w1 ⟨ov, vv, rfl, ho, hv, hb1⟩
            obtain ⟨ao, co, rfl, -⟩ := ho.form2
            obtain ⟨ae, ce, rfl, -⟩ := hv.form2
            have r0 := HL.out.fr w.heap.size #[.slice none 0 0, .slice none 0 0] (by rw [HF.out]; exact ⟨rfl, rfl⟩)
            have r1 := row_below r0 hb1 (row_lt r0)
            have y0 := row_cell r1 0
            have y1 := row_cell r1 1
            have yf : ∀ j, w1.frozen? ⟨w.heap.size, j, none⟩ = false := fun j => row_free r1 j
            have l1 := row_lt r1
            have hBr := HL.out.size
            have HB1 := hid (HB.out.trans (hb1.mono hBr))
            have HO := hid (OwnF.base ho hBr)
            have HV := hid (OwnF.base hv hBr)
            have R1 := hid r1
            have HRO := hid (show RunOf P M l true (stepsTo P M (l ++ l2)) from ⟨l2, rfl, HD.out⟩)
            clear ho hv hb1 r0 r1 HL HB HIN HG
            obtain ⟨eo, heo⟩ : ∃ eo, eo = obsOf P := ⟨_, rfl⟩
            obtain ⟨ee, hee⟩ : ∃ ee, ee = (stepsTo P M (l ++ l2)).W.evs := ⟨_, rfl⟩
            rw [← heo] at HO ⊢
            rw [← hee] at HV ⊢
            have HE := hid (And.intro heo hee)
            clear heo hee
            go_wp2
            have r4 := row2 (u1 := .slice ao eo.length co) (u2 := .slice ae ee.length ce) R1.out
            have c0 := row_cell r4 0
            have c1 := row_cell r4 1
            simp only [List.getElem?_toArray, List.getElem?_cons_zero, List.getElem?_cons_succ] at c0 c1
            refine bodyPost_ret (v := .tuple #[.agg #[.slice ao eo.length co, .slice ae ee.length ce], .nilIface]) (by simp [results, Tryd.results26, go_sem, c0, c1]) rfl ⟨_, _, _, rfl, HRO.out, ?_, ?_, ?_⟩
            · rw [← HE.out.1]; exact OwnF.box2 HO.out R1.out (by decide)
            · rw [← HE.out.2]; exact OwnF.box2 HV.out R1.out (by decide)
            · exact (HB1.out.setCell (p := ⟨w.heap.size, 0, none⟩) hBw _).setCell (p := ⟨w.heap.size, 1, none⟩) hBw _
          | false =>
            have HD := hid hd
            clear hd
            go_wp2_with fail
            obtain ⟨w7, rfl⟩ : ∃ w7, w7 = w6 := ⟨_, rfl⟩
            go_loopw [35] (fun p wr => ∃ (i : Nat), i ≤ P.threads.length ∧ p = .int .i64 i ∧ Below C'.B w wr ∧ w.heap.size ≤ wr.heap.size ∧ ∃ ve us, LaAt wr C' ve us P (stepsTo P M (l ++ l2 ++ upI i))) (fun p _ => P.threads.length - (intOf p).toNat)
            case atStart => exact ⟨0, by omega, by go_num, HB6.out, by omega, ve3, us3, by rw [show upI 0 = [] from rfl, List.append_nil]; exact HL6.out⟩
            case round =>
              obtain ⟨i, hi, rfl, hb, hz, ve4, us4, hl4⟩ := hrel
              have HB := hid hb
              have HL := hid hl4
              clear hb hl4 HL6 HB6 HIN
              have HIN := hid (HG.out.steps (l ++ l2 ++ upI i) M HI.out)
              by_cases hlt : i < P.threads.length
              · go_wp2_with fail
                refine (la_step HL.out (HG.out.can _ HIN.out) i).mono ?_
                rintro e w1 ⟨rfl, hb1, ve2, us2, hl2⟩
                have HB1 := hid (HB.out.trans hb1)
                have HL1 := hid hl2
                have hz1 := hb1.size
                clear hb1 hl2
                go_wp2_with fail
                go_roundw
                case rel => exact ⟨i + 1, by omega, by go_num, HB1.out, by omega, ve2, us2, by rw [upI_succ, ← List.append_assoc, stepsTo_snoc]; exact HL1.out⟩
                case measure => simp [intOf]; omega
              · obtain rfl : i = P.threads.length := by omega
                go_wp2_with fail
                have hless : mu (stepsTo P M (l ++ (l2 ++ upI P.threads.length))) < mu (stepsTo P M (l ++ l2)) := by
                  have := HG.out.less _ (HG.out.steps (l ++ l2) M HI.out) HD.out
                  rw [← List.append_assoc, stepsTo_app]
                  exact this
                go_roundg (mu (stepsTo P M (l ++ (l2 ++ upI P.threads.length))))
                case measure => have := HK.out; omega
                case rel => exact ⟨l2 ++ upI P.threads.length, ve4, us4, (fun h => by cases h), Nat.le_refl _, HB.out, hz, by rw [← List.append_assoc]; exact HL.out⟩
end
end Go.Proofs.YtogphaiomlfofaaDoor
