/- LatchApart: cut.Only with its closures. Conditions: those of each theorem, as typed. -/
import Derived.Test.YtogphaiomlfofaaDoorApAM
import Derived.Test.YtogphaiomlfofaaDoorApQM
import Derived.Test.YtogphaiomlfofaaDoorCloM
import Derived.Test.YtogphaiomlfofaaDoorTmPM
set_option linter.unusedVariables false
set_option linter.unusedSimpArgs false
namespace Go.Proofs.YtogphaiomlfofaaDoor
open Go.RowKit Go.Maps
set_option linter.unusedVariables false
set_option linter.unusedSimpArgs false
attribute [local irreducible] wpL RN.wpL

abbrev keepFn (p : Nat) : Value := .func (.func 10) #[] #[.pointer (some ⟨p, 0, none⟩)]
theorem ap_keep (x : Int) (h1 : 1 ≤ x) (h2 : x ≤ 12) (p t : Nat) (w : World) (hp : w.cell? ⟨p, 0, none⟩ = some (.int .i64 t)) (hl : p < w.heap.size) :
    Calls Tryd.prog 10 #[.int .i64 x, .pointer (some ⟨p, 0, none⟩)] w fun e w' => e = .returned (.bool ((x - 1) / 3 == (t : Int))) ∧ w = w' := by
  go_enter Tryd.func10, Tryd.ntmps10
  go_wp2_with fail
  refine (place_x x h1 h2 w).mono ?_
  rintro e w1 ⟨rfl, rfl⟩
  go_wp2
  go_ret
  exact ⟨rfl, rfl⟩
theorem ap_only1 (i : Int) (e : Ev) (h1 : 1 ≤ e.tx) (h2 : e.tx ≤ 12) (q p t : Nat) (w : World) (hq : w.cell? ⟨q, 0, none⟩ = some (keepFn p)) (hp : w.cell? ⟨p, 0, none⟩ = some (.int .i64 t)) (hl : q < w.heap.size) (hl2 : p < w.heap.size) :
    Calls Tryd.prog 20 #[.int .i64 i, evV e, .pointer (some ⟨q, 0, none⟩)] w fun x w' => x = .returned (.bool (isT t e)) ∧ Below w.heap.size w w' := by
  obtain ⟨e0, e1, e2, e3, e4, e5, e6, e7⟩ := e
  simp only at h1 h2
  have b0 := (Below.refl _ w).alloc (Nat.le_refl _) (.cells #[.int .i64 e0, .int .i64 e1, .int .i64 e2, .int .i64 e3, .int .i64 e4, .int .i64 e5, .int .i64 e6, .int .i64 e7] 50)
  have r0 := row_new w (.cells #[.int .i64 e0, .int .i64 e1, .int .i64 e2, .int .i64 e3, .int .i64 e4, .int .i64 e5, .int .i64 e6, .int .i64 e7] 50)
  have y1 := row_cell r0 1
  have l0 := row_lt r0
  simp only [List.getElem?_toArray, List.getElem?_cons_zero, List.getElem?_cons_succ] at y1
  have q1 := cell_below b0 hl hq
  have p1 := cell_below b0 hl2 hp
  have BB := hid b0
  go_enter Tryd.func20, Tryd.ntmps20
  go_wp2_with fail
  generalize w.alloc (.cells #[.int .i64 e0, .int .i64 e1, .int .i64 e2, .int .i64 e3, .int .i64 e4, .int .i64 e5, .int .i64 e6, .int .i64 e7] 50) = W at *
  refine (ap_keep e1 h1 h2 p t W p1 (by omega)).mono ?_
  rintro e w1 ⟨rfl, rfl⟩
  go_wp2
  go_ret
  exact ⟨rfl, BB.out⟩
abbrev onlyFn (q : Nat) : Value := .func (.func 20) #[] #[.pointer (some ⟨q, 0, none⟩)]
set_option maxRecDepth 100000 in
set_option maxHeartbeats 4000000 in
theorem ap_kept (ov vv : Value) (os : List Ob) (es : List Ev) (q p t : Nat) (w : World) (ho : Sl w w.heap.size 2 ov os.length (os.flatMap Ob.cells)) (he : Sl w w.heap.size 8 vv es.length (es.flatMap Ev.cells)) (hol : os.length ≤ 100000) (hel : es.length ≤ 100000)
    (hes : ∀ e ∈ es, 1 ≤ e.tx ∧ e.tx ≤ 12) (hq : w.cell? ⟨q, 0, none⟩ = some (keepFn p)) (hp : w.cell? ⟨p, 0, none⟩ = some (.int .i64 t)) (hl : q < w.heap.size) (hl2 : p < w.heap.size) :
    Calls Tryd.prog 19 #[.agg #[ov, vv], onlyFn q] w fun e w' => ∃ oa on oc va vn vc, e = .returned (.agg #[.slice oa on oc, .slice va vn vc]) ∧ OwnF Ev.cells 50 8 w' w.heap.size (.slice va vn vc) (es.filter (isT t)) ∧ Below w.heap.size w w' := by
  obtain ⟨ao, co, rfl, mo⟩ := ho.ex
  obtain ⟨ae, ce, rfl, me⟩ := he.ex
  have b0 : Below w.heap.size w ((w.alloc (.cells #[.slice ao os.length co, .slice ae es.length ce] 39)).alloc (.cells #[.slice none 0 0, .slice none 0 0] 39)) := ((Below.refl _ w).alloc (Nat.le_refl _) _).alloc (by simp) _
  have r0 := row_old (o := .cells #[.slice none 0 0, .slice none 0 0] 39) (row_new w (.cells #[.slice ao os.length co, .slice ae es.length ce] 39))
  have r1 := row_new' (w := w.alloc (.cells #[.slice ao os.length co, .slice ae es.length ce] 39)) (o := .cells #[.slice none 0 0, .slice none 0 0] 39) (g := w.heap.size + 1) (by simp)
  have z0 : ((w.alloc (.cells #[.slice ao os.length co, .slice ae es.length ce] 39)).alloc (.cells #[.slice none 0 0, .slice none 0 0] 39)).heap.size = w.heap.size + 2 := by simp
  have HO := hid ho
  have HE := hid he
  have HES := hid hes
  have HQ := hid hq
  have HP := hid hp
  clear ho he hes hq hp
  go_enter Tryd.func19, Tryd.ntmps19
  go_wp2_with fail
  generalize (w.alloc (.cells #[.slice ao os.length co, .slice ae es.length ce] 39)).alloc (.cells #[.slice none 0 0, .slice none 0 0] 39) = W at *
  have hwW : w.heap.size ≤ W.heap.size := by omega
  have B0 := hid b0
  have R0 := hid r0
  have R1 := hid r1
  refine (h_Clone (.slice ao os.length co) (.slice none 0 0) os [] W ((HO.out.below b0).more hwW) (OwnF.sl (OwnF.nil (f := Ev.cells) (e := 50) (sz := 8) W 0)) hol (by simp)).mono ?_
  rintro e W1 ⟨o2, v2, rfl, ho2, hv2, b1⟩
  obtain ⟨a2, c2, rfl⟩ := OwnF.slv ho2
  obtain ⟨a3, c3, rfl⟩ := OwnF.slv hv2
  have y0 := row_cell (row_below r0 b1 (by omega)) 0
  have y1 := row_cell (row_below r0 b1 (by omega)) 1
  simp only [List.getElem?_toArray, List.getElem?_cons_zero, List.getElem?_cons_succ] at y0 y1
  have hW1 : W.heap.size ≤ W1.heap.size := b1.size
  have lw1 : w.heap.size < W1.heap.size := by omega
  have r3 := row_new W1 (.cells #[.slice a2 os.length c2, .slice a3 ([] : List Ev).length c3] 39)
  have O3 := hid (OwnF.alloc hv2 (.cells #[.slice a2 os.length c2, .slice a3 ([] : List Ev).length c3] 39))
  have B3 := hid (b1.alloc hW1 (.cells #[.slice a2 os.length c2, .slice a3 ([] : List Ev).length c3] 39))
  clear b0 r0 r1 ho2 hv2 b1
  go_wp2_with fail
  generalize W1.alloc (.cells #[.slice a2 os.length c2, .slice a3 ([] : List Ev).length c3] 39) = X at *
  have lX : W1.heap.size < X.heap.size := row_lt r3
  generalize W1.heap.size = p5 at *
  have R3 := hid r3
  clear r3 y0 y1
  go_loopw [15] (fun pp wr => ∃ (i n : Nat) (a c : _), i ≤ es.length ∧ pp = .int .i64 i ∧ Below W.heap.size W wr ∧ wr.heap[p5]? = some (.cells #[.slice a2 os.length c2, .slice a n c] 39 (0, 0)) ∧ n = ((es.take i).filter (isT t)).length ∧ OwnF Ev.cells 50 8 wr W.heap.size (.slice a n c) ((es.take i).filter (isT t))) (fun pp _ => es.length - (intOf pp).toNat)
  case atStart => exact ⟨0, 0, a3, c3, by omega, by go_num, B3.out, R3.out, rfl, O3.out⟩
  case round =>
    obtain ⟨i, n, a, c, hi, rfl, hB, r3, hn, hO⟩ := hrel
    have zB := hB.size
    have l5 := row_lt r3
    obtain ⟨E, hE⟩ : ∃ E, E = (es.take i).filter (isT t) := ⟨_, rfl⟩
    have hnl : n ≤ 100000 := by have h2 := List.length_filter_le (isT t) (es.take i); rw [List.length_take] at h2; omega
    rw [← hE] at hO hn
    have hnE : E.length = n := hn.symm
    have HEQ := hid hE
    clear hE
    have HB := hid hB
    have HOO := hid hO
    have R5 := hid r3
    have HN := hid hn
    clear hB hO r3 hn
    by_cases hlt : i < es.length
    · obtain ⟨b, off, e, hat, hb, hx, hc⟩ := HE.out.atF Ev.len rfl hlt
      have htx := HES.out e (List.mem_of_getElem? hx)
      obtain ⟨e0, e1, e2, e3, e4, e5, e6, e7⟩ := e
      have HX := hid hx
      have hB9 := B0.out.trans (HB.out.mono hwW)
      have hbw : b < wr.heap.size := by omega
      have q0 : wr.cell? ⟨b, off + i * 8, none⟩ = some (.int .i64 e0) := cell_below hB9 hb (hc 0 (by decide))
      have q1 : wr.cell? ⟨b, off + i * 8 + 1, none⟩ = some (.int .i64 e1) := cell_below hB9 hb (hc 1 (by decide))
      have q2 : wr.cell? ⟨b, off + i * 8 + 2, none⟩ = some (.int .i64 e2) := cell_below hB9 hb (hc 2 (by decide))
      have q3 : wr.cell? ⟨b, off + i * 8 + 3, none⟩ = some (.int .i64 e3) := cell_below hB9 hb (hc 3 (by decide))
      have q4 : wr.cell? ⟨b, off + i * 8 + 4, none⟩ = some (.int .i64 e4) := cell_below hB9 hb (hc 4 (by decide))
      have q5 : wr.cell? ⟨b, off + i * 8 + 5, none⟩ = some (.int .i64 e5) := cell_below hB9 hb (hc 5 (by decide))
      have q6 : wr.cell? ⟨b, off + i * 8 + 6, none⟩ = some (.int .i64 e6) := cell_below hB9 hb (hc 6 (by decide))
      have q7 : wr.cell? ⟨b, off + i * 8 + 7, none⟩ = some (.int .i64 e7) := cell_below hB9 hb (hc 7 (by decide))
      subst hat
      have HBX := hid ((Below.refl wr.heap.size wr).alloc (Nat.le_refl _) (.cells #[.int .i64 e0, .int .i64 e1, .int .i64 e2, .int .i64 e3, .int .i64 e4, .int .i64 e5, .int .i64 e6, .int .i64 e7] 50))
      have rE := row_new wr (.cells #[.int .i64 e0, .int .i64 e1, .int .i64 e2, .int .i64 e3, .int .i64 e4, .int .i64 e5, .int .i64 e6, .int .i64 e7] 50)
      have HQ1 := hid (cell_below (hB9.trans (HBX.out.mono (by omega))) hl HQ.out)
      have HP1 := hid (cell_below (hB9.trans (HBX.out.mono (by omega))) hl2 HP.out)
      have RE := hid rE
      clear hc hx hB9 rE
      go_wp2_with fail
      generalize wr.alloc (.cells #[.int .i64 e0, .int .i64 e1, .int .i64 e2, .int .i64 e3, .int .i64 e4, .int .i64 e5, .int .i64 e6, .int .i64 e7] 50) = Y at *
      have lY : wr.heap.size < Y.heap.size := row_lt RE.out
      refine (ap_only1 i ⟨e0, e1, e2, e3, e4, e5, e6, e7⟩ htx.1 htx.2 q p t Y HQ1.out HP1.out (by omega) (by omega)).mono ?_
      rintro e Y2 ⟨rfl, bY⟩
      have BY := hid (HBX.out.trans (bY.mono (by omega)))
      have zY := bY.size
      have rE := row_below RE.out bY lY
      have x0 := row_cell rE 0
      have x1 := row_cell rE 1
      have x2 := row_cell rE 2
      have x3 := row_cell rE 3
      have x4 := row_cell rE 4
      have x5 := row_cell rE 5
      have x6 := row_cell rE 6
      have x7 := row_cell rE 7
      simp only [List.getElem?_toArray, List.getElem?_cons_zero, List.getElem?_cons_succ] at x0 x1 x2 x3 x4 x5 x6 x7
      have r5 := row_below R5.out BY.out l5
      have R6 := hid r5
      have w1 := row_cell r5 1
      have wf := row_free r5 1
      have l6 := row_lt r5
      have B6 := hid (HB.out.trans (BY.out.mono zB))
      have O6 := hid (OwnF.below HOO.out BY.out)
      have zz := B6.out.size
      clear bY rE r5
      simp only [List.getElem?_toArray, List.getElem?_cons_zero, List.getElem?_cons_succ] at w1
      cases hT : isT t ⟨e0, e1, e2, e3, e4, e5, e6, e7⟩ with
      | false =>
        have HF := hid (show (es.take (i + 1)).filter (isT t) = E from by rw [take_step HX.out, List.filter_append, List.filter_cons, hT, ← HEQ.out]; simp)
        go_wp2_with fail
        go_roundw
        case rel => exact ⟨i + 1, n, a, c, by omega, by go_num, B6.out, R6.out, by rw [HF.out]; exact HN.out, by rw [HF.out]; exact O6.out⟩
        case measure => simp [intOf]; omega
      | true =>
        have HF := hid (show (es.take (i + 1)).filter (isT t) = E ++ [⟨e0, e1, e2, e3, e4, e5, e6, e7⟩] from by rw [take_step HX.out, List.filter_append, List.filter_cons, hT, ← HEQ.out]; rfl)
        go_wp2_with (at_builtin; refine wpList_appF rfl _ _ _ rfl _ 64 Tryd.underlying37 infoE rfl O6.out ⟨e0, e1, e2, e3, e4, e5, e6, e7⟩ (by first | omega | (simp <;> omega)) (by rfl) (by rfl) (by first | rfl | simp) rfl (ev_one _) (by first | omega | (simp only [List.length_append, List.length_cons, List.length_nil, List.length_replicate]; omega)) (by first | omega | (simp only [List.length_append, List.length_cons, List.length_nil, List.length_replicate]; omega)) ?_; refine Stop.halt ?_)
        refine Stop.go ?_
        intro g4 c4 w4 o4 G4
        have B7 := B6.out.trans (G4.below B6.out.size fun q h => (OwnF.lt O6.out q h).1)
        have R7 := row_grw R6.out G4 (OwnF.neT O6.out R6.out (by decide))
        have f7 := row_free R7 1
        have y7 := row_cell R7 1
        have l7 := row_lt R7
        have HB7 := hid B7
        have HR7 := hid R7
        have HO7 := hid o4
        clear B7 R7 o4 G4 w1 wf x0 x1 x2 x3 x4 x5 x6 x7
        go_wp2_with fail
        go_roundw
        case rel => exact ⟨i + 1, n + 1, _, c4, by omega, by go_num, HB7.out.setCell (p := ⟨p5, 1, none⟩) hW1 _, row_set HR7.out 1 _, by rw [HF.out, List.length_append, hnE]; rfl, by rw [HF.out]; exact OwnF.base (OwnF.other (j := 1) HO7.out (OwnF.neT HO7.out HR7.out (by decide)) _) (by omega)⟩
        case measure => simp [intOf]; omega
    · obtain rfl : i = es.length := by omega
      have hEe : E = es.filter (isT t) := by rw [HEQ.out, List.take_length]
      have r2 := row_below R1.out HB.out (by omega)
      have e0 := row_cell R5.out 0
      have e1 := row_cell R5.out 1
      have y0 := row_cell r2 0
      have y1 := row_cell r2 1
      have yf : ∀ j, wr.frozen? ⟨w.heap.size + 1, j, none⟩ = false := fun j => row_free r2 j
      have l2 := row_lt r2
      simp only [List.getElem?_toArray, List.getElem?_cons_zero, List.getElem?_cons_succ] at e0 e1 y0 y1
      have R4 := hid r2
      have HEe := hid hEe
      clear r2 hEe
      go_wp2
      have r4 := row2 (u1 := .slice a2 os.length c2) (u2 := .slice a n c) R4.out
      have c0 := row_cell r4 0
      have c1 := row_cell r4 1
      simp only [List.getElem?_toArray, List.getElem?_cons_zero, List.getElem?_cons_succ] at c0 c1
      refine bodyPost_ret (v := .agg #[.slice a2 os.length c2, .slice a n c]) (by simp [results, Tryd.results19, go_sem, c0, c1]) rfl ⟨_, _, _, _, _, _, rfl, ?_, ?_⟩
      · rw [← HEe.out]; exact OwnF.base (OwnF.box2 HOO.out R4.out (by decide)) hwW
      · exact ((B0.out.trans (HB.out.mono hwW)).setCell (p := ⟨w.heap.size + 1, 0, none⟩) (by show w.heap.size ≤ w.heap.size + 1; omega) _).setCell (p := ⟨w.heap.size + 1, 1, none⟩) (by show w.heap.size ≤ w.heap.size + 1; omega) _
set_option maxRecDepth 100000 in
set_option maxHeartbeats 2000000 in
theorem ap_only (ov vv : Value) (os : List Ob) (es : List Ev) (p t : Nat) (w : World) (ho : Sl w w.heap.size 2 ov os.length (os.flatMap Ob.cells)) (he : Sl w w.heap.size 8 vv es.length (es.flatMap Ev.cells)) (hol : os.length ≤ 100000) (hel : es.length ≤ 100000)
    (hes : ∀ e ∈ es, 1 ≤ e.tx ∧ e.tx ≤ 12) (hp : w.cell? ⟨p, 0, none⟩ = some (.int .i64 t)) (hl2 : p < w.heap.size) :
    Calls Tryd.prog 9 #[.agg #[ov, vv], keepFn p] w fun e w' => ∃ oa on oc va vn vc, e = .returned (.agg #[.slice oa on oc, .slice va vn vc]) ∧ OwnF Ev.cells 50 8 w' w.heap.size (.slice va vn vc) (es.filter (isT t)) ∧ Below w.heap.size w w' := by
  obtain ⟨ao, co, rfl, mo⟩ := ho.ex
  obtain ⟨ae, ce, rfl, me⟩ := he.ex
  have b0 : Below w.heap.size w (((w.alloc (.cells #[.slice ao os.length co, .slice ae es.length ce] 39)).alloc (.cells #[keepFn p] 45)).alloc (.cells #[.slice none 0 0, .slice none 0 0] 39)) := (((Below.refl _ w).alloc (Nat.le_refl _) _).alloc (by simp) _).alloc (by simp <;> omega) _
  have rq : (((w.alloc (.cells #[.slice ao os.length co, .slice ae es.length ce] 39)).alloc (.cells #[keepFn p] 45)).alloc (.cells #[.slice none 0 0, .slice none 0 0] 39)).heap[w.heap.size + 1]? = some (.cells #[keepFn p] 45 (0, 0)) := row_old (row_new' (by simp))
  have r2 : (((w.alloc (.cells #[.slice ao os.length co, .slice ae es.length ce] 39)).alloc (.cells #[keepFn p] 45)).alloc (.cells #[.slice none 0 0, .slice none 0 0] 39)).heap[w.heap.size + 2]? = some (.cells #[.slice none 0 0, .slice none 0 0] 39 (0, 0)) := row_new' (by simp)
  have z0 : (((w.alloc (.cells #[.slice ao os.length co, .slice ae es.length ce] 39)).alloc (.cells #[keepFn p] 45)).alloc (.cells #[.slice none 0 0, .slice none 0 0] 39)).heap.size = w.heap.size + 3 := by simp
  have HO := hid ho
  have HE := hid he
  have HP := hid hp
  clear ho he hp
  go_enter Tryd.func9, Tryd.ntmps9
  go_wp2_with fail
  generalize ((w.alloc (.cells #[.slice ao os.length co, .slice ae es.length ce] 39)).alloc (.cells #[keepFn p] 45)).alloc (.cells #[.slice none 0 0, .slice none 0 0] 39) = W at *
  have hwW : w.heap.size ≤ W.heap.size := by omega
  have q0 := row_cell rq 0
  simp only [List.getElem?_toArray, List.getElem?_cons_zero] at q0
  refine (ap_kept (.slice ao os.length co) (.slice ae es.length ce) os es (w.heap.size + 1) p t W ((HO.out.below b0).more hwW) ((HE.out.below b0).more hwW) hol hel hes q0 (cell_below b0 hl2 HP.out) (by omega) (by omega)).mono ?_
  rintro e W1 ⟨oa, on, oc, va, vn, vc, rfl, hv2, b1⟩
  have HV := hid hv2
  have B1 := hid (b0.trans (b1.mono hwW))
  have r4 := row_below r2 b1 (by omega)
  have R4 := hid r4
  have y0 := row_cell r4 0
  have y1 := row_cell r4 1
  have yf : ∀ j, W1.frozen? ⟨w.heap.size + 2, j, none⟩ = false := fun j => row_free r4 j
  have l4 := row_lt r4
  simp only [List.getElem?_toArray, List.getElem?_cons_zero, List.getElem?_cons_succ] at y0 y1
  clear b0 rq r2 q0 hv2 b1 r4
  go_wp2
  have r5 := row2 (u1 := .slice oa on oc) (u2 := .slice va vn vc) R4.out
  have c0 := row_cell r5 0
  have c1 := row_cell r5 1
  simp only [List.getElem?_toArray, List.getElem?_cons_zero, List.getElem?_cons_succ] at c0 c1
  refine bodyPost_ret (v := .agg #[.slice oa on oc, .slice va vn vc]) (by simp [results, Tryd.results9, go_sem, c0, c1]) rfl ⟨_, _, _, _, _, _, rfl, ?_, ?_⟩
  · exact OwnF.base (OwnF.box2 HV.out R4.out (by decide)) hwW
  · exact (B1.out.setCell (p := ⟨w.heap.size + 2, 0, none⟩) (by show w.heap.size ≤ w.heap.size + 2; omega) _).setCell (p := ⟨w.heap.size + 2, 1, none⟩) (by show w.heap.size ≤ w.heap.size + 2; omega) _
end Go.Proofs.YtogphaiomlfofaaDoor
