/- The engine latch: Step, Done, History, Cells. Conditions: those of each theorem, as typed. -/
import Derived.Test.YtogphaiomlfofaaDoorToGM
import Derived.Test.YtogphaiomlfofaaDoorWlkM
set_option linter.unusedVariables false
set_option linter.unusedSimpArgs false
namespace Go.Proofs.YtogphaiomlfofaaDoor
open Go.RowKit Go.Maps
set_option linter.unusedVariables false
set_option linter.unusedSimpArgs false
attribute [local irreducible] wpL

def stepIn (P : Pg) (M : LM) (i : Nat) : LM := match M.W.ths[i]?, M.nx[i]? with
  | some t, some x => let y := doStep P M i t x (woR M.ws[i]?) (woS M.ws[i]?); { y.1 with nx := y.1.nx.set i y.2 }
  | _, _ => M
def stepTo (P : Pg) (M : LM) (i : Int) : LM := if wDone P M.W i then M else stepIn P M i.toNat
structure CanStep (P : Pg) (M : LM) : Prop where
  evs : M.W.evs.length ≤ 100000
  ces : ∀ c ∈ M.cs, -999999000 ≤ c.val ∧ c.val ≤ 999999000
  nxt : ∀ (i : Nat) (t : Th) (x : Nx), M.W.ths[i]? = some t → M.nx[i]? = some x → match x with
    | .none => t.begun = true → ∃ r s, M.ws[i]? = some (some (r, s))
    | .abort => ∃ r s, M.ws[i]? = some (some (r, s)) ∧ WoCan P r s
    | .rel l => l.length ≤ 4 ∧ ∀ k ∈ l, 0 ≤ k ∧ k < P.cells.length
    | .ans e => ∃ (r : MB) (s : MI) (k : Nat), M.ws[i]? = some (some (r, s)) ∧ e.obj = k ∧ k < P.cells.length ∧ WoCan P r s ∧ (-999999000 ≤ e.val ∧ e.val ≤ 999999000) ∧ t.begun = true
section
variable {w w' : World} {C : LC} {ve : Value} {P : Pg} {M : LM} {us : List (Value × Value)}
theorem LaAt.thsLen (h : LaAt w C ve us P M) : M.W.ths.length = P.threads.length := let ⟨_, h1, _⟩ := h.dr; h1.walk.ths.len
theorem LaPost.next {i : Nat} {M' : LM} {e : Ending} (h : LaPost C P M' .nilFunc w e w') : LaNext C P i (M', .none) w e w' := by
  obtain ⟨rfl, hb, ve', us', hl⟩ := h
  exact ⟨_, ve', us', rfl, hb, hl, rfl⟩
theorem NxAt.below {i : Nat} {v : Value} {x : Nx} (h : NxAt w C i ve v x) (hb : Below w.heap.size w w') : NxAt w' C i ve v x :=
  NxAt.keep h (fun p u hp => row_below hp hb (row_lt hp)) (fun p u hp => row_below hp hb (row_lt hp)) (fun p u hp => row_below hp hb (row_lt hp)) fun p cs hp he => ⟨row_below hp hb (row_lt hp), he⟩
set_option maxRecDepth 100000 in
theorem d_step (h : LaAt w C ve us P M) (hc : CanStep P M) (i : Nat) (hi : i < P.threads.length) (hd : wDone P M.W i = false) :
    Calls Tryd.prog 94 #[.pointer (some ⟨C.bD, 0, none⟩), .int .i64 i] w (LaPost C P (stepIn P M i) (.bool true) w) := by
  obtain ⟨t, ht⟩ : ∃ t, M.W.ths[i]? = some t := ⟨_, List.getElem?_eq_getElem (by rw [h.thsLen]; exact hi)⟩
  obtain ⟨v, x, hv, hx, hn⟩ := h.nxAt hi
  have hst : stepIn P M i = { (doStep P M i t x (woR M.ws[i]?) (woS M.ws[i]?)).1 with nx := (doStep P M i t x (woR M.ws[i]?) (woS M.ws[i]?)).1.nx.set i (doStep P M i t x (woR M.ws[i]?) (woS M.ws[i]?)).2 } := by
    unfold stepIn
    rw [ht, hx]
  rw [hst]
  have hcx := hc.nxt i t x ht hx
  have hdn : thDone P i t = false := by rw [← wDone_th ht]; exact hd
  cases x with
  | none =>
    obtain rfl : v = .nilFunc := hn
    exact d_stepGO h i hi hd hv fun w1 p1 p2 hb hg => la_goOn (h.below hb) i hi ht hc.evs hcx hg
  | abort =>
    obtain ⟨p1, p2, rfl, h1⟩ := id hn
    obtain ⟨r, s, hws, hcn⟩ := hcx
    have e1 : woR M.ws[i]? = r := by rw [hws]; rfl
    have e2 : woS M.ws[i]? = s := by rw [hws]; rfl
    rw [e1, e2]
    exact d_stepXX h i hi hd hv (enters_of Tryd.func38 (by kernel_rfl) rfl) fun w1 hb => (la_abort1 (h.below hb) i hi ht hc.evs hws hcn (h1.below hb)).mono fun e w2 he => LaPost.next he
  | rel l =>
    cases l with
    | nil =>
      obtain ⟨p1, p2, rfl, h1⟩ := id hn
      exact d_stepXX h i hi hd hv (enters_of Tryd.func40 (by kernel_rfl) rfl) fun w1 hb => (la_rel1 (h.below hb) i hi ht hc.evs (h1.below hb)).mono fun e w2 he => LaPost.next he
    | cons k l =>
      obtain ⟨p1, p2, p3, rfl, h1, h3⟩ := id hn
      exact d_stepXX h i hi hd hv (enters_of Tryd.func41 (by kernel_rfl) rfl) fun w1 hb => la_rel2 (t := t) (h.below hb) i hi k l hcx.1 hcx.2 (h1.below hb) (h3.below hb)
  | ans e =>
    obtain ⟨p1, p2, p3, rfl, h1, h3, -⟩ := id hn
    obtain ⟨r, s, k, hws, hk, hkn, hcn, hev, hbg⟩ := hcx
    have e1 : woR M.ws[i]? = r := by rw [hws]; rfl
    have e2 : woS M.ws[i]? = s := by rw [hws]; rfl
    rw [e1, e2]
    obtain ⟨ek, ex, eh, ej, eo, ey, ev, er⟩ := e
    simp only at hk
    subst hk
    exact d_stepXX h i hi hd hv (enters_of Tryd.func36 (by kernel_rfl) rfl) fun w1 hb => (la_ans1 (h.below hb) i hi ht hdn hbg hc.evs hws hcn k ek ex eh eo ey ev er hkn hev hc.ces (h1.below hb) (row_below h3 hb (row_lt h3))).mono fun e w2 he => LaPost.next he
set_option maxRecDepth 100000 in
theorem d_stepNo (h : LaAt w C ve us P M) (i : Int) (hd : wDone P M.W i = true) :
    Calls Tryd.prog 94 #[.pointer (some ⟨C.bD, 0, none⟩), .int .i64 i] w fun e w' => e = .returned (.bool false) ∧ w' = w.drew := by
  have hdr := h.drRow
  have d2 := row_cell hdr 2
  have lD := row_lt hdr
  obtain ⟨vs, hdr2, -, -⟩ := h.dr
  have hwd := hid (wk_done hdr2.walk i)
  rw [hd] at hwd
  clear h hdr hdr2
  go_enter Tryd.func94, Tryd.ntmps94
  go_wp2_with fail
  refine (hwd.out).mono ?_
  rintro e w1 ⟨rfl, rfl⟩
  go_wp2
  go_ret
  exact ⟨rfl, rfl⟩
theorem la_step (h : LaAt w C ve us P M) (hc : CanStep P M) (i : Int) :
    Calls Tryd.prog 91 #[.pointer (some ⟨C.bM, 0, none⟩), .int .i64 i] w (LaPost C P (stepTo P M i) (.bool !wDone P M.W i) w) := by
  have hin : Calls Tryd.prog 94 #[.pointer (some ⟨C.bD, 0, none⟩), .int .i64 i] w (LaPost C P (stepTo P M i) (.bool !wDone P M.W i) w) := by
    cases hd : wDone P M.W i with
    | true =>
      have : stepTo P M i = M := by unfold stepTo; rw [hd]; rfl
      rw [this]
      refine (d_stepNo h i hd).mono ?_
      rintro e w1 ⟨rfl, rfl⟩
      exact ⟨rfl, (Below.refl _ _).drew, ve, us, h.below (Below.refl _ _).drew⟩
    | false =>
      obtain ⟨k, rfl, hk⟩ := wDone_in h.thsLen hd
      have : stepTo P M k = stepIn P M k := by unfold stepTo; rw [hd]; rfl
      rw [this]
      exact d_step h hc k hk hd
  have d0 := row_cell h.row 0
  have lM := row_lt h.row
  have HI := hid hin
  clear hin h
  generalize stepTo P M i = y at *
  generalize (!wDone P M.W i) = b at *
  go_enter Tryd.func91, Tryd.ntmps91
  go_wp2_with fail
  refine (HI.out).mono ?_
  rintro e w1 ⟨rfl, hb, ve', us', hla⟩
  have HB := hid hb
  have HL := hid hla
  clear hb hla d0 HI
  go_wp2
  go_ret
  exact ⟨rfl, HB.out, ve', us', HL.out⟩
theorem la_done (h : LaAt w C ve us P M) : Calls Tryd.prog 89 #[.pointer (some ⟨C.bM, 0, none⟩)] w fun e w' => e = .returned (.bool (allDone P M.W)) ∧ Below w.heap.size w w' := by
  have d0 := row_cell h.row 0
  have lM := row_lt h.row
  obtain ⟨vs, hdr2, -, -⟩ := h.dr
  have HI := hid (d_done hdr2)
  clear h hdr2
  generalize allDone P M.W = b at *
  go_enter Tryd.func89, Tryd.ntmps89
  go_wp2_with fail
  refine (HI.out).mono ?_
  rintro e w1 ⟨rfl, hb⟩
  have HB := hid hb
  clear hb d0 HI
  go_wp2
  go_ret
  exact ⟨rfl, HB.out⟩
theorem la_history (h : LaAt w C ve us P M) (hl : M.W.evs.length ≤ 100000) : Calls Tryd.prog 90 #[.pointer (some ⟨C.bM, 0, none⟩)] w (HistRet (obsOf P) M.W.evs w) := by
  have d0 := row_cell h.row 0
  have lM := row_lt h.row
  obtain ⟨vs, hdr2, -, -⟩ := h.dr
  have b0 : Below w.heap.size w (w.alloc (.cells #[.slice none 0 0, .slice none 0 0] 39)) := (Below.refl _ w).alloc (Nat.le_refl _) _
  have r0 := row_new w (.cells #[.slice none 0 0, .slice none 0 0] 39)
  have z0 : (w.alloc (.cells #[.slice none 0 0, .slice none 0 0] 39)).heap.size = w.heap.size + 1 := by simp
  have HI := hid (d_history (hdr2.below b0) hl)
  have B0 := hid b0
  have R0 := hid r0
  have Z0 := hid z0
  clear h hdr2 b0 r0 z0
  generalize obsOf P = os at *
  generalize M.W.evs = es at *
  go_enter Tryd.func90, Tryd.ntmps90
  go_wp2_with fail
  refine (HI.out).mono ?_
  clear HI
  generalize w.alloc (.cells #[.slice none 0 0, .slice none 0 0] 39) = X at *
  rintro e w1 ⟨ov, vv, rfl, ho, hv, hb⟩
  obtain ⟨ao, co, rfl, -⟩ := ho.form2
  obtain ⟨ae, ce, rfl, -⟩ := hv.form2
  have zX := Z0.out
  have r1 := row_below R0.out hb (by omega)
  have y0 := row_cell r1 0
  have y1 := row_cell r1 1
  have yf : ∀ j, w1.frozen? ⟨w.heap.size, j, none⟩ = false := fun j => row_free r1 j
  have l1 := row_lt r1
  have HB := hid (B0.out.trans (hb.mono (by omega)))
  have HO := hid (OwnF.base ho (show w.heap.size ≤ X.heap.size by omega))
  have HV := hid (OwnF.base hv (show w.heap.size ≤ X.heap.size by omega))
  have R1 := hid r1
  clear hb ho hv r1 zX d0 B0 R0 Z0
  go_wp2
  have r4 := row2 (u1 := .slice ao os.length co) (u2 := .slice ae es.length ce) R1.out
  have c0 := row_cell r4 0
  have c1 := row_cell r4 1
  simp only [List.getElem?_toArray, List.getElem?_cons_zero, List.getElem?_cons_succ] at c0 c1
  refine bodyPost_ret (v := .agg #[.slice ao os.length co, .slice ae es.length ce]) (by simp [results, Tryd.results90, go_sem, c0, c1]) rfl ⟨_, _, rfl, ?_, ?_, ?_⟩
  · exact OwnF.box2 HO.out R1.out (by decide)
  · exact OwnF.box2 HV.out R1.out (by decide)
  · exact (HB.out.setCell (p := ⟨w.heap.size, 0, none⟩) (Nat.le_refl _) _).setCell (p := ⟨w.heap.size, 1, none⟩) (Nat.le_refl _) _
end
end Go.Proofs.YtogphaiomlfofaaDoor
