/- The engine latch: the closure that goes on. Printed by wip/tools/geneof.py. Conditions: those of each theorem, as typed. -/
import Derived.Test.YtogphaiomlfofaaDoorToEM
set_option linter.unusedVariables false
set_option linter.unusedSimpArgs false
namespace Go.Proofs.YtogphaiomlfofaaDoor
open Go.RowKit Go.Maps
set_option linter.unusedVariables false
set_option linter.unusedSimpArgs false
attribute [local irreducible] wpL

section
variable {w w' : World} {C : LC} {ve : Value} {P : Pg} {M : LM} {us : List (Value × Value)}
def GoBox (C : LC) (i p1 p2 : Nat) (X : World) : Prop := X.heap[p1]? = some (.cells #[.pointer (some ⟨C.bD, 0, none⟩)] 66 (0, 0)) ∧ X.heap[p2]? = some (.cells #[.int .i64 i] 3 (0, 0))
theorem GoBox.below {i p1 p2 : Nat} (h : GoBox C i p1 p2 w) (hb : Below w.heap.size w w') : GoBox C i p1 p2 w' := ⟨row_below h.1 hb (row_lt h.1), row_below h.2 hb (row_lt h.2)⟩
theorem GoBox.kp {i p1 p2 : Nat} (h : GoBox C i p1 p2 w) (hk : Kp Mw ve w w') : GoBox C i p1 p2 w' := ⟨hk.rowW h.1 (by decide) (by decide) (by decide), hk.rowW h.2 (by decide) (by decide) (by decide)⟩
def GoMid (C : LC) (P : Pg) (us : List (Value × Value)) (w : World) (i p1 p2 : Nat) (M' : LM) (ek ex eh ej eo ey ev er : Int) : Exit → Act → World → Prop := fun e a' X =>
  ∃ b3 : Nat, e = .normal ∧ a' = { tmps := #[.pointer (some ⟨p1, 0, none⟩), .pointer (some ⟨p2, 0, none⟩), .nilFunc, .pointer (some ⟨b3, 0, none⟩), .bool true, .tuple #[evV ⟨ek, ex, eh, ej, eo, ey, ev, er⟩, .bool true], .pointer (some ⟨C.bD, 0, none⟩), .pointer (some ⟨C.bD, 0, none⟩), .pointer (some ⟨C.bD, 2, none⟩), .pointer (some ⟨C.bW, 0, none⟩), .int .i64 i, .tuple #[evV ⟨ek, ex, eh, ej, eo, ey, ev, er⟩, .bool true], evV ⟨ek, ex, eh, ej, eo, ey, ev, er⟩, .bool true, undef, undef, undef, undef, undef, undef, undef, undef, undef], defers := [] } ∧ X.heap[b3]? = some (.cells #[.int .i64 ek, .int .i64 ex, .int .i64 eh, .int .i64 ej, .int .i64 eo, .int .i64 ey, .int .i64 ev, .int .i64 er] 50 (0, 0)) ∧ Below C.B w X ∧ GoBox C i p1 p2 X ∧ ∃ ve', LaAt X C ve' us P M'
def GoMidZ (C : LC) (P : Pg) (us : List (Value × Value)) (w : World) (i p1 p2 : Nat) (M' : LM) : Exit → Act → World → Prop := fun e a' X =>
  ∃ b3 : Nat, e = .normal ∧ a' = { tmps := #[.pointer (some ⟨p1, 0, none⟩), .pointer (some ⟨p2, 0, none⟩), .nilFunc, .pointer (some ⟨b3, 0, none⟩), .bool false, .tuple #[evV ⟨0, 0, 0, 0, 0, 0, 0, 0⟩, .bool false], .pointer (some ⟨C.bD, 0, none⟩), .pointer (some ⟨C.bD, 0, none⟩), .pointer (some ⟨C.bD, 2, none⟩), .pointer (some ⟨C.bW, 0, none⟩), .int .i64 i, .tuple #[evV ⟨0, 0, 0, 0, 0, 0, 0, 0⟩, .bool false], evV ⟨0, 0, 0, 0, 0, 0, 0, 0⟩, .bool false, undef, undef, undef, undef, undef, undef, undef, undef, undef], defers := [] } ∧ Below C.B w X ∧ ∃ ve', LaAt X C ve' us P M'
theorem nextOf_begun {P : Pg} {i : Nat} {t : Th} {y : Th × Ev} (h : nextOf P i t = some y) (hk : y.2.kind ≠ 1) : t.begun = true := by
  cases hb : t.begun with
  | true => rfl
  | false =>
    unfold nextOf at h
    split at h
    · cases h
    · simp only [hb, if_true] at h
      obtain rfl := Option.some.inj h
      exact absurd (by simp [withTx, ownEv, hb, ev0]) hk
set_option maxRecDepth 100000 in
set_option maxHeartbeats 4000000 in
theorem la_goOn (h : LaAt w C ve us P M) (i : Nat) (hi : i < P.threads.length) {t : Th} (ht : M.W.ths[i]? = some t) (hl : M.W.evs.length ≤ 100000) (hw0 : t.begun = true → ∃ r s, M.ws[i]? = some (some (r, s))) {p1 p2 : Nat} (hp : GoBox C i p1 p2 w) :
    Calls Tryd.prog 98 #[.pointer (some ⟨p1, 0, none⟩), .pointer (some ⟨p2, 0, none⟩)] w (LaNext C P i (ownStep P M i t (woR M.ws[i]?)) w) := by
  have hn4 := h.ok.threads.2
  have d0 := row_cell hp.1 0
  have d1 := row_cell hp.2 0
  have l0 := row_lt hp.1
  have l1 := row_lt hp.2
  have hB := h.size
  obtain ⟨vs, hdr, -, -⟩ := h.dr
  have e2 : w.cell? ⟨C.bD, 2, none⟩ = some (.pointer (some ⟨C.bW, 0, none⟩)) := row_cell hdr.row 2
  have lD := row_lt hdr.row
  have H := hid h
  have HW := hid hdr.walk
  have HP := hid hp
  have HT := hid ht
  have hcA := hid (wk_next (hdr.walk.below (Below.refl _ w).drew) hB i hi ht hl)
  have hcB := hid (fun o => wk_next (hdr.walk.below (((Below.refl w.heap.size w).drew).alloc (Nat.le_refl _) o)) (by simp; omega) i hi ht hl)
  clear h hp hdr ht
  have hk4 : ∀ y, nextOf P i t = some y → y.2.kind ≠ 1 → ∃ r s, M.ws[i]? = some (some (r, s)) := fun y hy hk => hw0 (nextOf_begun hy hk)
  have hown : ownStep P M i t (woR M.ws[i]?) = (match nextOf P i t with | none => (M, .none) | some y => ({ M with W := M.W.put i y, ws := if y.2.kind = 1 then M.ws.set i (some ([], [])) else M.ws }, reactOf (woR M.ws[i]?) y.2)) := rfl
  rw [hown]
  clear hown hw0
  generalize nextOf P i t = r at *
  cases r with
  | none =>
    clear hk4
    go_enter Tryd.func98, Tryd.ntmps98
    go_wp2_with fail
    refine wp_mono (Q := GoMidZ C P us w i p1 p2 M) ?_ ?_
    ·
      refine RN.wp_region_t (w.heap.size) [1, 0, 0, 1, 1, 2, 0, 0, 0, 3, 3, 0] (.frk [0, 1, 2, 3, 4] (.fin [5, 6, 7, 8, 9, 10, 11]) (.fin [9, 5, 6, 7, 8, 10, 11])) (by kernel_rfl) (by kernel_rfl) (by kernel_rfl) (by kernel_rfl) ?_
      simp only [RN.wpT, selX, guardAt, sD, sE, sF, sG]
      repeat (first | (refine RN.wpL_p (fun K hK => ?_); go_simp; refine hK _ _ ?_; clear hK K) | (apply RN.wpL_s; (intro w2 hw2; have hk1 := hw2.cell; have hk3 := hw2.1; clear hw2; go_simp; with_reducible rfl); simp only [Act.put, sA, sB, sC]) | (refine RN.wpL_nil ?_))
      refine ⟨?_, ?_⟩
      · refine RN.wpL_e (fun K hK => ?_)
        go_simp
        refine (hcA.out).mono ?_
        rintro e X1 ⟨rfl, b1⟩
        refine hK _ _ ?_
        clear hK K
        have b1 : Below w.heap.size w X1 := (Below.refl _ w).drew.trans b1
        have z1 := b1.size
        repeat (first | (refine RN.wpL_p (fun K hK => ?_); go_simp; refine hK _ _ ?_; clear hK K) | (apply RN.wpL_s; (intro w2 hw2; have hk1 := hw2.cell; have hk3 := hw2.1; clear hw2; go_simp; with_reducible rfl); simp only [Act.put, sA, sB, sC]) | (refine RN.wpL_nil ?_))
        refine RN.wpL_k (fun K hK => ?_)
        go_simp
        refine hK _ _ (RN.KeepsN.alloc _ _ (by first | omega | exact Nat.le_refl _)) ?_
        clear hK K
        refine RN.wpL_k (fun K hK => ?_)
        go_simp
        refine hK _ _ (RN.KeepsN.refl _ _) ?_
        clear hK K
        repeat (first | (refine RN.wpL_p (fun K hK => ?_); go_simp; refine hK _ _ ?_; clear hK K) | (apply RN.wpL_s; (intro w2 hw2; have hk1 := hw2.cell; have hk3 := hw2.1; clear hw2; go_simp; with_reducible rfl); simp only [Act.put, sA, sB, sC]) | (refine RN.wpL_nil ?_))
        have b3 := b1.alloc z1 (.cells #[.int .i64 0, .int .i64 0, .int .i64 0, .int .i64 0, .int .i64 0, .int .i64 0, .int .i64 0, .int .i64 0] 50)
        exact ⟨X1.heap.size, rfl, rfl, b3.mono hB, ve, H.out.below b3⟩
      · refine RN.wpL_k (fun K hK => ?_)
        go_simp
        refine hK _ _ (RN.KeepsN.alloc _ _ (by first | omega | exact Nat.le_refl _)) ?_
        clear hK K
        refine RN.wpL_e (fun K hK => ?_)
        go_simp
        refine (hcB.out _).mono ?_
        rintro e X1 ⟨rfl, b1⟩
        refine hK _ _ ?_
        clear hK K
        have RZ := row_below (row_new' (w := w.drew) (o := .cells #[.int .i64 0, .int .i64 0, .int .i64 0, .int .i64 0, .int .i64 0, .int .i64 0, .int .i64 0, .int .i64 0] 50) (g := w.heap.size) rfl) b1 (by simp)
        have b1 : Below w.heap.size w X1 := ((Below.refl _ w).drew.alloc (Nat.le_refl _) _).trans (b1.mono (by simp))
        have z1 := b1.size
        have lz := row_lt RZ
        have yf : ∀ j, X1.frozen? ⟨w.heap.size, j, none⟩ = false := fun j => row_free RZ j
        have yc := row_cell RZ
        have y0 : X1.cell? ⟨w.heap.size, 0, none⟩ = some (.int .i64 0) := yc 0
        have y1 : X1.cell? ⟨w.heap.size, 1, none⟩ = some (.int .i64 0) := yc 1
        have y2 : X1.cell? ⟨w.heap.size, 2, none⟩ = some (.int .i64 0) := yc 2
        have y3 : X1.cell? ⟨w.heap.size, 3, none⟩ = some (.int .i64 0) := yc 3
        have y4 : X1.cell? ⟨w.heap.size, 4, none⟩ = some (.int .i64 0) := yc 4
        have y5 : X1.cell? ⟨w.heap.size, 5, none⟩ = some (.int .i64 0) := yc 5
        have y6 : X1.cell? ⟨w.heap.size, 6, none⟩ = some (.int .i64 0) := yc 6
        have y7 : X1.cell? ⟨w.heap.size, 7, none⟩ = some (.int .i64 0) := yc 7
        clear yc
        repeat (first | (refine RN.wpL_p (fun K hK => ?_); go_simp; refine hK _ _ ?_; clear hK K) | (apply RN.wpL_s; (intro w2 hw2; have hk1 := hw2.cell; have hk3 := hw2.1; clear hw2; go_simp; with_reducible rfl); simp only [Act.put, sA, sB, sC]) | (refine RN.wpL_nil ?_))
        refine RN.wpL_k (fun K hK => ?_)
        go_simp
        have WR6 := (((((((((Wr.start RZ).set 0 (.int .i64 0)).set 1 (.int .i64 0)).set 2 (.int .i64 0)).set 3 (.int .i64 0)).set 4 (.int .i64 0)).set 5 (.int .i64 0)).set 6 (.int .i64 0)).set 7 (.int .i64 0))
        generalize ((((((((X1).setCell ⟨w.heap.size, 0, none⟩ (.int .i64 0)).setCell ⟨w.heap.size, 1, none⟩ (.int .i64 0)).setCell ⟨w.heap.size, 2, none⟩ (.int .i64 0)).setCell ⟨w.heap.size, 3, none⟩ (.int .i64 0)).setCell ⟨w.heap.size, 4, none⟩ (.int .i64 0)).setCell ⟨w.heap.size, 5, none⟩ (.int .i64 0)).setCell ⟨w.heap.size, 6, none⟩ (.int .i64 0)).setCell ⟨w.heap.size, 7, none⟩ (.int .i64 0) = Y at *
        refine hK _ _ (RN.KeepsN.of_below (WR6.below (Nat.le_refl _))) ?_
        clear hK K
        repeat (first | (refine RN.wpL_p (fun K hK => ?_); go_simp; refine hK _ _ ?_; clear hK K) | (apply RN.wpL_s; (intro w2 hw2; have hk1 := hw2.cell; have hk3 := hw2.1; clear hw2; go_simp; with_reducible rfl); simp only [Act.put, sA, sB, sC]) | (refine RN.wpL_nil ?_))
        have b3 := b1.trans (WR6.below (Nat.le_refl _))
        exact ⟨w.heap.size, rfl, rfl, b3.mono hB, ve, H.out.below b3⟩
    · rintro e a' X ⟨b3, rfl, rfl, hb, ve', hla⟩
      have HB := hid hb
      have HL := hid hla
      clear hb hla d0 d1 e2 hcA hcB
      go_wp2
      go_ret
      exact ⟨_, ve', us, rfl, HB.out, HL.out, rfl⟩
  | some y =>
    obtain ⟨t', ek, ex, eh, ej, eo, ey, ev, er⟩ := y
    obtain ⟨Y0, hY0⟩ : ∃ Y0 : LM × Nx, Y0 = ({ M with W := M.W.put i (t', ⟨ek, ex, eh, ej, eo, ey, ev, er⟩), ws := if ek = 1 then M.ws.set i (some ([], [])) else M.ws }, reactOf (woR M.ws[i]?) ⟨ek, ex, eh, ej, eo, ey, ev, er⟩) := ⟨_, rfl⟩
    show Calls _ _ _ _ (LaNext C P i ({ M with W := M.W.put i (t', ⟨ek, ex, eh, ej, eo, ey, ev, er⟩), ws := if ek = 1 then M.ws.set i (some ([], [])) else M.ws }, reactOf (woR M.ws[i]?) ⟨ek, ex, eh, ej, eo, ey, ev, er⟩) w)
    rw [← hY0]
    have hk4 : ek ≠ 1 → ∃ r s, M.ws[i]? = some (some (r, s)) := hk4 _ rfl
    have HK4 := hid hk4
    clear hk4
    have HY0 := hid hY0
    clear hY0
    go_enter Tryd.func98, Tryd.ntmps98
    go_wp2_with fail
    refine wp_mono (Q := GoMid C P us w i p1 p2 { M with W := M.W.put i (t', ⟨ek, ex, eh, ej, eo, ey, ev, er⟩) } ek ex eh ej eo ey ev er) ?_ ?_
    ·
      refine RN.wp_region_t (w.heap.size) [1, 0, 0, 1, 1, 2, 0, 0, 0, 3, 3, 0] (.frk [0, 1, 2, 3, 4] (.fin [5, 6, 7, 8, 9, 10, 11]) (.fin [9, 5, 6, 7, 8, 10, 11])) (by kernel_rfl) (by kernel_rfl) (by kernel_rfl) (by kernel_rfl) ?_
      simp only [RN.wpT, selX, guardAt, sD, sE, sF, sG]
      repeat (first | (refine RN.wpL_p (fun K hK => ?_); go_simp; refine hK _ _ ?_; clear hK K) | (apply RN.wpL_s; (intro w2 hw2; have hk1 := hw2.cell; have hk3 := hw2.1; clear hw2; go_simp; with_reducible rfl); simp only [Act.put, sA, sB, sC]) | (refine RN.wpL_nil ?_))
      refine ⟨?_, ?_⟩
      · refine RN.wpL_e (fun K hK => ?_)
        go_simp
        refine (hcA.out).mono ?_
        rintro e X1 ⟨rfl, ve', hwk, hkp, hb, ho⟩
        refine hK _ _ ?_
        clear hK K
        have hkp : Kp Mw ve w X1 := (Kp.of_below (ev := ve) (Below.refl w.heap.size w).drew).trans hkp fun _ h => .inl h
        have hL := H.out.walked hkp hwk ho
        have z1 : w.heap.size ≤ X1.heap.size := hkp.size
        have hb : Below C.B w X1 := (Below.refl _ w).drew.trans hb
        repeat (first | (refine RN.wpL_p (fun K hK => ?_); go_simp; refine hK _ _ ?_; clear hK K) | (apply RN.wpL_s; (intro w2 hw2; have hk1 := hw2.cell; have hk3 := hw2.1; clear hw2; go_simp; with_reducible rfl); simp only [Act.put, sA, sB, sC]) | (refine RN.wpL_nil ?_))
        refine RN.wpL_k (fun K hK => ?_)
        go_simp
        refine hK _ _ (RN.KeepsN.alloc _ _ (by first | omega | exact Nat.le_refl _)) ?_
        clear hK K
        refine RN.wpL_k (fun K hK => ?_)
        go_simp
        refine hK _ _ (KeepsN.both (W := X1) (RN.KeepsN.alloc _ _ z1) (RN.KeepsN.alloc _ _ z1) (by simp)) ?_
        clear hK K
        repeat (first | (refine RN.wpL_p (fun K hK => ?_); go_simp; refine hK _ _ ?_; clear hK K) | (apply RN.wpL_s; (intro w2 hw2; have hk1 := hw2.cell; have hk3 := hw2.1; clear hw2; go_simp; with_reducible rfl); simp only [Act.put, sA, sB, sC]) | (refine RN.wpL_nil ?_))
        have b3 := (Below.refl X1.heap.size X1).alloc (Nat.le_refl _) (.cells #[.int .i64 ek, .int .i64 ex, .int .i64 eh, .int .i64 ej, .int .i64 eo, .int .i64 ey, .int .i64 ev, .int .i64 er] 50)
        exact ⟨X1.heap.size, rfl, rfl, row_new X1 _, hb.alloc (by omega) _, (HP.out.kp hkp).below b3, ve', hL.below b3⟩
      · refine RN.wpL_k (fun K hK => ?_)
        go_simp
        refine hK _ _ (RN.KeepsN.alloc _ _ (by first | omega | exact Nat.le_refl _)) ?_
        clear hK K
        refine RN.wpL_e (fun K hK => ?_)
        go_simp
        refine (hcB.out _).mono ?_
        rintro e X1 ⟨rfl, ve', hwk, hkp, hb, ho⟩
        refine hK _ _ ?_
        clear hK K
        have bz : Below w.heap.size w (w.drew.alloc (.cells #[.int .i64 0, .int .i64 0, .int .i64 0, .int .i64 0, .int .i64 0, .int .i64 0, .int .i64 0, .int .i64 0] 50)) := (Below.refl _ w).drew.alloc (Nat.le_refl _) _
        have RZ : X1.heap[w.heap.size]? = some (.cells #[.int .i64 0, .int .i64 0, .int .i64 0, .int .i64 0, .int .i64 0, .int .i64 0, .int .i64 0, .int .i64 0] 50 (0, 0)) := hkp.cells _ _ _ _ (row_new' (w := w.drew) (o := .cells #[.int .i64 0, .int .i64 0, .int .i64 0, .int .i64 0, .int .i64 0, .int .i64 0, .int .i64 0, .int .i64 0] 50) (g := w.heap.size) rfl) (by unfold Mw; decide) (fun _ e => by have := (HW.out.evs.lt _ e).2; omega)
        have hkp : Kp Mw ve w X1 := (Kp.of_below (ev := ve) bz).trans hkp fun _ h => .inl h
        have ho' : ∀ k, ve'.ownBlock = some k → ve.ownBlock = some k ∨ w.heap.size < k := fun k e => (ho k e).imp id fun h => by simp at h; omega
        have z1 : w.heap.size ≤ X1.heap.size := hkp.size
        have hb : Below C.B w X1 := (bz.mono hB).trans hb
        have lz := row_lt RZ
        have yf : ∀ j, X1.frozen? ⟨w.heap.size, j, none⟩ = false := fun j => row_free RZ j
        have yc := row_cell RZ
        have y0 : X1.cell? ⟨w.heap.size, 0, none⟩ = some (.int .i64 0) := yc 0
        have y1 : X1.cell? ⟨w.heap.size, 1, none⟩ = some (.int .i64 0) := yc 1
        have y2 : X1.cell? ⟨w.heap.size, 2, none⟩ = some (.int .i64 0) := yc 2
        have y3 : X1.cell? ⟨w.heap.size, 3, none⟩ = some (.int .i64 0) := yc 3
        have y4 : X1.cell? ⟨w.heap.size, 4, none⟩ = some (.int .i64 0) := yc 4
        have y5 : X1.cell? ⟨w.heap.size, 5, none⟩ = some (.int .i64 0) := yc 5
        have y6 : X1.cell? ⟨w.heap.size, 6, none⟩ = some (.int .i64 0) := yc 6
        have y7 : X1.cell? ⟨w.heap.size, 7, none⟩ = some (.int .i64 0) := yc 7
        clear yc
        repeat (first | (refine RN.wpL_p (fun K hK => ?_); go_simp; refine hK _ _ ?_; clear hK K) | (apply RN.wpL_s; (intro w2 hw2; have hk1 := hw2.cell; have hk3 := hw2.1; clear hw2; go_simp; with_reducible rfl); simp only [Act.put, sA, sB, sC]) | (refine RN.wpL_nil ?_))
        refine RN.wpL_k (fun K hK => ?_)
        go_simp
        have WR6 := (((((((((Wr.start RZ).set 0 (.int .i64 ek)).set 1 (.int .i64 ex)).set 2 (.int .i64 eh)).set 3 (.int .i64 ej)).set 4 (.int .i64 eo)).set 5 (.int .i64 ey)).set 6 (.int .i64 ev)).set 7 (.int .i64 er))
        generalize ((((((((X1).setCell ⟨w.heap.size, 0, none⟩ (.int .i64 ek)).setCell ⟨w.heap.size, 1, none⟩ (.int .i64 ex)).setCell ⟨w.heap.size, 2, none⟩ (.int .i64 eh)).setCell ⟨w.heap.size, 3, none⟩ (.int .i64 ej)).setCell ⟨w.heap.size, 4, none⟩ (.int .i64 eo)).setCell ⟨w.heap.size, 5, none⟩ (.int .i64 ey)).setCell ⟨w.heap.size, 6, none⟩ (.int .i64 ev)).setCell ⟨w.heap.size, 7, none⟩ (.int .i64 er) = Y at *
        refine hK _ _ (RN.KeepsN.of_below (WR6.below (Nat.le_refl _))) ?_
        clear hK K
        repeat (first | (refine RN.wpL_p (fun K hK => ?_); go_simp; refine hK _ _ ?_; clear hK K) | (apply RN.wpL_s; (intro w2 hw2; have hk1 := hw2.cell; have hk3 := hw2.1; clear hw2; go_simp; with_reducible rfl); simp only [Act.put, sA, sB, sC]) | (refine RN.wpL_nil ?_))
        obtain ⟨hw2, hk2⟩ := HW.out.wrR hwk hkp ho' rfl WR6
        exact ⟨w.heap.size, rfl, rfl, WR6.row, hb.trans (WR6.below hB), HP.out.kp hk2, ve', H.out.walked hk2 hw2 fun k e => (ho' k e).imp id fun h => by omega⟩
    · rintro e a' X ⟨b3, rfl, rfl, r3, hb, hgb, ve', hla⟩
      have HB := hid hb
      have HL := hid hla
      have x0 := row_cell hgb.1 0
      have x1 := row_cell hgb.2 0
      have lx0 := row_lt hgb.1
      have lx1 := row_lt hgb.2
      obtain ⟨vs', hdr, -⟩ := hla.dr
      have x4 : X.cell? ⟨C.bD, 4, none⟩ = some (.func (.func 29) #[.pointer (some ⟨C.bM, 0, none⟩)] #[]) := row_cell hdr.row 4
      have lxD := row_lt hdr.row
      have R3 := hid r3
      have qc := row_cell R3.out
      have q0 : X.cell? ⟨b3, 0, none⟩ = some (.int .i64 ek) := qc 0
      have q1 : X.cell? ⟨b3, 1, none⟩ = some (.int .i64 ex) := qc 1
      have q2 : X.cell? ⟨b3, 2, none⟩ = some (.int .i64 eh) := qc 2
      have q3 : X.cell? ⟨b3, 3, none⟩ = some (.int .i64 ej) := qc 3
      have q4 : X.cell? ⟨b3, 4, none⟩ = some (.int .i64 eo) := qc 4
      have q5 : X.cell? ⟨b3, 5, none⟩ = some (.int .i64 ey) := qc 5
      have q6 : X.cell? ⟨b3, 6, none⟩ = some (.int .i64 ev) := qc 6
      have q7 : X.cell? ⟨b3, 7, none⟩ = some (.int .i64 er) := qc 7
      clear qc
      have lx3 := row_lt R3.out
      clear hb hgb hla hdr r3 d0 d1 e2 hcA hcB
      go_wp2_with fail
      have hfin : Calls Tryd.prog 29 #[.pointer (some ⟨C.bM, 0, none⟩), .int .i64 i, evV ⟨ek, ex, eh, ej, eo, ey, ev, er⟩] X.drew (LaNext C P i Y0 X.drew) := by
        by_cases he : ek = 1
        · subst he
          rw [HY0.out]
          exact la_react1 (HL.out.below (Below.refl _ X).drew) i hi ex eh ej eo ey ev er
        · rw [HY0.out, if_neg he]
          obtain ⟨r, s, hws⟩ := HK4.out he
          exact la_react (HL.out.below (Below.refl _ X).drew) i hi ek ex eh ej eo ey ev er he hws
      have HF := hid hfin
      clear hfin
      refine wp_region_x [1, 0, 0, 1, 1, 1, 2, 0] [0, 1, 2, 3, 4, 5, 6, 7] (by kernel_rfl) (by kernel_rfl) rfl (by kernel_rfl) ?_
      simp only [selX, guardAt, sD, sE, sF, sG]
      repeat (first | (refine wpL_p (fun K hK => ?_); go_simp; refine hK _ _ ?_; clear hK K) | (apply wpL_s; (intro w2 hw2; have hk1 := hw2.cell; have hk3 := hw2.heap; clear hw2; go_simp; with_reducible rfl); simp only [Act.put, sA, sB, sC]) | (refine wpL_nil ?_))
      refine wpL_e (fun K hK => ?_)
      go_simp
      refine (HF.out).mono ?_
      rintro e X1 ⟨v, ve', us', rfl, hb, hla, hx⟩
      refine hK _ _ ?_
      clear hK K HF
      have HB1 := hid (HB.out.trans ((Below.refl C.B X).drew.trans hb))
      have HL1 := hid hla
      have HX1 := hid hx
      clear hb hla hx x0 x1 x4 q0 q1 q2 q3 q4 q5 q6 q7
      repeat (first | (refine wpL_p (fun K hK => ?_); go_simp; refine hK _ _ ?_; clear hK K) | (apply wpL_s; (intro w2 hw2; have hk1 := hw2.cell; have hk3 := hw2.heap; clear hw2; go_simp; with_reducible rfl); simp only [Act.put, sA, sB, sC]) | (refine wpL_nil ?_))
      go_wp2
      go_ret
      exact ⟨_, ve', us', rfl, HB1.out, HL1.out, HX1.out⟩
end
end Go.Proofs.YtogphaiomlfofaaDoor
