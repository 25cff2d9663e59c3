/- The threads of an engine: Start. The threads of an engine: what an answer leaves. The threads of an engine: Done, History. Events: the fields, the words. Events: a list of fields, words. Conditions: those of each theorem, as typed. Merged by program out of 5 texts. -/
import Derived.Test.YtogphaiomlfofaaGreatDoorQM09
set_option linter.unusedVariables false
set_option linter.unusedSimpArgs false
namespace Go.Proofs.YtogphaiomlfofaaGreatDoor
open Go.RowKit
set_option linter.unusedVariables false
set_option linter.unusedSimpArgs false
attribute [local irreducible] wpL

theorem infoSt : (Tryz.prog.info? 159).map (fun i => (i.zero, i.size, i.bytes)) = some (some .nilFunc, 1, 8) := by kernel_rfl
theorem WkAt.base {w : World} {B B' bW gT : Nat} {vc vt ve : Value} {P : Pg} {S : Wst} (h : WkAt w B bW gT vc vt ve P S) (hB : B' ≤ B) : WkAt w B' bW gT vc vt ve P S :=
  ⟨h.row, Nat.le_trans hB h.hB, OwnF.base h.cells hB, h.thr.map2 hB (fun _ h => OwnF.base h hB) (fun _ h => OwnF.base h hB) (fun _ _ h => OwnF.base h hB), OwnF.base h.ths hB, OwnF.base h.evs hB, h.ok, h.tok⟩
structure DrAt (w : World) (B bD bW gT gN : Nat) (vc vt ve pc pt rf : Value) (P : Pg) (S : Wst) (nx : List Value) : Prop where
  row : w.heap[bD]? = some (.cells #[pc, pt, .pointer (some ⟨bW, 0, none⟩), .slice (some ⟨gN, 0, none⟩) P.threads.length P.threads.length, rf] 157 (0, 0))
  hB : B ≤ bD
  walk : WkAt w B bW gT vc vt ve P S
  pcells : OwnI w B pc P.cells
  pthr : OwnThr w B pt P.threads
  next : OwnF valC 159 1 w B (.slice (some ⟨gN, 0, none⟩) P.threads.length P.threads.length) nx
theorem DrAt.below {w w' : World} {B bD bW gT gN : Nat} {vc vt ve pc pt rf : Value} {P : Pg} {S : Wst} {nx : List Value} (h : DrAt w B bD bW gT gN vc vt ve pc pt rf P S nx) (hb : Below w.heap.size w w') : DrAt w' B bD bW gT gN vc vt ve pc pt rf P S nx :=
  ⟨row_below h.row hb (row_lt h.row), h.hB, h.walk.below hb, OwnF.below h.pcells hb, h.pthr.below hb, OwnF.below h.next hb⟩
def DStartRet (P : Pg) (ev rf : Value) (w : World) (e : Ending) (w' : World) : Prop :=
  (¬ ValidIs P ∧ e = .returned (.tuple #[.pointer none, ev]) ∨ ValidIs P ∧ ∃ bD bW gT gN vc vt pc pt, e = .returned (.tuple #[.pointer (some ⟨bD, 0, none⟩), .nilIface]) ∧ DrAt w' w.heap.size bD bW gT gN vc vt (.slice none 0 0) pc pt rf P ⟨List.replicate P.threads.length Th.zero, []⟩ (List.replicate P.threads.length .nilFunc)) ∧ Below w.heap.size w w'
def DStartMid (P : Pg) (w W : World) (rf : Value) (bW : Nat) (ac : Option Addr) (cc : Nat) (at' : Option Addr) (ct : Nat) : Exit → Act → World → Prop := fun e a' X =>
  ∃ (bD gN : Nat) (uc ut : Value), e = .normal ∧ a' = { tmps := #[(.agg #[.slice ac P.cells.length cc, .slice at' P.threads.length ct]), rf, .pointer (some ⟨w.heap.size, 0, none⟩), undef, .pointer (some ⟨bD, 0, none⟩), .nilIface, .pointer (some ⟨bW, 0, none⟩), .nilIface, .tuple #[.pointer (some ⟨bW, 0, none⟩), .nilIface], (.agg #[.slice ac P.cells.length cc, .slice at' P.threads.length ct]), .tuple #[.pointer (some ⟨bW, 0, none⟩), .nilIface], .pointer (some ⟨bW, 0, none⟩), .nilIface, .nilIface, .bool false, undef, (.agg #[.slice ac P.cells.length cc, .slice at' P.threads.length ct]), .agg #[uc, ut], .pointer (some ⟨bW, 0, none⟩), .pointer (some ⟨w.heap.size, 1, none⟩), (.slice at' P.threads.length ct), .int .i64 P.threads.length, .slice (some ⟨gN, 0, none⟩) P.threads.length P.threads.length, rf, .agg #[uc, ut, .pointer (some ⟨bW, 0, none⟩), .slice (some ⟨gN, 0, none⟩) P.threads.length P.threads.length, rf], .pointer (some ⟨bD, 0, none⟩)], defers := [] } ∧ X.heap[bD]? = some (.cells #[uc, ut, .pointer (some ⟨bW, 0, none⟩), .slice (some ⟨gN, 0, none⟩) P.threads.length P.threads.length, rf] 157 (0, 0)) ∧ W.heap.size ≤ bD ∧
    OwnI X W.heap.size uc P.cells ∧ OwnThr X W.heap.size ut P.threads ∧ OwnF valC 159 1 X W.heap.size (.slice (some ⟨gN, 0, none⟩) P.threads.length P.threads.length) (List.replicate P.threads.length .nilFunc) ∧ Below W.heap.size W X
set_option maxRecDepth 100000 in
set_option maxHeartbeats 2000000 in
theorem p_dStart (vc vt : Value) (P : Pg) (w : World) (h : PgIs w w.heap.size vc vt P) (fn : Fn) (fi ca : Array Value) (ev : Value) (hev : w.cell? ⟨10, 0, none⟩ = some ev) (hne : ∃ t v, ev = .iface t v) (h10 : 10 < w.heap.size) :
    Calls Tryz.prog 52 #[.agg #[vc, vt], .func fn fi ca] w (DStartRet P ev (.func fn fi ca) w) := by
  obtain ⟨ac, cc, rfl, mc⟩ := h.cells.ex
  obtain ⟨at', ct, rfl, mt⟩ := h.thr.ex
  obtain ⟨ty, va, rfl⟩ := hne
  have H := hid h
  have HE := hid hev
  clear h hev
  go_enter Tryz.func52, Tryz.ntmps52
  go_wp2_with fail
  have b0 : Below w.heap.size w (w.alloc (.cells #[.slice ac P.cells.length cc, .slice at' P.threads.length ct] 25)) := (Below.refl _ w).alloc (Nat.le_refl _) _
  have r0 := row_new w (.cells #[.slice ac P.cells.length cc, .slice at' P.threads.length ct] 25)
  have z0 : w.heap.size + 1 ≤ (w.alloc (.cells #[.slice ac P.cells.length cc, .slice at' P.threads.length ct] 25)).heap.size := by simp
  generalize w.alloc (.cells #[.slice ac P.cells.length cc, .slice at' P.threads.length ct] 25) = X at *
  refine (p_Start _ _ P X ((H.out.below b0).more (by omega)) (.iface ty va) (cell_below b0 h10 HE.out) ⟨_, _, rfl⟩ (by omega)).mono ?_
  rintro e W ⟨hv, b1⟩
  have zW := b1.size
  have d0 : W.cell? ⟨w.heap.size, 0, none⟩ = some (.slice ac P.cells.length cc) := cell_below b1 (by omega) (row_cell r0 0)
  have d1 : W.cell? ⟨w.heap.size, 1, none⟩ = some (.slice at' P.threads.length ct) := cell_below b1 (by omega) (row_cell r0 1)
  have B1 := hid (b0.trans (b1.mono (by omega)))
  have HW := hid ((H.out.below B1.out).more (B := w.heap.size) (B' := W.heap.size) (by omega))
  have lw : w.heap.size < W.heap.size := by omega
  clear b0 b1 r0 H HE
  rcases hv with ⟨hno, rfl⟩ | ⟨hok, bW, gT, vc, vt, rfl, hwk⟩
  case inl =>
    have HN := hid hno
    clear hno d0 d1
    go_wp2
    go_ret2
    exact ⟨.inl ⟨HN.out, rfl⟩, B1.out⟩
  case inr =>
    have HOK := hid hok
    have hn4 := hok.nums
    have HWK := hid hwk
    clear hok hwk
    go_wp2_with fail
    refine wp_mono (Q := DStartMid P w W (.func fn fi ca) bW ac cc at' ct) ?_ ?_
    ·
      refine RN.wp_region_t (W.heap.size) [1, 3, 0, 0, 1, 0, 3, 0, 0, 3, 0, 0] (.frk [0, 2, 3, 4, 5, 7] (.fin [1, 6, 8, 9, 10, 11]) (.fin [6, 1, 8, 9, 10, 11])) (by kernel_rfl) (by kernel_rfl) (by kernel_rfl) (by kernel_rfl) ?_
      simp only [RN.wpT, selX, guardAt, sD, sE, sF, sG]
      repeat (first | (refine RN.wpL_p (fun K hK => ?_); go_simp; refine hK _ _ ?_; clear hK K) | (apply RN.wpL_s; (intro w2 hw2; have hk1 := hw2.cell; have hk3 := hw2.1; clear hw2; go_simp; with_reducible rfl); simp only [Act.put, sA, sB, sC]) | (refine RN.wpL_nil ?_))
      refine ⟨?_, ?_⟩
      · -- the copy comes first
        refine RN.wpL_k (fun K hK => ?_)
        go_simp
        refine (p_Clone _ _ P _ (show PgIs W.drew W.drew.heap.size _ _ P from HW.out.below (Below.refl _ W).drew) HOK.out.ok).mono ?_
        rintro e X1 ⟨uc, ut, rfl, oc, ot, q1⟩
        refine hK _ _ (RN.KeepsN.of_below (q1.mono (by first | omega | exact Nat.le_refl _))) ?_
        clear hK K
        have q1 : Below W.heap.size W X1 := (Below.refl _ W).drew.trans q1
        have z1 := q1.size
        have oc : OwnI X1 W.heap.size uc P.cells := oc
        have ot : OwnThr X1 W.heap.size ut P.threads := ot
        obtain ⟨ua, uk, rfl, -⟩ := oc.form2
        obtain ⟨ta, tk, hut, -⟩ : ∃ a c, ut = .slice a P.threads.length c ∧ True := by
          obtain ⟨ts, h1, h2, -⟩ := ot
          obtain ⟨a, c, e, -⟩ := h1.form2
          exact ⟨a, c, by rw [e, h2], trivial⟩
        subst hut
        refine RN.wpL_k (fun K hK => ?_)
        refine wp_makeN (f := valC) (e := 159) (sz := 1) (B := W.heap.size) _ _ _ rfl _ 8 Tryz.underlying155 infoSt rfl rfl (by omega) (by omega) (by first | omega | exact Nat.le_refl _) (.nilFunc) rfl rfl (by decide) ?_
        intro X2 o2 q2 z2
        refine hK _ _ (RN.KeepsN.of_below (q2.mono (by first | omega | exact Nat.le_refl _))) ?_
        clear hK K
        have q3 := q1.trans (q2.mono z1)
        have O2 := hid o2
        have OC := hid (OwnF.below oc q2)
        have OT := hid (ot.below q2)
        have Q3 := hid q3
        have z3 := q3.size
        clear q1 q2 q3 oc ot o2
        repeat (first | (refine RN.wpL_p (fun K hK => ?_); go_simp; refine hK _ _ ?_; clear hK K) | (apply RN.wpL_s; (intro w2 hw2; have hk1 := hw2.cell; have hk3 := hw2.1; clear hw2; go_simp; with_reducible rfl); simp only [Act.put, sA, sB, sC]) | (refine RN.wpL_nil ?_))
        refine RN.wpL_k (fun K hK => ?_)
        go_simp
        refine hK _ _ (RN.KeepsN.alloc _ _ (by omega)) ?_
        clear hK K
        repeat (first | (refine RN.wpL_p (fun K hK => ?_); go_simp; refine hK _ _ ?_; clear hK K) | (apply RN.wpL_s; (intro w2 hw2; have hk1 := hw2.cell; have hk3 := hw2.1; clear hw2; go_simp; with_reducible rfl); simp only [Act.put, sA, sB, sC]) | (refine RN.wpL_nil ?_))
        exact ⟨X2.heap.size, X1.heap.size, _, _, rfl, rfl, row_new X2 _, z3, OwnF.alloc OC.out _, OT.out.alloc _, O2.out.alloc _, Q3.out.alloc z3 _⟩
      · -- the list of steps comes first
        refine RN.wpL_k (fun K hK => ?_)
        refine wp_makeN (f := valC) (e := 159) (sz := 1) (B := W.heap.size) _ _ _ rfl _ 8 Tryz.underlying155 infoSt rfl rfl (by omega) (by omega) (by first | omega | exact Nat.le_refl _) (.nilFunc) rfl rfl (by decide) ?_
        intro X2 o2 q2 z2
        refine hK _ _ (RN.KeepsN.of_below q2) ?_
        clear hK K
        have q2 : Below W.heap.size W X2 := (Below.refl _ W).drew.trans q2
        have z2 := q2.size
        refine RN.wpL_k (fun K hK => ?_)
        go_simp
        refine (p_Clone _ _ P _ ((HW.out.below q2).more z2) HOK.out.ok).mono ?_
        rintro e X1 ⟨uc, ut, rfl, oc, ot, q1⟩
        refine hK _ _ (RN.KeepsN.of_below (q1.mono (by first | omega | exact Nat.le_refl _))) ?_
        clear hK K
        have q3 := q2.trans (q1.mono z2)
        have O2 := hid (OwnF.below o2 q1)
        have z4 := q1.size
        have oc := OwnF.base oc z2
        have ot := ot.map2 z2 (fun _ h => OwnF.base h z2) (fun _ h => OwnF.base h z2) (fun _ _ h => OwnF.base h z2)
        obtain ⟨ua, uk, rfl, -⟩ := oc.form2
        obtain ⟨ta, tk, hut, -⟩ : ∃ a c, ut = .slice a P.threads.length c ∧ True := by
          obtain ⟨ts, h1, h2, -⟩ := ot
          obtain ⟨a, c, e, -⟩ := h1.form2
          exact ⟨a, c, by rw [e, h2], trivial⟩
        subst hut
        have OC := hid oc
        have OT := hid ot
        have Q3 := hid q3
        have z3 := q3.size
        clear q1 q2 q3 oc ot o2
        repeat (first | (refine RN.wpL_p (fun K hK => ?_); go_simp; refine hK _ _ ?_; clear hK K) | (apply RN.wpL_s; (intro w2 hw2; have hk1 := hw2.cell; have hk3 := hw2.1; clear hw2; go_simp; with_reducible rfl); simp only [Act.put, sA, sB, sC]) | (refine RN.wpL_nil ?_))
        refine RN.wpL_k (fun K hK => ?_)
        go_simp
        refine hK _ _ (RN.KeepsN.alloc _ _ (by omega)) ?_
        clear hK K
        repeat (first | (refine RN.wpL_p (fun K hK => ?_); go_simp; refine hK _ _ ?_; clear hK K) | (apply RN.wpL_s; (intro w2 hw2; have hk1 := hw2.cell; have hk3 := hw2.1; clear hw2; go_simp; with_reducible rfl); simp only [Act.put, sA, sB, sC]) | (refine RN.wpL_nil ?_))
        exact ⟨X1.heap.size, W.heap.size, _, _, rfl, rfl, row_new X1 _, z3, OwnF.alloc OC.out _, OT.out.alloc _, O2.out.alloc _, Q3.out.alloc z3 _⟩
    · rintro e a' X ⟨bD, gN, uc, ut, rfl, rfl, rw', hbw, oc, ot, oth, bx⟩
      have OC := hid oc
      have OT := hid ot
      have OH := hid oth
      have RW := hid rw'
      have BX := hid bx
      clear rw' oc ot oth bx d0 d1
      go_wp2
      go_ret2
      exact ⟨.inr ⟨HOK.out, bD, bW, gT, gN, vc, vt, uc, ut, rfl, RW.out, by omega, WkAt.base (HWK.out.below BX.out) (by omega), OwnF.base OC.out (by omega), OT.out.map2 (by omega) (fun _ h => OwnF.base h (by omega)) (fun _ h => OwnF.base h (by omega)) (fun _ _ h => OwnF.base h (by omega)), OwnF.base OH.out (by omega)⟩, B1.out.trans (BX.out.mono (by omega))⟩
end Go.Proofs.YtogphaiomlfofaaGreatDoor
namespace Go.Proofs.YtogphaiomlfofaaGreatDoor
open Go.RowKit
set_option linter.unusedVariables false
set_option linter.unusedSimpArgs false
attribute [local irreducible] wpL

theorem Kp.rowW {ev : Value} {w w' : World} {b : Nat} {cs : Array Value} {t : TypeId} {fz : Nat × Nat} (h : Kp Mw ev w w') (hb : w.heap[b]? = some (.cells cs t fz)) (h1 : t ≠ 206) (h2 : t ≠ 243) (h3 : t ≠ 46) : w'.heap[b]? = some (.cells cs t fz) :=
  h.cells b cs t fz hb (fun hm => by rcases hm with h | h; exact h1 h; exact h2 h) (fun ht => absurd ht h3)
theorem OwnF.kpW {α : Type} {f : α → List Value} {e : TypeId} {sz B : Nat} {v ev : Value} {l : List α} {w w' : World} (h : OwnF f e sz w B v l) (hk : Kp Mw ev w w') (h1 : e ≠ 206) (h2 : e ≠ 243) (h3 : e ≠ 46) : OwnF f e sz w' B v l :=
  OwnF.kp h hk (fun hm => by rcases hm with h | h; exact h1 h; exact h2 h) h3
theorem OwnThr.kpW {B : Nat} {v ev : Value} {l : List (List (List Ac))} {w w' : World} (h : OwnThr w B v l) (hk : Kp Mw ev w w') : OwnThr w' B v l :=
  h.kp hk (by unfold Mw; decide) (by unfold Mw; decide) (by unfold Mw; decide)
theorem DrAt.walked {w w' : World} {B bD bW gT gN : Nat} {vc vt ve ve' pc pt rf : Value} {P : Pg} {S S' : Wst} {nx : List Value} (h : DrAt w B bD bW gT gN vc vt ve pc pt rf P S nx) (hk : Kp Mw ve w w') (hw : WkAt w' B bW gT vc vt ve' P S') : DrAt w' B bD bW gT gN vc vt ve' pc pt rf P S' nx :=
  ⟨hk.rowW h.row (by decide) (by decide) (by decide), h.hB, hw, OwnF.kpW h.pcells hk (by decide) (by decide) (by decide), h.pthr.kpW hk, OwnF.kpW h.next hk (by decide) (by decide) (by decide)⟩
def AnsPost (B bD bW gT gN : Nat) (vc vt ve pc pt rf : Value) (P : Pg) (S : Wst) (nx : List Value) (i : Nat) (w : World) (r : Option (Th × Ev)) (x : Ending) (w' : World) : Prop :=
  x = .returned (.tuple #[]) ∧ Below B w w' ∧ Kp Mw ve w w' ∧ ∃ ve', DrAt w' B bD bW gT gN vc vt ve' pc pt rf P (match r with | none => S | some y => S.put i y) nx ∧ ∀ k, ve'.ownBlock = some k → ve.ownBlock = some k ∨ w.heap.size ≤ k
section
variable {w : World} {B bD bW gT gN : Nat} {vc vt ve pc pt rf : Value} {P : Pg} {S : Wst} {nx : List Value}
set_option maxRecDepth 100000 in
theorem d_answer (h : DrAt w B bD bW gT gN vc vt ve pc pt rf P S nx) (hBw : B ≤ w.heap.size) (i : Nat) (hi : i < P.threads.length) {t : Th} (ht : S.ths[i]? = some t) (val : Int) (abort : Bool) (hv : within9 val = true) (hv2 : ∀ a, (P.acts i t.tx)[t.act]? = some a → a.kind = 3 → t.adding = false → within9 (val + a.val) = true) (hl : S.evs.length ≤ 100000) :
    Calls Tryz.prog 125 #[.pointer (some ⟨bD, 0, none⟩), .int .i64 i, .int .i64 val, .bool abort] w (AnsPost B bD bW gT gN vc vt ve pc pt rf P S nx i w (ansOf P i t val abort)) := by
  have d2 : w.cell? ⟨bD, 2, none⟩ = some (.pointer (some ⟨bW, 0, none⟩)) := row_cell h.row 2
  have lD := row_lt h.row
  have H := hid h
  have hA := hid (wk_answer h.walk hBw i hi ht val abort hv hv2 hl)
  clear h hv2
  generalize ansOf P i t val abort = r at hA ⊢
  go_enter Tryz.func125, Tryz.ntmps125
  go_wp2_with fail
  refine (hA.out).mono ?_
  clear hA
  intro x w1 hx
  cases r with
  | none =>
    obtain ⟨rfl, hb⟩ := hx
    have HB := hid hb
    clear hb
    go_wp2
    go_end0
    exact ⟨rfl, HB.out.mono hBw, Kp.of_below HB.out, ve, H.out.below HB.out, fun k h => .inl h⟩
  | some y =>
    obtain ⟨rfl, ve', hw, hk, hb, ho⟩ := hx
    have HB := hid hb
    have HK := hid hk
    have HW := hid hw
    have HO := hid ho
    clear hb hk hw ho
    go_wp2
    go_end0
    exact ⟨rfl, HB.out, HK.out, ve', H.out.walked HK.out HW.out, HO.out⟩
end
end Go.Proofs.YtogphaiomlfofaaGreatDoor
namespace Go.Proofs.YtogphaiomlfofaaGreatDoor
open Go.RowKit
set_option linter.unusedVariables false
set_option linter.unusedSimpArgs false
attribute [local irreducible] wpL

theorem infoO : (Tryz.prog.info? 120).map (fun i => (i.zero, i.size, i.bytes)) = some (some (.agg #[.int .i64 0, .int .i64 0]), 2, 16) := by kernel_rfl
theorem ob_one (e : Ob) : ∀ u ∈ e.cells, u.oneCell' = true := by intro u hu; simp [Ob.cells] at hu; rcases hu with rfl | rfl <;> rfl
def allDone (P : Pg) (S : Wst) : Bool := (List.range P.threads.length).all fun i => wDone P S i
theorem OwnThr.form {w : World} {B : Nat} {v : Value} {l : List (List (List Ac))} (h : OwnThr w B v l) : ∃ a c, v = .slice a l.length c := by
  obtain ⟨ts, h1, h2, -⟩ := h
  obtain ⟨a, c, e, -⟩ := h1.form2
  exact ⟨a, c, by rw [e, h2]⟩
def obsOf (P : Pg) : List Ob := P.cells.map fun c => ⟨1, c⟩
def HistRet (os : List Ob) (es : List Ev) (w : World) (e : Ending) (w' : World) : Prop :=
  ∃ ov vv, e = .returned (.agg #[ov, vv]) ∧ OwnF Ob.cells 120 2 w' w.heap.size ov os ∧ OwnF Ev.cells 46 8 w' w.heap.size vv es ∧ Below w.heap.size w w'
section
variable {w : World} {B bD bW gT gN : Nat} {vc vt ve pc pt rf : Value} {P : Pg} {S : Wst} {nx : List Value}
set_option maxRecDepth 100000 in
theorem d_done (h : DrAt w B bD bW gT gN vc vt ve pc pt rf P S nx) :
    Calls Tryz.prog 65 #[.pointer (some ⟨bD, 0, none⟩)] w fun e w' => e = .returned (.bool (allDone P S)) ∧ Below w.heap.size w w' := by
  obtain ⟨at', ct, rfl⟩ := h.pthr.form
  have d1 : w.cell? ⟨bD, 1, none⟩ = some (.slice at' P.threads.length ct) := row_cell h.row 1
  have d2 : w.cell? ⟨bD, 2, none⟩ = some (.pointer (some ⟨bW, 0, none⟩)) := row_cell h.row 2
  have lD := row_lt h.row
  have hn4 := h.walk.ok.threads.2
  have H := hid h
  clear h
  go_enter Tryz.func65, Tryz.ntmps65
  go_wp2_with fail
  have D2 := hid d2
  clear d1 d2
  go_loopw [10] (fun p wr => ∃ i : Nat, i ≤ P.threads.length ∧ p = .int .i64 i ∧ Below w.heap.size w wr ∧ ∀ j : Nat, j < i → wDone P S j = true) (fun p _ => P.threads.length - (intOf p).toNat)
  case atStart => exact ⟨0, by omega, by go_num, Below.refl _ _, fun j hj => absurd hj (by omega)⟩
  case round =>
    obtain ⟨i, hi, rfl, hbw, hd⟩ := hrel
    have HBW := hid hbw
    have HD := hid hd
    clear hbw hd
    by_cases hlt : i < P.threads.length
    · have d2 := cell_below HBW.out lD D2.out
      have lDr : bD < wr.heap.size := by have := HBW.out.size; omega
      go_wp2_with fail
      refine (wk_done (H.out.walk.below HBW.out) i).mono ?_
      rintro e w1 ⟨rfl, rfl⟩
      cases hw : wDone P S i with
      | false =>
        go_wp2
        go_ret
        refine ⟨?_, HBW.out.drew⟩
        have : allDone P S = false := by
          unfold allDone
          rw [List.all_eq_false]
          exact ⟨i, List.mem_range.2 hlt, by simp [hw]⟩
        rw [this]; rfl
      | true =>
        go_wp2_with fail
        go_roundw
        case rel =>
          refine ⟨i + 1, by omega, by go_num, HBW.out.drew, fun j hj => ?_⟩
          rcases Nat.lt_or_eq_of_le (Nat.lt_succ_iff.1 hj) with h | rfl
          · exact HD.out j h
          · exact hw
        case measure => simp [intOf]; omega
    · obtain rfl : i = P.threads.length := by omega
      go_wp2
      go_ret
      refine ⟨?_, HBW.out⟩
      have : allDone P S = true := by
        unfold allDone
        rw [List.all_eq_true]
        exact fun j hj => HD.out j (List.mem_range.1 hj)
      rw [this]; rfl
set_option maxRecDepth 100000 in
set_option maxHeartbeats 1000000 in
theorem d_history (h : DrAt w B bD bW gT gN vc vt ve pc pt rf P S nx) (hl : S.evs.length ≤ 100000) :
    Calls Tryz.prog 58 #[.pointer (some ⟨bD, 0, none⟩)] w (HistRet (obsOf P) S.evs w) := by
  obtain ⟨ac, cc, rfl, -⟩ := h.pcells.form2
  have d0 : w.cell? ⟨bD, 0, none⟩ = some (.slice ac P.cells.length cc) := row_cell h.row 0
  have d2 : w.cell? ⟨bD, 2, none⟩ = some (.pointer (some ⟨bW, 0, none⟩)) := row_cell h.row 2
  have lD := row_lt h.row
  have hn4 := h.walk.ok.cells.2
  have HC := hid (show Sl w w.heap.size 1 (.slice ac P.cells.length cc) P.cells.length (P.cells.map (.int .i64)) from by rw [← flat_int]; exact h.pcells.sl)
  have D0 := hid d0
  have H := hid h
  clear h d0
  go_enter Tryz.func58, Tryz.ntmps58
  go_wp2_with fail
  have b0 : Below w.heap.size w (w.alloc (.cells #[.slice none 0 0, .slice none 0 0] 31)) := (Below.refl _ w).alloc (Nat.le_refl _) _
  have r0 := row_new w (.cells #[.slice none 0 0, .slice none 0 0] 31)
  have z0 : (w.alloc (.cells #[.slice none 0 0, .slice none 0 0] 31)).heap.size = w.heap.size + 1 := by simp
  generalize w.alloc (.cells #[.slice none 0 0, .slice none 0 0] 31) = X at *
  refine (wk_events (H.out.walk.below b0) hl).mono ?_
  rintro e W ⟨vv, rfl, oe, b1⟩
  obtain ⟨ae, ce, rfl, -⟩ := oe.form2
  have z1 := b1.size
  have r1 := row_below r0 b1 (by omega)
  have B1 := hid (b0.trans (b1.mono (by omega)))
  have OE := hid (OwnF.base oe (show w.heap.size ≤ X.heap.size by omega))
  have lo : w.heap.size < W.heap.size := by omega
  have lD1 : bD < W.heap.size := by omega
  have d0 := cell_below B1.out lD D0.out
  have R1 := hid r1
  clear b0 r0 oe d2 r1
  go_wp2_with fail
  have b2 : Below w.heap.size w (W.alloc (.cells #[.slice none 0 0, .slice ae S.evs.length ce] 31)) := B1.out.alloc (by omega) _
  have r2 := row_new W (.cells #[.slice none 0 0, .slice ae S.evs.length ce] 31)
  have r3 := row_old (o := .cells #[.slice none 0 0, .slice ae S.evs.length ce] 31) R1.out
  have o2 := OE.out.alloc (.cells #[.slice none 0 0, .slice ae S.evs.length ce] 31)
  have hob : (obsOf P).length = P.cells.length := by simp [obsOf]
  generalize W.alloc (.cells #[.slice none 0 0, .slice ae S.evs.length ce] 31) = Y at *
  have B2 := hid b2
  have R2 := hid r2
  have R3 := hid r3
  have O2 := hid o2
  clear b2 r2 r3 o2 d0
  go_loopw [18] (fun p wr => ∃ (i : Nat) (ov : Value), i ≤ P.cells.length ∧ p = .int .i64 i ∧ Below w.heap.size w wr ∧ wr.heap[W.heap.size]? = some (.cells #[ov, .slice ae S.evs.length ce] 31 (0, 0)) ∧ wr.heap[w.heap.size]? = some (.cells #[.slice none 0 0, .slice none 0 0] 31 (0, 0)) ∧ OwnF Ob.cells 120 2 wr w.heap.size ov ((obsOf P).take i) ∧ OwnF Ev.cells 46 8 wr w.heap.size (.slice ae S.evs.length ce) S.evs) (fun p _ => P.cells.length - (intOf p).toNat)
  case atStart => exact ⟨0, .slice none 0 0, by omega, by go_num, B2.out, R2.out, R3.out, OwnF.nil _ _, O2.out⟩
  case round =>
    obtain ⟨i, ov, hi, rfl, hB, hr2, hr3, hO, hV⟩ := hrel
    clear B2 R2 R3 O2
    obtain ⟨ao, co, rfl, -⟩ := hO.form2
    have hlo : ((obsOf P).take i).length = i := by rw [List.length_take]; omega
    rw [hlo] at hO hr2
    have e0 := row_cell hr2 0
    have ef := row_free hr2 0
    have e1 := row_cell hr2 1
    have lh := row_lt hr2
    have zB := hB.size
    have HB := hid hB
    have HR2 := hid hr2
    have HR3 := hid hr3
    have HO := hid hO
    have HV := hid hV
    clear hB hr2 hr3 hO hV
    by_cases hlt : i < P.cells.length
    · obtain ⟨b, off, c, rfl, hb, hc, hcc⟩ := HC.out.intAt hlt
      have hcc := cell_below HB.out hb hcc
      have hbz : b < wr.heap.size := by omega
      have hoc : (obsOf P)[i]? = some ⟨1, c⟩ := by simp [obsOf, hc]
      have HOC := hid hoc
      clear hoc hc e1
      go_wp2_with (at_builtin; refine wpList_appF rfl _ _ _ rfl _ 16 Tryz.underlying28 infoO rfl HO.out ⟨1, c⟩ (by first | omega | (simp <;> omega)) (by rfl) (by rfl) (by first | rfl | simp) rfl (ob_one _) (by first | omega | (simp only [List.length_append, List.length_cons, List.length_nil, List.length_replicate]; omega)) (by first | omega | (simp only [List.length_append, List.length_cons, List.length_nil, List.length_replicate]; omega)) ?_; refine Stop.halt ?_)
      refine Stop.go ?_
      intro g4 c4 w4 o4 G4
      have b4 := HB.out.trans (G4.below zB fun q h => (HO.out.lt q h).1)
      have q2 := row_grw HR2.out G4 (OwnF.neT HO.out HR2.out (by decide))
      have q3 := row_grw HR3.out G4 (OwnF.neT HO.out HR3.out (by decide))
      have oV := HV.out.grwT HO.out (by decide) G4
      have f6 := row_free q2 0
      have l6 := row_lt q2
      have e0 := row_cell q2 0
      have B4 := hid b4
      have Q2 := hid q2
      have Q3 := hid q3
      have OV := hid oV
      have O4 := hid o4
      clear b4 q2 q3 oV o4 G4 ef lh
      go_wp2_with fail
      go_roundw
      case rel =>
        refine ⟨i + 1, _, by omega, by go_num, B4.out.setCell (p := ⟨W.heap.size, 0, none⟩) (by show w.heap.size ≤ W.heap.size; omega) _, row_set Q2.out 0 _, row_other Q3.out (by omega), ?_, OwnF.other OV.out (OwnF.neT OV.out Q2.out (by decide)) _⟩
        rw [take_step HOC.out]
        exact OwnF.other O4.out (OwnF.neT O4.out Q2.out (by decide)) _
      case measure => simp [intOf]; omega
    · obtain rfl : i = P.cells.length := by omega
      have y0 := row_cell HR3.out 0
      have y1 := row_cell HR3.out 1
      have yf : ∀ j, wr.frozen? ⟨w.heap.size, j, none⟩ = false := fun j => row_free HR3.out j
      have l3 := row_lt HR3.out
      go_wp2
      have r4 := row2 (u1 := .slice ao P.cells.length co) (u2 := .slice ae S.evs.length ce) HR3.out
      have c0 := row_cell r4 0
      have c1 := row_cell r4 1
      simp only [List.getElem?_toArray, List.getElem?_cons_zero, List.getElem?_cons_succ] at c0 c1
      refine bodyPost_ret (v := .agg #[.slice ao P.cells.length co, .slice ae S.evs.length ce]) (by simp [results, Tryz.results58, go_sem, c0, c1]) rfl ⟨_, _, rfl, ?_, ?_, ?_⟩
      · have := OwnF.box2 (u1 := .slice ao P.cells.length co) (u2 := .slice ae S.evs.length ce) HO.out HR3.out (by decide)
        rwa [show (obsOf P).take P.cells.length = obsOf P from by rw [← hob, List.take_length]] at this
      · exact OwnF.box2 HV.out HR3.out (by decide)
      · exact (HB.out.setCell (p := ⟨w.heap.size, 0, none⟩) (Nat.le_refl _) _).setCell (p := ⟨w.heap.size, 1, none⟩) (Nat.le_refl _) _
end
end Go.Proofs.YtogphaiomlfofaaGreatDoor
namespace Go.Proofs.YtogphaiomlfofaaGreatDoor
open Go.RowKit
set_option linter.unusedVariables false
set_option linter.unusedSimpArgs false
attribute [local irreducible] wpL

structure Fd where
  f : FuncId
  tb : Int
  lo : Int
  hi : Int
def Fd.cells (x : Fd) : List Value := [.func (.func x.f) #[] #[], .int .i64 x.tb, .int .i64 x.lo, .int .i64 x.hi]
abbrev Fd.val (x : Fd) : Value := .agg #[.func (.func x.f) #[] #[], .int .i64 x.tb, .int .i64 x.lo, .int .i64 x.hi]
theorem Fd.len (x : Fd) : x.cells.length = 4 := rfl
theorem infoFd : (Tryz.prog.info? 222).map (fun i => (i.zero, i.size, i.bytes)) = some (some (.agg #[.nilFunc, .int .i64 0, .int .i64 0, .int .i64 0]), 4, 32) := by kernel_rfl
def fdTx : Fd := ⟨222, 0, 1, 1000⟩
theorem e_tx (w : World) : Calls Tryz.prog 180 #[] w fun e w' => e = .returned fdTx.val ∧ Below w.heap.size w w' := by
  have hb := (Below.refl w.heap.size w).alloc (Nat.le_refl _) (.cells #[.nilFunc, .int .i64 0, .int .i64 0, .int .i64 0] 222)
  go_enter Tryz.func180, Tryz.ntmps180
  go_wp2
  refine bodyPost_ret (v := fdTx.val) (by simp [results, Tryz.results180, go_sem, fdTx]) rfl ⟨rfl, ?_⟩
  exact (Below.refl w.heap.size w).alloc (Nat.le_refl _) _
theorem e_tx1 (b : Nat) (w : World) : Calls Tryz.prog 222 #[.pointer (some ⟨b, 0, none⟩)] w fun e w' => e = .returned (.pointer (some ⟨b, 1, none⟩)) ∧ w' = w := by
  go_enter Tryz.func222, Tryz.ntmps222
  go_wp2
  go_ret
  exact ⟨rfl, rfl⟩
def fdTh : Fd := ⟨223, 0, 0, 7⟩
theorem e_thread (w : World) : Calls Tryz.prog 181 #[] w fun e w' => e = .returned fdTh.val ∧ Below w.heap.size w w' := by
  have hb := (Below.refl w.heap.size w).alloc (Nat.le_refl _) (.cells #[.nilFunc, .int .i64 0, .int .i64 0, .int .i64 0] 222)
  go_enter Tryz.func181, Tryz.ntmps181
  go_wp2
  refine bodyPost_ret (v := fdTh.val) (by simp [results, Tryz.results181, go_sem, fdTh]) rfl ⟨rfl, ?_⟩
  exact (Below.refl w.heap.size w).alloc (Nat.le_refl _) _
theorem e_thread1 (b : Nat) (w : World) : Calls Tryz.prog 223 #[.pointer (some ⟨b, 0, none⟩)] w fun e w' => e = .returned (.pointer (some ⟨b, 2, none⟩)) ∧ w' = w := by
  go_enter Tryz.func223, Tryz.ntmps223
  go_wp2
  go_ret
  exact ⟨rfl, rfl⟩
def fdOb : Fd := ⟨224, 0, 0, 7⟩
theorem e_obj (w : World) : Calls Tryz.prog 183 #[] w fun e w' => e = .returned fdOb.val ∧ Below w.heap.size w w' := by
  have hb := (Below.refl w.heap.size w).alloc (Nat.le_refl _) (.cells #[.nilFunc, .int .i64 0, .int .i64 0, .int .i64 0] 222)
  go_enter Tryz.func183, Tryz.ntmps183
  go_wp2
  refine bodyPost_ret (v := fdOb.val) (by simp [results, Tryz.results183, go_sem, fdOb]) rfl ⟨rfl, ?_⟩
  exact (Below.refl w.heap.size w).alloc (Nat.le_refl _) _
theorem e_obj1 (b : Nat) (w : World) : Calls Tryz.prog 224 #[.pointer (some ⟨b, 0, none⟩)] w fun e w' => e = .returned (.pointer (some ⟨b, 3, none⟩)) ∧ w' = w := by
  go_enter Tryz.func224, Tryz.ntmps224
  go_wp2
  go_ret
  exact ⟨rfl, rfl⟩
def fdOp : Fd := ⟨225, 3, 1, 9⟩
theorem e_op (w : World) : Calls Tryz.prog 184 #[] w fun e w' => e = .returned fdOp.val ∧ Below w.heap.size w w' := by
  have hb := (Below.refl w.heap.size w).alloc (Nat.le_refl _) (.cells #[.nilFunc, .int .i64 0, .int .i64 0, .int .i64 0] 222)
  go_enter Tryz.func184, Tryz.ntmps184
  go_wp2
  refine bodyPost_ret (v := fdOp.val) (by simp [results, Tryz.results184, go_sem, fdOp]) rfl ⟨rfl, ?_⟩
  exact (Below.refl w.heap.size w).alloc (Nat.le_refl _) _
theorem e_op1 (b : Nat) (w : World) : Calls Tryz.prog 225 #[.pointer (some ⟨b, 0, none⟩)] w fun e w' => e = .returned (.pointer (some ⟨b, 4, none⟩)) ∧ w' = w := by
  go_enter Tryz.func225, Tryz.ntmps225
  go_wp2
  go_ret
  exact ⟨rfl, rfl⟩
def fdVa : Fd := ⟨227, 0, (-1000000000), 1000000000⟩
theorem e_val (w : World) : Calls Tryz.prog 186 #[] w fun e w' => e = .returned fdVa.val ∧ Below w.heap.size w w' := by
  have hb := (Below.refl w.heap.size w).alloc (Nat.le_refl _) (.cells #[.nilFunc, .int .i64 0, .int .i64 0, .int .i64 0] 222)
  go_enter Tryz.func186, Tryz.ntmps186
  go_wp2
  refine bodyPost_ret (v := fdVa.val) (by simp [results, Tryz.results186, go_sem, fdVa]) rfl ⟨rfl, ?_⟩
  exact (Below.refl w.heap.size w).alloc (Nat.le_refl _) _
theorem e_val1 (b : Nat) (w : World) : Calls Tryz.prog 227 #[.pointer (some ⟨b, 0, none⟩)] w fun e w' => e = .returned (.pointer (some ⟨b, 6, none⟩)) ∧ w' = w := by
  go_enter Tryz.func227, Tryz.ntmps227
  go_wp2
  go_ret
  exact ⟨rfl, rfl⟩
def fdRe : Fd := ⟨228, 4, 1, 3⟩
theorem e_ret (w : World) : Calls Tryz.prog 188 #[] w fun e w' => e = .returned fdRe.val ∧ Below w.heap.size w w' := by
  have hb := (Below.refl w.heap.size w).alloc (Nat.le_refl _) (.cells #[.nilFunc, .int .i64 0, .int .i64 0, .int .i64 0] 222)
  go_enter Tryz.func188, Tryz.ntmps188
  go_wp2
  refine bodyPost_ret (v := fdRe.val) (by simp [results, Tryz.results188, go_sem, fdRe]) rfl ⟨rfl, ?_⟩
  exact (Below.refl w.heap.size w).alloc (Nat.le_refl _) _
theorem e_ret1 (b : Nat) (w : World) : Calls Tryz.prog 228 #[.pointer (some ⟨b, 0, none⟩)] w fun e w' => e = .returned (.pointer (some ⟨b, 7, none⟩)) ∧ w' = w := by
  go_enter Tryz.func228, Tryz.ntmps228
  go_wp2
  go_ret
  exact ⟨rfl, rfl⟩
theorem e_list (v : Value) (hv : ∃ a n c, v = .slice a n c) (w : World) : Calls Tryz.prog 178 #[v] w fun e w' => e = .returned (.func (.func 179) #[] #[.pointer (some ⟨w.heap.size, 0, none⟩)]) ∧ w' = w.alloc (.cells #[v] 256) := by
  obtain ⟨a, n, c, rfl⟩ := hv
  go_enter Tryz.func178, Tryz.ntmps178
  go_wp2
  go_ret
  exact ⟨rfl, rfl⟩
theorem e_Of (k : Int) (hk : k = 1 ∨ k = 2) (w : World) : Calls Tryz.prog 111 #[.int .i64 k] w fun e w' => e = .returned (.int .i64 1) ∧ w' = w := by
  rcases hk with rfl | rfl <;>
  · go_enter Tryz.func111, Tryz.ntmps111
    go_wp2
    go_ret
    exact ⟨rfl, rfl⟩
theorem e_Keyed (k : Int) (hk : k = 1 ∨ k = 2) (w : World) : Calls Tryz.prog 116 #[.int .i64 k] w fun e w' => e = .returned (.bool false) ∧ w' = w := by
  rcases hk with rfl | rfl <;>
  · go_enter Tryz.func116, Tryz.ntmps116
    go_wp2
    go_ret
    exact ⟨rfl, rfl⟩
theorem e_Valued (k : Int) (hk : k = 1 ∨ k = 2) (w : World) : Calls Tryz.prog 117 #[.int .i64 k] w fun e w' => e = .returned (.bool (k == 2)) ∧ w' = w := by
  rcases hk with rfl | rfl <;>
  · go_enter Tryz.func117, Tryz.ntmps117
    go_wp2
    go_ret
    exact ⟨rfl, rfl⟩
end Go.Proofs.YtogphaiomlfofaaGreatDoor
namespace Go.Proofs.YtogphaiomlfofaaGreatDoor
open Go.RowKit
set_option linter.unusedVariables false
set_option linter.unusedSimpArgs false
attribute [local irreducible] wpL

abbrev fdZ : Value := .agg #[.nilFunc, .int .i64 0, .int .i64 0, .int .i64 0]
def FdRet (l : List Fd) (i : Nat) (w : World) (e : Ending) (w' : World) : Prop := e = .returned (match l[i]? with | some x => .tuple #[x.val, .bool true] | none => .tuple #[fdZ, .bool false]) ∧ Below w.heap.size w w'
section
variable {w : World}
set_option maxRecDepth 100000 in
theorem e_next (x : Ev) (i : Nat) (hi : i ≤ 100) (b : Nat) (v : Value) (l : List Fd) (h : w.heap[b]? = some (.cells #[v] 256 (0, 0))) (hs : Sl w w.heap.size 4 v l.length (l.flatMap Fd.cells)) :
    Calls Tryz.prog 179 #[evV x, .int .i64 i, .pointer (some ⟨b, 0, none⟩)] w (FdRet l i w) := by
  obtain ⟨a, c, rfl, -⟩ := hs.ex
  have d0 := row_cell h 0
  have lb := row_lt h
  have B0 := hid (((Below.refl w.heap.size w).alloc (Nat.le_refl _) (.cells #[.int .i64 x.kind, .int .i64 x.tx, .int .i64 x.thread, .int .i64 x.obj, .int .i64 x.op, .int .i64 x.key, .int .i64 x.val, .int .i64 x.ret] 46)))
  by_cases hlt : i < l.length
  · obtain ⟨g, off, y, rfl, hg, hy, hc⟩ := hs.atF Fd.len rfl hlt
    have c0 : w.cell? ⟨g, off + i * 4, none⟩ = some (.func (.func y.f) #[] #[]) := hc 0 (by decide)
    have c1 : w.cell? ⟨g, off + i * 4 + 1, none⟩ = some (.int .i64 y.tb) := hc 1 (by decide)
    have c2 : w.cell? ⟨g, off + i * 4 + 2, none⟩ = some (.int .i64 y.lo) := hc 2 (by decide)
    have c3 : w.cell? ⟨g, off + i * 4 + 3, none⟩ = some (.int .i64 y.hi) := hc 3 (by decide)
    unfold FdRet
    rw [hy]
    clear hs hc hy h
    generalize l.length = n at *
    go_enter Tryz.func179, Tryz.ntmps179
    go_wp2
    refine bodyPost_ret (v := .tuple #[y.val, .bool true]) (by simp [results, Tryz.results179, go_sem]) rfl ⟨rfl, ?_⟩
    exact B0.out.alloc (by simp) _
  · have hn : l[i]? = none := List.getElem?_eq_none (by omega)
    unfold FdRet
    rw [hn]
    clear hs h
    generalize l.length = n at *
    go_enter Tryz.func179, Tryz.ntmps179
    go_wp2
    refine bodyPost_ret (v := .tuple #[fdZ, .bool false]) (by simp [results, Tryz.results179, go_sem]) rfl ⟨rfl, ?_⟩
    exact B0.out.alloc (by simp) _
end

theorem e_answer1 {w : World} {b i : Nat} {s : ByteArray} (hi : i < 3) (h : w.heap[b]? = some (.cells #[.int .i64 i] 3 (0, 0))) (hs : w.cell? ⟨14, i, none⟩ = some (.string s)) (hl : 14 < w.heap.size) : Calls Tryz.prog 219 #[.pointer (some ⟨b, 0, none⟩)] w fun e w' => e = .returned (.string s) ∧ w' = w := by
  have d0 := row_cell h 0
  have lb := row_lt h
  have q1 : decide ((i : Int) < 0) = false := by simp
  have q2 : decide ((3 : Int) ≤ i) = false := by simp; omega
  have q3 : decide ((i : Int) ≥ 3) = false := by simp; omega
  have q4 : decide (3 ≤ i) = false := by simp; omega
  clear h
  go_enter Tryz.func219, Tryz.ntmps219
  go_wp2
  go_ret
  exact ⟨rfl, rfl⟩
theorem e_answer2 {w : World} {b i : Nat} {s : ByteArray} (hi : i < 3) (h : w.heap[b]? = some (.cells #[.int .i64 i] 3 (0, 0))) (hs : w.cell? ⟨14, i, none⟩ = some (.string s)) (hl : 14 < w.heap.size) : Calls Tryz.prog 215 #[.int .i64 i, .int .i64 3, .func (.func 219) #[] #[.pointer (some ⟨b, 0, none⟩)]] w fun e w' => e = .returned (.tuple #[.string s, .int .i64 3]) ∧ w' = w := by
  have q1 : decide ((i : Int) < 0) = false := by simp
  have q3 : decide ((i : Int) ≥ 3) = false := by simp; omega
  have HC := hid (e_answer1 hi h hs hl)
  clear h hs
  go_enter Tryz.func215, Tryz.ntmps215
  go_wp2_with fail
  refine (HC.out).mono ?_
  rintro e w1 ⟨rfl, rfl⟩
  go_wp2
  go_ret2
  exact ⟨rfl, rfl⟩
theorem e_answer3 {w : World} {i : Nat} {s : ByteArray} (hi : i < 3) (hs : w.cell? ⟨14, i, none⟩ = some (.string s)) (hl : 14 < w.heap.size) : Calls Tryz.prog 177 #[.int .i64 4, .int .i64 i] w fun e w' => e = .returned (.tuple #[.string s, .int .i64 3]) ∧ Below w.heap.size w w' := by
  have b0 : Below w.heap.size w (w.alloc (.cells #[.int .i64 i] 3)) := (Below.refl _ w).alloc (Nat.le_refl _) _
  have HC := hid (e_answer2 hi (row_new w (.cells #[.int .i64 i] 3)) (cell_below b0 hl hs) (by simp; omega))
  have B0 := hid b0
  clear b0 hs
  go_enter Tryz.func177, Tryz.ntmps177
  go_wp2_with fail
  refine (HC.out).mono ?_
  rintro e w1 ⟨rfl, rfl⟩
  go_wp2
  go_ret2
  exact ⟨rfl, B0.out⟩
theorem e_answer {w : World} {i : Nat} {s : ByteArray} (hi : i < 3) (hs : w.cell? ⟨14, i, none⟩ = some (.string s)) (hl : 14 < w.heap.size) : Calls Tryz.prog 142 #[.int .i64 4, .int .i64 ((i : Int) + 1)] w fun e w' => e = .returned (.string s) ∧ Below w.heap.size w w' := by
  have q1 : max ((i : Int) + 1) 0 = (i : Int) + 1 := by omega
  have q2 : wrap64 ((i : Int) + 1 - 1) = (i : Int) := by rw [IntWalk.wrap64_in _ (by omega)]; omega
  have q3 : decide ((i : Int) + 1 < 0) = false := by simp <;> omega
  have q4 : decide (0 < (i : Int) + 1) = true := by simp <;> omega
  have HC := hid (e_answer3 hi hs hl)
  clear hs
  go_enter Tryz.func142, Tryz.ntmps142
  go_wp2_with fail
  refine (HC.out).mono ?_
  rintro e w1 ⟨rfl, hb⟩
  have HB := hid hb
  clear hb
  go_wp2
  go_ret
  exact ⟨rfl, HB.out⟩

theorem e_object1 {w : World} {b i : Nat} {s : ByteArray} (hi : i < 4) (h : w.heap[b]? = some (.cells #[.int .i64 i] 3 (0, 0))) (hs : w.cell? ⟨11, i, none⟩ = some (.string s)) (hl : 11 < w.heap.size) : Calls Tryz.prog 216 #[.pointer (some ⟨b, 0, none⟩)] w fun e w' => e = .returned (.string s) ∧ w' = w := by
  have d0 := row_cell h 0
  have lb := row_lt h
  have q1 : decide ((i : Int) < 0) = false := by simp
  have q2 : decide ((4 : Int) ≤ i) = false := by simp; omega
  have q3 : decide ((i : Int) ≥ 4) = false := by simp; omega
  have q4 : decide (4 ≤ i) = false := by simp; omega
  clear h
  go_enter Tryz.func216, Tryz.ntmps216
  go_wp2
  go_ret
  exact ⟨rfl, rfl⟩
theorem e_object2 {w : World} {b i : Nat} {s : ByteArray} (hi : i < 4) (h : w.heap[b]? = some (.cells #[.int .i64 i] 3 (0, 0))) (hs : w.cell? ⟨11, i, none⟩ = some (.string s)) (hl : 11 < w.heap.size) : Calls Tryz.prog 215 #[.int .i64 i, .int .i64 4, .func (.func 216) #[] #[.pointer (some ⟨b, 0, none⟩)]] w fun e w' => e = .returned (.tuple #[.string s, .int .i64 4]) ∧ w' = w := by
  have q1 : decide ((i : Int) < 0) = false := by simp
  have q3 : decide ((i : Int) ≥ 4) = false := by simp; omega
  have HC := hid (e_object1 hi h hs hl)
  clear h hs
  go_enter Tryz.func215, Tryz.ntmps215
  go_wp2_with fail
  refine (HC.out).mono ?_
  rintro e w1 ⟨rfl, rfl⟩
  go_wp2
  go_ret2
  exact ⟨rfl, rfl⟩
theorem e_object3 {w : World} {i : Nat} {s : ByteArray} (hi : i < 4) (hs : w.cell? ⟨11, i, none⟩ = some (.string s)) (hl : 11 < w.heap.size) : Calls Tryz.prog 177 #[.int .i64 1, .int .i64 i] w fun e w' => e = .returned (.tuple #[.string s, .int .i64 4]) ∧ Below w.heap.size w w' := by
  have b0 : Below w.heap.size w (w.alloc (.cells #[.int .i64 i] 3)) := (Below.refl _ w).alloc (Nat.le_refl _) _
  have HC := hid (e_object2 hi (row_new w (.cells #[.int .i64 i] 3)) (cell_below b0 hl hs) (by simp; omega))
  have B0 := hid b0
  clear b0 hs
  go_enter Tryz.func177, Tryz.ntmps177
  go_wp2_with fail
  refine (HC.out).mono ?_
  rintro e w1 ⟨rfl, rfl⟩
  go_wp2
  go_ret2
  exact ⟨rfl, B0.out⟩
theorem e_object {w : World} {i : Nat} {s : ByteArray} (hi : i < 4) (hs : w.cell? ⟨11, i, none⟩ = some (.string s)) (hl : 11 < w.heap.size) : Calls Tryz.prog 142 #[.int .i64 1, .int .i64 ((i : Int) + 1)] w fun e w' => e = .returned (.string s) ∧ Below w.heap.size w w' := by
  have q1 : max ((i : Int) + 1) 0 = (i : Int) + 1 := by omega
  have q2 : wrap64 ((i : Int) + 1 - 1) = (i : Int) := by rw [IntWalk.wrap64_in _ (by omega)]; omega
  have q3 : decide ((i : Int) + 1 < 0) = false := by simp <;> omega
  have q4 : decide (0 < (i : Int) + 1) = true := by simp <;> omega
  have HC := hid (e_object3 hi hs hl)
  clear hs
  go_enter Tryz.func142, Tryz.ntmps142
  go_wp2_with fail
  refine (HC.out).mono ?_
  rintro e w1 ⟨rfl, hb⟩
  have HB := hid hb
  clear hb
  go_wp2
  go_ret
  exact ⟨rfl, HB.out⟩
end Go.Proofs.YtogphaiomlfofaaGreatDoor
