/- The threads of an engine: Start. The threads of an engine: what an answer leaves. The threads of an engine: Done, History. What the package's variables hold. Programs and lists of numbers that came in: how they lie in memory; a law's promise out of its walk. What the rows' lists of package-level variables give a walk; a world that meets them. A world that meets the rows' list of package-level variables. Conditions: those of each theorem, as typed. Merged by program out of 7 texts. -/
import Derived.Test.YtogphaiomlfofaaDoorQD09
import Derived.ProofKit
import Derived.ChangeSame
import Derived.ChangeSlices
import Derived.WideKeyArgs
import Derived.Deep.Slices
import Derived.Deep.SlicePairs
import Derived.Deep.Fields
import Derived.Test.YtogphaiomlfofaaDoorRows
import Derived.Lib.LaidTab
import Derived.Stop.LaidErr
import Derived.Deep.DeepHandedRow
import Derived.Deep.DeepWitnessRowRef
set_option linter.unusedVariables false
set_option linter.unusedSimpArgs false
namespace Go.Proofs.YtogphaiomlfofaaDoor
open Go.RowKit
set_option linter.unusedVariables false
set_option linter.unusedSimpArgs false
attribute [local irreducible] wpL

theorem infoSt : (Tryd.prog.info? 85).map (fun i => (i.zero, i.size, i.bytes)) = some (some .nilFunc, 1, 8) := by kernel_rfl
theorem WkAt.base {w : World} {B B' bW gT : Nat} {vc vt ve : Value} {P : Pg} {S : Wst} (h : WkAt w B bW gT vc vt ve P S) (hB : B' ≤ B) : WkAt w B' bW gT vc vt ve P S :=
  ⟨h.row, Nat.le_trans hB h.hB, OwnF.base h.cells hB, h.thr.map2 hB (fun _ h => OwnF.base h hB) (fun _ h => OwnF.base h hB) (fun _ _ h => OwnF.base h hB), OwnF.base h.ths hB, OwnF.base h.evs hB, h.ok, h.tok⟩
structure DrAt (w : World) (B bD bW gT gN : Nat) (vc vt ve pc pt rf : Value) (P : Pg) (S : Wst) (nx : List Value) : Prop where
  row : w.heap[bD]? = some (.cells #[pc, pt, .pointer (some ⟨bW, 0, none⟩), .slice (some ⟨gN, 0, none⟩) P.threads.length P.threads.length, rf] 83 (0, 0))
  hB : B ≤ bD
  walk : WkAt w B bW gT vc vt ve P S
  pcells : OwnI w B pc P.cells
  pthr : OwnThr w B pt P.threads
  next : OwnF valC 85 1 w B (.slice (some ⟨gN, 0, none⟩) P.threads.length P.threads.length) nx
theorem DrAt.below {w w' : World} {B bD bW gT gN : Nat} {vc vt ve pc pt rf : Value} {P : Pg} {S : Wst} {nx : List Value} (h : DrAt w B bD bW gT gN vc vt ve pc pt rf P S nx) (hb : Below w.heap.size w w') : DrAt w' B bD bW gT gN vc vt ve pc pt rf P S nx :=
  ⟨row_below h.row hb (row_lt h.row), h.hB, h.walk.below hb, OwnF.below h.pcells hb, h.pthr.below hb, OwnF.below h.next hb⟩
def DStartRet (P : Pg) (ev rf : Value) (w : World) (e : Ending) (w' : World) : Prop :=
  (¬ ValidIs P ∧ e = .returned (.tuple #[.pointer none, ev]) ∨ ValidIs P ∧ ∃ bD bW gT gN vc vt pc pt, e = .returned (.tuple #[.pointer (some ⟨bD, 0, none⟩), .nilIface]) ∧ DrAt w' w.heap.size bD bW gT gN vc vt (.slice none 0 0) pc pt rf P ⟨List.replicate P.threads.length Th.zero, []⟩ (List.replicate P.threads.length .nilFunc)) ∧ Below w.heap.size w w'
def DStartMid (P : Pg) (w W : World) (rf : Value) (bW : Nat) (ac : Option Addr) (cc : Nat) (at' : Option Addr) (ct : Nat) : Exit → Act → World → Prop := fun e a' X =>
  ∃ (bD gN : Nat) (uc ut : Value), e = .normal ∧ a' = { tmps := #[(.agg #[.slice ac P.cells.length cc, .slice at' P.threads.length ct]), rf, .pointer (some ⟨w.heap.size, 0, none⟩), undef, .pointer (some ⟨bD, 0, none⟩), .nilIface, .pointer (some ⟨bW, 0, none⟩), .nilIface, .tuple #[.pointer (some ⟨bW, 0, none⟩), .nilIface], (.agg #[.slice ac P.cells.length cc, .slice at' P.threads.length ct]), .tuple #[.pointer (some ⟨bW, 0, none⟩), .nilIface], .pointer (some ⟨bW, 0, none⟩), .nilIface, .nilIface, .bool false, undef, (.agg #[.slice ac P.cells.length cc, .slice at' P.threads.length ct]), .agg #[uc, ut], .pointer (some ⟨bW, 0, none⟩), .pointer (some ⟨w.heap.size, 1, none⟩), (.slice at' P.threads.length ct), .int .i64 P.threads.length, .slice (some ⟨gN, 0, none⟩) P.threads.length P.threads.length, rf, .agg #[uc, ut, .pointer (some ⟨bW, 0, none⟩), .slice (some ⟨gN, 0, none⟩) P.threads.length P.threads.length, rf], .pointer (some ⟨bD, 0, none⟩)], defers := [] } ∧ X.heap[bD]? = some (.cells #[uc, ut, .pointer (some ⟨bW, 0, none⟩), .slice (some ⟨gN, 0, none⟩) P.threads.length P.threads.length, rf] 83 (0, 0)) ∧ W.heap.size ≤ bD ∧
    OwnI X W.heap.size uc P.cells ∧ OwnThr X W.heap.size ut P.threads ∧ OwnF valC 85 1 X W.heap.size (.slice (some ⟨gN, 0, none⟩) P.threads.length P.threads.length) (List.replicate P.threads.length .nilFunc) ∧ Below W.heap.size W X
set_option maxRecDepth 100000 in
set_option maxHeartbeats 2000000 in
theorem p_dStart (vc vt : Value) (P : Pg) (w : World) (h : PgIs w w.heap.size vc vt P) (fn : Fn) (fi ca : Array Value) (ev : Value) (hev : w.cell? ⟨0, 0, none⟩ = some ev) (hne : ∃ t v, ev = .iface t v) (h10 : 0 < w.heap.size) :
    Calls Tryd.prog 28 #[.agg #[vc, vt], .func fn fi ca] w (DStartRet P ev (.func fn fi ca) w) := by
  obtain ⟨ac, cc, rfl, mc⟩ := h.cells.ex
  obtain ⟨at', ct, rfl, mt⟩ := h.thr.ex
  obtain ⟨ty, va, rfl⟩ := hne
  have H := hid h
  have HE := hid hev
  clear h hev
  go_enter Tryd.func28, Tryd.ntmps28
  go_wp2_with fail
  have b0 : Below w.heap.size w (w.alloc (.cells #[.slice ac P.cells.length cc, .slice at' P.threads.length ct] 25)) := (Below.refl _ w).alloc (Nat.le_refl _) _
  have r0 := row_new w (.cells #[.slice ac P.cells.length cc, .slice at' P.threads.length ct] 25)
  have z0 : w.heap.size + 1 ≤ (w.alloc (.cells #[.slice ac P.cells.length cc, .slice at' P.threads.length ct] 25)).heap.size := by simp
  generalize w.alloc (.cells #[.slice ac P.cells.length cc, .slice at' P.threads.length ct] 25) = X at *
  refine (p_Start _ _ P X ((H.out.below b0).more (by omega)) (.iface ty va) (cell_below b0 h10 HE.out) ⟨_, _, rfl⟩ (by omega)).mono ?_
  rintro e W ⟨hv, b1⟩
  have zW := b1.size
  have d0 : W.cell? ⟨w.heap.size, 0, none⟩ = some (.slice ac P.cells.length cc) := cell_below b1 (by omega) (row_cell r0 0)
  have d1 : W.cell? ⟨w.heap.size, 1, none⟩ = some (.slice at' P.threads.length ct) := cell_below b1 (by omega) (row_cell r0 1)
  have B1 := hid (b0.trans (b1.mono (by omega)))
  have HW := hid ((H.out.below B1.out).more (B := w.heap.size) (B' := W.heap.size) (by omega))
  have lw : w.heap.size < W.heap.size := by omega
  clear b0 b1 r0 H HE
  rcases hv with ⟨hno, rfl⟩ | ⟨hok, bW, gT, vc, vt, rfl, hwk⟩
  case inl =>
    have HN := hid hno
    clear hno d0 d1
    go_wp2
    go_ret2
    exact ⟨.inl ⟨HN.out, rfl⟩, B1.out⟩
  case inr =>
    have HOK := hid hok
    have hn4 := hok.nums
    have HWK := hid hwk
    clear hok hwk
    go_wp2_with fail
    refine wp_mono (Q := DStartMid P w W (.func fn fi ca) bW ac cc at' ct) ?_ ?_
    ·
      refine RN.wp_region_t (W.heap.size) [1, 3, 0, 0, 1, 0, 3, 0, 0, 3, 0, 0] (.frk [0, 2, 3, 4, 5, 7] (.fin [1, 6, 8, 9, 10, 11]) (.fin [6, 1, 8, 9, 10, 11])) (by kernel_rfl) (by kernel_rfl) (by kernel_rfl) (by kernel_rfl) ?_
      simp only [RN.wpT, selX, guardAt, sD, sE, sF, sG]
      repeat (first | (refine RN.wpL_p (fun K hK => ?_); go_simp; refine hK _ _ ?_; clear hK K) | (apply RN.wpL_s; (intro w2 hw2; have hk1 := hw2.cell; have hk3 := hw2.1; clear hw2; go_simp; with_reducible rfl); simp only [Act.put, sA, sB, sC]) | (refine RN.wpL_nil ?_))
      refine ⟨?_, ?_⟩
      · -- the copy comes first
        refine RN.wpL_k (fun K hK => ?_)
        go_simp
        refine (p_Clone _ _ P _ (show PgIs W.drew W.drew.heap.size _ _ P from HW.out.below (Below.refl _ W).drew) HOK.out.ok).mono ?_
        rintro e X1 ⟨uc, ut, rfl, oc, ot, q1⟩
        refine hK _ _ (RN.KeepsN.of_below (q1.mono (by first | omega | exact Nat.le_refl _))) ?_
        clear hK K
        have q1 : Below W.heap.size W X1 := (Below.refl _ W).drew.trans q1
        have z1 := q1.size
        have oc : OwnI X1 W.heap.size uc P.cells := oc
        have ot : OwnThr X1 W.heap.size ut P.threads := ot
        obtain ⟨ua, uk, rfl, -⟩ := oc.form2
        obtain ⟨ta, tk, hut, -⟩ : ∃ a c, ut = .slice a P.threads.length c ∧ True := by
          obtain ⟨ts, h1, h2, -⟩ := ot
          obtain ⟨a, c, e, -⟩ := h1.form2
          exact ⟨a, c, by rw [e, h2], trivial⟩
        subst hut
        refine RN.wpL_k (fun K hK => ?_)
        refine wp_makeN (f := valC) (e := 85) (sz := 1) (B := W.heap.size) _ _ _ rfl _ 8 Tryd.underlying81 infoSt rfl rfl (by omega) (by omega) (by first | omega | exact Nat.le_refl _) (.nilFunc) rfl rfl (by decide) ?_
        intro X2 o2 q2 z2
        refine hK _ _ (RN.KeepsN.of_below (q2.mono (by first | omega | exact Nat.le_refl _))) ?_
        clear hK K
        have q3 := q1.trans (q2.mono z1)
        have O2 := hid o2
        have OC := hid (OwnF.below oc q2)
        have OT := hid (ot.below q2)
        have Q3 := hid q3
        have z3 := q3.size
        clear q1 q2 q3 oc ot o2
        repeat (first | (refine RN.wpL_p (fun K hK => ?_); go_simp; refine hK _ _ ?_; clear hK K) | (apply RN.wpL_s; (intro w2 hw2; have hk1 := hw2.cell; have hk3 := hw2.1; clear hw2; go_simp; with_reducible rfl); simp only [Act.put, sA, sB, sC]) | (refine RN.wpL_nil ?_))
        refine RN.wpL_k (fun K hK => ?_)
        go_simp
        refine hK _ _ (RN.KeepsN.alloc _ _ (by omega)) ?_
        clear hK K
        repeat (first | (refine RN.wpL_p (fun K hK => ?_); go_simp; refine hK _ _ ?_; clear hK K) | (apply RN.wpL_s; (intro w2 hw2; have hk1 := hw2.cell; have hk3 := hw2.1; clear hw2; go_simp; with_reducible rfl); simp only [Act.put, sA, sB, sC]) | (refine RN.wpL_nil ?_))
        exact ⟨X2.heap.size, X1.heap.size, _, _, rfl, rfl, row_new X2 _, z3, OwnF.alloc OC.out _, OT.out.alloc _, O2.out.alloc _, Q3.out.alloc z3 _⟩
      · -- the list of steps comes first
        refine RN.wpL_k (fun K hK => ?_)
        refine wp_makeN (f := valC) (e := 85) (sz := 1) (B := W.heap.size) _ _ _ rfl _ 8 Tryd.underlying81 infoSt rfl rfl (by omega) (by omega) (by first | omega | exact Nat.le_refl _) (.nilFunc) rfl rfl (by decide) ?_
        intro X2 o2 q2 z2
        refine hK _ _ (RN.KeepsN.of_below q2) ?_
        clear hK K
        have q2 : Below W.heap.size W X2 := (Below.refl _ W).drew.trans q2
        have z2 := q2.size
        refine RN.wpL_k (fun K hK => ?_)
        go_simp
        refine (p_Clone _ _ P _ ((HW.out.below q2).more z2) HOK.out.ok).mono ?_
        rintro e X1 ⟨uc, ut, rfl, oc, ot, q1⟩
        refine hK _ _ (RN.KeepsN.of_below (q1.mono (by first | omega | exact Nat.le_refl _))) ?_
        clear hK K
        have q3 := q2.trans (q1.mono z2)
        have O2 := hid (OwnF.below o2 q1)
        have z4 := q1.size
        have oc := OwnF.base oc z2
        have ot := ot.map2 z2 (fun _ h => OwnF.base h z2) (fun _ h => OwnF.base h z2) (fun _ _ h => OwnF.base h z2)
        obtain ⟨ua, uk, rfl, -⟩ := oc.form2
        obtain ⟨ta, tk, hut, -⟩ : ∃ a c, ut = .slice a P.threads.length c ∧ True := by
          obtain ⟨ts, h1, h2, -⟩ := ot
          obtain ⟨a, c, e, -⟩ := h1.form2
          exact ⟨a, c, by rw [e, h2], trivial⟩
        subst hut
        have OC := hid oc
        have OT := hid ot
        have Q3 := hid q3
        have z3 := q3.size
        clear q1 q2 q3 oc ot o2
        repeat (first | (refine RN.wpL_p (fun K hK => ?_); go_simp; refine hK _ _ ?_; clear hK K) | (apply RN.wpL_s; (intro w2 hw2; have hk1 := hw2.cell; have hk3 := hw2.1; clear hw2; go_simp; with_reducible rfl); simp only [Act.put, sA, sB, sC]) | (refine RN.wpL_nil ?_))
        refine RN.wpL_k (fun K hK => ?_)
        go_simp
        refine hK _ _ (RN.KeepsN.alloc _ _ (by omega)) ?_
        clear hK K
        repeat (first | (refine RN.wpL_p (fun K hK => ?_); go_simp; refine hK _ _ ?_; clear hK K) | (apply RN.wpL_s; (intro w2 hw2; have hk1 := hw2.cell; have hk3 := hw2.1; clear hw2; go_simp; with_reducible rfl); simp only [Act.put, sA, sB, sC]) | (refine RN.wpL_nil ?_))
        exact ⟨X1.heap.size, W.heap.size, _, _, rfl, rfl, row_new X1 _, z3, OwnF.alloc OC.out _, OT.out.alloc _, O2.out.alloc _, Q3.out.alloc z3 _⟩
    · rintro e a' X ⟨bD, gN, uc, ut, rfl, rfl, rw', hbw, oc, ot, oth, bx⟩
      have OC := hid oc
      have OT := hid ot
      have OH := hid oth
      have RW := hid rw'
      have BX := hid bx
      clear rw' oc ot oth bx d0 d1
      go_wp2
      go_ret2
      exact ⟨.inr ⟨HOK.out, bD, bW, gT, gN, vc, vt, uc, ut, rfl, RW.out, by omega, WkAt.base (HWK.out.below BX.out) (by omega), OwnF.base OC.out (by omega), OT.out.map2 (by omega) (fun _ h => OwnF.base h (by omega)) (fun _ h => OwnF.base h (by omega)) (fun _ _ h => OwnF.base h (by omega)), OwnF.base OH.out (by omega)⟩, B1.out.trans (BX.out.mono (by omega))⟩
end Go.Proofs.YtogphaiomlfofaaDoor
namespace Go.Proofs.YtogphaiomlfofaaDoor
open Go.RowKit
set_option linter.unusedVariables false
set_option linter.unusedSimpArgs false
attribute [local irreducible] wpL

theorem Kp.rowW {ev : Value} {w w' : World} {b : Nat} {cs : Array Value} {t : TypeId} {fz : Nat × Nat} (h : Kp Mw ev w w') (hb : w.heap[b]? = some (.cells cs t fz)) (h1 : t ≠ 98) (h2 : t ≠ 114) (h3 : t ≠ 50) : w'.heap[b]? = some (.cells cs t fz) :=
  h.cells b cs t fz hb (fun hm => by rcases hm with h | h; exact h1 h; exact h2 h) (fun ht => absurd ht h3)
theorem OwnF.kpW {α : Type} {f : α → List Value} {e : TypeId} {sz B : Nat} {v ev : Value} {l : List α} {w w' : World} (h : OwnF f e sz w B v l) (hk : Kp Mw ev w w') (h1 : e ≠ 98) (h2 : e ≠ 114) (h3 : e ≠ 50) : OwnF f e sz w' B v l :=
  OwnF.kp h hk (fun hm => by rcases hm with h | h; exact h1 h; exact h2 h) h3
theorem OwnThr.kpW {B : Nat} {v ev : Value} {l : List (List (List Ac))} {w w' : World} (h : OwnThr w B v l) (hk : Kp Mw ev w w') : OwnThr w' B v l :=
  h.kp hk (by unfold Mw; decide) (by unfold Mw; decide) (by unfold Mw; decide)
theorem DrAt.walked {w w' : World} {B bD bW gT gN : Nat} {vc vt ve ve' pc pt rf : Value} {P : Pg} {S S' : Wst} {nx : List Value} (h : DrAt w B bD bW gT gN vc vt ve pc pt rf P S nx) (hk : Kp Mw ve w w') (hw : WkAt w' B bW gT vc vt ve' P S') : DrAt w' B bD bW gT gN vc vt ve' pc pt rf P S' nx :=
  ⟨hk.rowW h.row (by decide) (by decide) (by decide), h.hB, hw, OwnF.kpW h.pcells hk (by decide) (by decide) (by decide), h.pthr.kpW hk, OwnF.kpW h.next hk (by decide) (by decide) (by decide)⟩
def AnsPost (B bD bW gT gN : Nat) (vc vt ve pc pt rf : Value) (P : Pg) (S : Wst) (nx : List Value) (i : Nat) (w : World) (r : Option (Th × Ev)) (x : Ending) (w' : World) : Prop :=
  x = .returned (.tuple #[]) ∧ Below B w w' ∧ Kp Mw ve w w' ∧ ∃ ve', DrAt w' B bD bW gT gN vc vt ve' pc pt rf P (match r with | none => S | some y => S.put i y) nx ∧ ∀ k, ve'.ownBlock = some k → ve.ownBlock = some k ∨ w.heap.size ≤ k
section
variable {w : World} {B bD bW gT gN : Nat} {vc vt ve pc pt rf : Value} {P : Pg} {S : Wst} {nx : List Value}
set_option maxRecDepth 100000 in
theorem d_answer (h : DrAt w B bD bW gT gN vc vt ve pc pt rf P S nx) (hBw : B ≤ w.heap.size) (i : Nat) (hi : i < P.threads.length) {t : Th} (ht : S.ths[i]? = some t) (val : Int) (abort : Bool) (hv : within9 val = true) (hv2 : ∀ a, (P.acts i t.tx)[t.act]? = some a → a.kind = 3 → t.adding = false → within9 (val + a.val) = true) (hl : S.evs.length ≤ 100000) :
    Calls Tryd.prog 39 #[.pointer (some ⟨bD, 0, none⟩), .int .i64 i, .int .i64 val, .bool abort] w (AnsPost B bD bW gT gN vc vt ve pc pt rf P S nx i w (ansOf P i t val abort)) := by
  have d2 : w.cell? ⟨bD, 2, none⟩ = some (.pointer (some ⟨bW, 0, none⟩)) := row_cell h.row 2
  have lD := row_lt h.row
  have H := hid h
  have hA := hid (wk_answer h.walk hBw i hi ht val abort hv hv2 hl)
  clear h hv2
  generalize ansOf P i t val abort = r at hA ⊢
  go_enter Tryd.func39, Tryd.ntmps39
  go_wp2_with fail
  refine (hA.out).mono ?_
  clear hA
  intro x w1 hx
  cases r with
  | none =>
    obtain ⟨rfl, hb⟩ := hx
    have HB := hid hb
    clear hb
    go_wp2
    go_end0
    exact ⟨rfl, HB.out.mono hBw, Kp.of_below HB.out, ve, H.out.below HB.out, fun k h => .inl h⟩
  | some y =>
    obtain ⟨rfl, ve', hw, hk, hb, ho⟩ := hx
    have HB := hid hb
    have HK := hid hk
    have HW := hid hw
    have HO := hid ho
    clear hb hk hw ho
    go_wp2
    go_end0
    exact ⟨rfl, HB.out, HK.out, ve', H.out.walked HK.out HW.out, HO.out⟩
end
end Go.Proofs.YtogphaiomlfofaaDoor
namespace Go.Proofs.YtogphaiomlfofaaDoor
open Go.RowKit
set_option linter.unusedVariables false
set_option linter.unusedSimpArgs false
attribute [local irreducible] wpL

theorem infoO : (Tryd.prog.info? 156).map (fun i => (i.zero, i.size, i.bytes)) = some (some (.agg #[.int .i64 0, .int .i64 0]), 2, 16) := by kernel_rfl
theorem ob_one (e : Ob) : ∀ u ∈ e.cells, u.oneCell' = true := by intro u hu; simp [Ob.cells] at hu; rcases hu with rfl | rfl <;> rfl
def allDone (P : Pg) (S : Wst) : Bool := (List.range P.threads.length).all fun i => wDone P S i
theorem OwnThr.form {w : World} {B : Nat} {v : Value} {l : List (List (List Ac))} (h : OwnThr w B v l) : ∃ a c, v = .slice a l.length c := by
  obtain ⟨ts, h1, h2, -⟩ := h
  obtain ⟨a, c, e, -⟩ := h1.form2
  exact ⟨a, c, by rw [e, h2]⟩
def obsOf (P : Pg) : List Ob := P.cells.map fun c => ⟨1, c⟩
def HistRet (os : List Ob) (es : List Ev) (w : World) (e : Ending) (w' : World) : Prop :=
  ∃ ov vv, e = .returned (.agg #[ov, vv]) ∧ OwnF Ob.cells 156 2 w' w.heap.size ov os ∧ OwnF Ev.cells 50 8 w' w.heap.size vv es ∧ Below w.heap.size w w'
section
variable {w : World} {B bD bW gT gN : Nat} {vc vt ve pc pt rf : Value} {P : Pg} {S : Wst} {nx : List Value}
set_option maxRecDepth 100000 in
theorem d_done (h : DrAt w B bD bW gT gN vc vt ve pc pt rf P S nx) :
    Calls Tryd.prog 92 #[.pointer (some ⟨bD, 0, none⟩)] w fun e w' => e = .returned (.bool (allDone P S)) ∧ Below w.heap.size w w' := by
  obtain ⟨at', ct, rfl⟩ := h.pthr.form
  have d1 : w.cell? ⟨bD, 1, none⟩ = some (.slice at' P.threads.length ct) := row_cell h.row 1
  have d2 : w.cell? ⟨bD, 2, none⟩ = some (.pointer (some ⟨bW, 0, none⟩)) := row_cell h.row 2
  have lD := row_lt h.row
  have hn4 := h.walk.ok.threads.2
  have H := hid h
  clear h
  go_enter Tryd.func92, Tryd.ntmps92
  go_wp2_with fail
  have D2 := hid d2
  clear d1 d2
  go_loopw [10] (fun p wr => ∃ i : Nat, i ≤ P.threads.length ∧ p = .int .i64 i ∧ Below w.heap.size w wr ∧ ∀ j : Nat, j < i → wDone P S j = true) (fun p _ => P.threads.length - (intOf p).toNat)
  case atStart => exact ⟨0, by omega, by go_num, Below.refl _ _, fun j hj => absurd hj (by omega)⟩
  case round =>
    obtain ⟨i, hi, rfl, hbw, hd⟩ := hrel
    have HBW := hid hbw
    have HD := hid hd
    clear hbw hd
    by_cases hlt : i < P.threads.length
    · have d2 := cell_below HBW.out lD D2.out
      have lDr : bD < wr.heap.size := by have := HBW.out.size; omega
      go_wp2_with fail
      refine (wk_done (H.out.walk.below HBW.out) i).mono ?_
      rintro e w1 ⟨rfl, rfl⟩
      cases hw : wDone P S i with
      | false =>
        go_wp2
        go_ret
        refine ⟨?_, HBW.out.drew⟩
        have : allDone P S = false := by
          unfold allDone
          rw [List.all_eq_false]
          exact ⟨i, List.mem_range.2 hlt, by simp [hw]⟩
        rw [this]; rfl
      | true =>
        go_wp2_with fail
        go_roundw
        case rel =>
          refine ⟨i + 1, by omega, by go_num, HBW.out.drew, fun j hj => ?_⟩
          rcases Nat.lt_or_eq_of_le (Nat.lt_succ_iff.1 hj) with h | rfl
          · exact HD.out j h
          · exact hw
        case measure => simp [intOf]; omega
    · obtain rfl : i = P.threads.length := by omega
      go_wp2
      go_ret
      refine ⟨?_, HBW.out⟩
      have : allDone P S = true := by
        unfold allDone
        rw [List.all_eq_true]
        exact fun j hj => HD.out j (List.mem_range.1 hj)
      rw [this]; rfl
set_option maxRecDepth 100000 in
set_option maxHeartbeats 1000000 in
theorem d_history (h : DrAt w B bD bW gT gN vc vt ve pc pt rf P S nx) (hl : S.evs.length ≤ 100000) :
    Calls Tryd.prog 93 #[.pointer (some ⟨bD, 0, none⟩)] w (HistRet (obsOf P) S.evs w) := by
  obtain ⟨ac, cc, rfl, -⟩ := h.pcells.form2
  have d0 : w.cell? ⟨bD, 0, none⟩ = some (.slice ac P.cells.length cc) := row_cell h.row 0
  have d2 : w.cell? ⟨bD, 2, none⟩ = some (.pointer (some ⟨bW, 0, none⟩)) := row_cell h.row 2
  have lD := row_lt h.row
  have hn4 := h.walk.ok.cells.2
  have HC := hid (show Sl w w.heap.size 1 (.slice ac P.cells.length cc) P.cells.length (P.cells.map (.int .i64)) from by rw [← flat_int]; exact h.pcells.sl)
  have D0 := hid d0
  have H := hid h
  clear h d0
  go_enter Tryd.func93, Tryd.ntmps93
  go_wp2_with fail
  have b0 : Below w.heap.size w (w.alloc (.cells #[.slice none 0 0, .slice none 0 0] 39)) := (Below.refl _ w).alloc (Nat.le_refl _) _
  have r0 := row_new w (.cells #[.slice none 0 0, .slice none 0 0] 39)
  have z0 : (w.alloc (.cells #[.slice none 0 0, .slice none 0 0] 39)).heap.size = w.heap.size + 1 := by simp
  generalize w.alloc (.cells #[.slice none 0 0, .slice none 0 0] 39) = X at *
  refine (wk_events (H.out.walk.below b0) hl).mono ?_
  rintro e W ⟨vv, rfl, oe, b1⟩
  obtain ⟨ae, ce, rfl, -⟩ := oe.form2
  have z1 := b1.size
  have r1 := row_below r0 b1 (by omega)
  have B1 := hid (b0.trans (b1.mono (by omega)))
  have OE := hid (OwnF.base oe (show w.heap.size ≤ X.heap.size by omega))
  have lo : w.heap.size < W.heap.size := by omega
  have lD1 : bD < W.heap.size := by omega
  have d0 := cell_below B1.out lD D0.out
  have R1 := hid r1
  clear b0 r0 oe d2 r1
  go_wp2_with fail
  have b2 : Below w.heap.size w (W.alloc (.cells #[.slice none 0 0, .slice ae S.evs.length ce] 39)) := B1.out.alloc (by omega) _
  have r2 := row_new W (.cells #[.slice none 0 0, .slice ae S.evs.length ce] 39)
  have r3 := row_old (o := .cells #[.slice none 0 0, .slice ae S.evs.length ce] 39) R1.out
  have o2 := OE.out.alloc (.cells #[.slice none 0 0, .slice ae S.evs.length ce] 39)
  have hob : (obsOf P).length = P.cells.length := by simp [obsOf]
  generalize W.alloc (.cells #[.slice none 0 0, .slice ae S.evs.length ce] 39) = Y at *
  have B2 := hid b2
  have R2 := hid r2
  have R3 := hid r3
  have O2 := hid o2
  clear b2 r2 r3 o2 d0
  go_loopw [18] (fun p wr => ∃ (i : Nat) (ov : Value), i ≤ P.cells.length ∧ p = .int .i64 i ∧ Below w.heap.size w wr ∧ wr.heap[W.heap.size]? = some (.cells #[ov, .slice ae S.evs.length ce] 39 (0, 0)) ∧ wr.heap[w.heap.size]? = some (.cells #[.slice none 0 0, .slice none 0 0] 39 (0, 0)) ∧ OwnF Ob.cells 156 2 wr w.heap.size ov ((obsOf P).take i) ∧ OwnF Ev.cells 50 8 wr w.heap.size (.slice ae S.evs.length ce) S.evs) (fun p _ => P.cells.length - (intOf p).toNat)
  case atStart => exact ⟨0, .slice none 0 0, by omega, by go_num, B2.out, R2.out, R3.out, OwnF.nil _ _, O2.out⟩
  case round =>
    obtain ⟨i, ov, hi, rfl, hB, hr2, hr3, hO, hV⟩ := hrel
    clear B2 R2 R3 O2
    obtain ⟨ao, co, rfl, -⟩ := hO.form2
    have hlo : ((obsOf P).take i).length = i := by rw [List.length_take]; omega
    rw [hlo] at hO hr2
    have e0 := row_cell hr2 0
    have ef := row_free hr2 0
    have e1 := row_cell hr2 1
    have lh := row_lt hr2
    have zB := hB.size
    have HB := hid hB
    have HR2 := hid hr2
    have HR3 := hid hr3
    have HO := hid hO
    have HV := hid hV
    clear hB hr2 hr3 hO hV
    by_cases hlt : i < P.cells.length
    · obtain ⟨b, off, c, rfl, hb, hc, hcc⟩ := HC.out.intAt hlt
      have hcc := cell_below HB.out hb hcc
      have hbz : b < wr.heap.size := by omega
      have hoc : (obsOf P)[i]? = some ⟨1, c⟩ := by simp [obsOf, hc]
      have HOC := hid hoc
      clear hoc hc e1
      go_wp2_with (at_builtin; refine wpList_appF rfl _ _ _ rfl _ 16 Tryd.underlying36 infoO rfl HO.out ⟨1, c⟩ (by first | omega | (simp <;> omega)) (by rfl) (by rfl) (by first | rfl | simp) rfl (ob_one _) (by first | omega | (simp only [List.length_append, List.length_cons, List.length_nil, List.length_replicate]; omega)) (by first | omega | (simp only [List.length_append, List.length_cons, List.length_nil, List.length_replicate]; omega)) ?_; refine Stop.halt ?_)
      refine Stop.go ?_
      intro g4 c4 w4 o4 G4
      have b4 := HB.out.trans (G4.below zB fun q h => (HO.out.lt q h).1)
      have q2 := row_grw HR2.out G4 (OwnF.neT HO.out HR2.out (by decide))
      have q3 := row_grw HR3.out G4 (OwnF.neT HO.out HR3.out (by decide))
      have oV := HV.out.grwT HO.out (by decide) G4
      have f6 := row_free q2 0
      have l6 := row_lt q2
      have e0 := row_cell q2 0
      have B4 := hid b4
      have Q2 := hid q2
      have Q3 := hid q3
      have OV := hid oV
      have O4 := hid o4
      clear b4 q2 q3 oV o4 G4 ef lh
      go_wp2_with fail
      go_roundw
      case rel =>
        refine ⟨i + 1, _, by omega, by go_num, B4.out.setCell (p := ⟨W.heap.size, 0, none⟩) (by show w.heap.size ≤ W.heap.size; omega) _, row_set Q2.out 0 _, row_other Q3.out (by omega), ?_, OwnF.other OV.out (OwnF.neT OV.out Q2.out (by decide)) _⟩
        rw [take_step HOC.out]
        exact OwnF.other O4.out (OwnF.neT O4.out Q2.out (by decide)) _
      case measure => simp [intOf]; omega
    · obtain rfl : i = P.cells.length := by omega
      have y0 := row_cell HR3.out 0
      have y1 := row_cell HR3.out 1
      have yf : ∀ j, wr.frozen? ⟨w.heap.size, j, none⟩ = false := fun j => row_free HR3.out j
      have l3 := row_lt HR3.out
      go_wp2
      have r4 := row2 (u1 := .slice ao P.cells.length co) (u2 := .slice ae S.evs.length ce) HR3.out
      have c0 := row_cell r4 0
      have c1 := row_cell r4 1
      simp only [List.getElem?_toArray, List.getElem?_cons_zero, List.getElem?_cons_succ] at c0 c1
      refine bodyPost_ret (v := .agg #[.slice ao P.cells.length co, .slice ae S.evs.length ce]) (by simp [results, Tryd.results93, go_sem, c0, c1]) rfl ⟨_, _, rfl, ?_, ?_, ?_⟩
      · have := OwnF.box2 (u1 := .slice ao P.cells.length co) (u2 := .slice ae S.evs.length ce) HO.out HR3.out (by decide)
        rwa [show (obsOf P).take P.cells.length = obsOf P from by rw [← hob, List.take_length]] at this
      · exact OwnF.box2 HV.out HR3.out (by decide)
      · exact (HB.out.setCell (p := ⟨w.heap.size, 0, none⟩) (Nat.le_refl _) _).setCell (p := ⟨w.heap.size, 1, none⟩) (Nat.le_refl _) _
end
end Go.Proofs.YtogphaiomlfofaaDoor
namespace Go.Proofs.YtogphaiomlfofaaDoor
open Go.RowKit
set_option linter.unusedVariables false
set_option linter.unusedSimpArgs false

structure Glob (w : World) : Prop where
  big : 0 < w.heap.size
  prog : ∃ t v, w.cell? ⟨0, 0, none⟩ = some (.iface t v)
  words : True
theorem Glob.below {w w' : World} (h : Glob w) (hb : Below w.heap.size w w') : Glob w' := by
  obtain ⟨h1, ⟨t, v, h2⟩, h3⟩ := h
  exact ⟨by have := hb.size; omega, ⟨t, v, cell_below hb (by omega) h2⟩, trivial⟩
end Go.Proofs.YtogphaiomlfofaaDoor
namespace Go.Proofs.YtogphaiomlfofaaDoor
open Go.ChangeShapes Go.WideShapes Go.ChangeAt Go.RowKit Go.Deep
set_option linter.unusedVariables false
set_option linter.unusedSimpArgs false

section
variable {H : Type} {enc : TypeId × Value → H} {P : Program} {W : World}
theorem cell_live {a : Addr} {u : Value} (h : W.cell? a = some u) : a.block < W.heap.size ∧ a.spot = none := by
  unfold World.cell? at h
  split at h
  · rename_i hb
    refine ⟨(Array.getElem?_eq_some_iff.1 hb).1, ?_⟩
    split at h
    · cases h
    · rename_i hs; cases hh : a.spot <;> simp_all
  · cases h
theorem addr_flat {a : Addr} (h : a.spot = none) (j : Nat) : a.add j = ⟨a.block, a.off + j, none⟩ := by
  obtain ⟨b, o, s⟩ := a
  simp only at h
  subst h
  unfold Addr.add
  split <;> simp_all
theorem Sl.of_each {α : Type} {f : α → List Value} {sz n cap : Nat} (hf : ∀ x, (f x).length = sz) (h0 : 0 < sz) {a : Addr} {l : List α} (hl : l.length = n) (hn : n ≤ 9223372036854775807)
    (h : ∀ i x, l[i]? = some x → ∀ j, j < sz → W.cell? (a.add (i * sz + j)) = (f x)[j]?) : Sl W W.heap.size sz (.slice (some a) n cap) n (l.flatMap f) := by
  refine ⟨_, _, rfl, hn, by rw [flat_length f sz hf, hl], fun hp => ?_⟩
  have hcell : ∀ i x, l[i]? = some x → ∀ j, (hj : j < sz) → W.cell? (a.add (i * sz + j)) = some ((f x)[j]'(by rw [hf]; exact hj)) := fun i x hi j hj => by
    rw [h i x hi j hj]; exact List.getElem?_eq_getElem _
  obtain ⟨hb, hs⟩ := cell_live (hcell 0 (l[0]'(by omega)) (List.getElem?_eq_getElem _) 0 h0)
  have hs' : a.spot = none := by
    rw [Nat.zero_mul, Nat.zero_add] at hs
    simpa [Addr.add] using hs
  have hb' : a.block < W.heap.size := by
    rw [Nat.zero_mul, Nat.zero_add] at hb
    simpa [Addr.add] using hb
  refine ⟨a.block, a.off, ?_, hb', fun j u hu => ?_⟩
  · rw [show (⟨a.block, a.off, none⟩ : Addr) = a by obtain ⟨b, o, s⟩ := a; simp only at hs'; rw [hs']]
  · have hj : j < (l.flatMap f).length := (List.getElem?_eq_some_iff.1 hu).1
    rw [flat_length f sz hf] at hj
    have e : j = j / sz * sz + j % sz := by rw [Nat.mul_comm]; exact (Nat.div_add_mod j sz).symm
    have hq : j / sz < l.length := Nat.div_lt_of_lt_mul (by rw [Nat.mul_comm]; exact hj)
    have hr : j % sz < sz := Nat.mod_lt _ h0
    rw [e, flat_get f sz hf l (j / sz) (j % sz) _ (List.getElem?_eq_getElem hq) hr] at hu
    rw [← addr_flat hs', e, h (j / sz) _ (List.getElem?_eq_getElem hq) (j % sz) hr]
    exact hu

theorem sl_ints {t e : TypeId} {v : Value} {d : DataW H} {p : List MemPlace} (ht : P.underlying t = some (.slice e)) (he : P.underlying e = some (.int .i64)) (ce : P.cellsOf e = 1)
    (h : DataW.Trod enc P W 0 (fun _ => true) true t v d p) (hs : ∃ a len cap, v = .slice a len cap) :
    ∃ a n cap, ∃ l : List Int, v = .slice a n cap ∧ l.length = n ∧ Sl W W.heap.size 1 v n (l.flatMap intC) := by
  obtain ⟨a', n', c', rfl⟩ := hs
  obtain ⟨fuel, hf⟩ := h
  rcases open_ints ht he ce hf with ⟨hc, _⟩ | ⟨a, len, cap, zs, hc, _, hl, hm, hz, _, hcell, hwf⟩
  · simp [Value.cells] at hc
    obtain ⟨rfl, rfl, rfl⟩ := hc
    exact ⟨none, 0, 0, [], rfl, rfl, ⟨none, 0, rfl, by omega, rfl, by simp⟩⟩
  · simp [Value.cells] at hc
    obtain ⟨rfl, rfl, rfl⟩ := hc
    have hz' : zs.length = c' := by rw [hz]; simp
    have hlm : n' ≤ zs.length := by omega
    have hmx : c' ≤ 9223372036854775807 := hm
    have hlt : (zs.take n').length = n' := by rw [List.length_take]; omega
    refine ⟨some a, n', c', zs.take n', rfl, hlt, Sl.of_each (f := intC) (sz := 1) (fun _ => rfl) (by decide) hlt (by omega) ?_⟩
    intro i x hi j hj
    have hi' : i < n' := by
      have := (List.getElem?_eq_some_iff.1 hi).1
      rw [List.length_take] at this
      omega
    rw [List.getElem?_take, if_pos hi'] at hi
    have := hcell i (by omega)
    match j, hj with
    | 0, _ => simpa [intC, List.getD, hi] using this
set_option maxRecDepth 100000 in
theorem isl_open {α : Type} {R : World → Nat → Value → α → Prop} {t e : TypeId} {fuel : Nat} {u : Value} {y : DataW H × List MemPlace} (ht : P.underlying t = some (.slice e)) (ce : P.cellsOf e = 1)
    (hel : ∀ n v z, DataW.trod enc P W 0 (fun _ => true) true n e [v] = some z → ∃ x, R W W.heap.size v x) (h : DataW.trod enc P W 0 (fun _ => true) true fuel t [u] = some y) : ∃ l : List α, IsL R W W.heap.size u l := by
  rcases open_slice1 ht ce h with ⟨hc, -⟩ | ⟨a, len, cap, m, n, V, D, Pl, hc, -, hl, hm, hmm, -, hall⟩
  · simp only [List.cons.injEq, and_true] at hc
    subst hc
    exact ⟨[], [], ⟨none, 0, rfl, by simp, by simp, fun h => by simp at h⟩, fun k v x hv => by simp at hv⟩
  · simp only [List.cons.injEq, and_true] at hc
    subst hc
    have hlm : len ≤ m := by rw [hmm]; split <;> omega
    have each : ∀ i, i < len → ∃ x, R W W.heap.size (V i) x := fun i hi => hel n (V i) _ (hall i (by omega)).2
    have : ∃ q : Nat → List α, ∀ i, i < len → ∃ x, q i = [x] ∧ R W W.heap.size (V i) x := by
      obtain ⟨q, hq⟩ := choose_lt (α := List α) (p := fun i l => ∃ x, l = [x] ∧ R W W.heap.size (V i) x) fun i hi => let ⟨x, hx⟩ := each i hi; ⟨[x], x, rfl, hx⟩
      exact ⟨q, hq⟩
    obtain ⟨q, hq⟩ := this
    have hlen : ∀ n, n ≤ len → ((List.range n).flatMap q).length = n := fun n => by
      induction n with
      | zero => intro _; rfl
      | succ n ih =>
        intro hn
        obtain ⟨x, hx, -⟩ := hq n (by omega)
        rw [List.range_succ, List.flatMap_append, List.length_append, ih (by omega)]
        simp [hx]
    have hget : ∀ n, n ≤ len → ∀ i, i < n → ∀ x, ((List.range n).flatMap q)[i]? = some x → R W W.heap.size (V i) x := fun n => by
      induction n with
      | zero => intro _ i hi; omega
      | succ n ih =>
        intro hn i hi x hx
        rw [List.range_succ, List.flatMap_append] at hx
        by_cases hin : i < n
        · rw [List.getElem?_append_left (by rw [hlen n (by omega)]; exact hin)] at hx
          exact ih (by omega) i hin x hx
        · obtain rfl : i = n := by omega
          obtain ⟨x', hx', hR⟩ := hq i (by omega)
          rw [List.getElem?_append_right (by rw [hlen i (by omega)]; omega), hlen i (by omega)] at hx
          simp [hx'] at hx
          subst hx
          exact hR
    refine ⟨(List.range len).flatMap q, (List.range len).map V, ?_, fun k v x hv hx => ?_⟩
    · rw [hlen len (Nat.le_refl _)]
      have := Sl.of_each (W := W) (f := valC) (sz := 1) (n := len) (cap := cap) (fun _ => rfl) (by decide) (a := a) (l := (List.range len).map V) (by simp) (by unfold maxLen at hm; omega) (fun i x hi j hj => by
        have hi' : i < len := by have := (List.getElem?_eq_some_iff.1 hi).1; simpa using this
        rw [List.getElem?_map, List.getElem?_range hi'] at hi
        simp only [Option.map_some, Option.some.injEq] at hi
        subst hi
        match j, hj with
        | 0, _ => simpa [valC] using (hall i (by omega)).1)
      rwa [flat_val] at this
    · have hk : k < len := by have := (List.getElem?_eq_some_iff.1 hv).1; simpa using this
      rw [List.getElem?_map, List.getElem?_range hk] at hv
      simp only [Option.map_some, Option.some.injEq] at hv
      subst hv
      exact hget len (Nat.le_refl _) k hk x hx
theorem trodAll_kept (hl : laidOutB P = true) {W W' : World} {sp : Nat → Bool} : ∀ {ts : List TypeId} {vs : List Value} {ds : List (DataW H)} {ps : List MemPlace}, (ts.all fun t => P.readableRec t && decide (t < P.types.size)) = true →
    DataW.TrodAll enc P W 0 (fun _ => true) true ts vs ds ps → (∀ p ∈ ps, W.sameAt W' p) → (∀ p ∈ ps, sp p.block = true) → DataW.TrodAll enc P W' 0 sp true ts vs ds ps
  | [], [], [], _, _, h, _, _ => h
  | t :: _, _ :: _, _ :: _, _, hT, ⟨p, q, h1, h2, e⟩, hs, hsp => by
    simp only [List.all_cons, Bool.and_eq_true, decide_eq_true_eq] at hT
    exact ⟨p, q, WideElems.Trod_stays hl hT.1.1 hT.1.2 h1 (fun x hx => hs x (by rw [e]; exact List.mem_append_left _ hx)) (fun x hx => hsp x (by rw [e]; exact List.mem_append_left _ hx)),
      trodAll_kept hl hT.2 h2 (fun x hx => hs x (by rw [e]; exact List.mem_append_right _ hx)) (fun x hx => hsp x (by rw [e]; exact List.mem_append_right _ hx)), e⟩

theorem post_args {f : Func} {s : ChangeSpec} {apart fresh handsOn again : Bool} {W W' : World} {args : Array Value} {v : Value} {ds gs : List (DataW H)} {before : List MemPlace}
    (hW : DataW.Whole enc P f.params.toList s.vars apart W args.toList ds gs before)
    (hA : DataW.TrodAll enc P W 0 (fun _ => true) true f.params.toList args.toList ds before)
    (hl : laidOutB P = true) (hT : (f.params.toList.all fun t => P.readableRec t && decide (t < P.types.size)) = true) (hv : s.vars = [])
    (hres : ∀ (b : Nat) (sp : Nat → Bool) (hd : Bool), DataW.TrodAll enc P W' b sp hd f.resultTypes.toList (v.resultList f.resultTypes.size) (s.fn H (ds ++ gs)).results [])
    (hargs : (s.fn H (ds ++ gs)).args = ds) (hvars : (s.fn H (ds ++ gs)).vars = [])
    (hb : Below W.heap.size W W')
    (hok : ∀ (j : Nat) (t : TypeId) (r : Value), f.resultTypes[j]? = some t → (v.resultList f.resultTypes.size)[j]? = some r → Value.okWide P W' .any 0 t r) :
    s.post enc P f apart fresh handsOn again W args v W' := by
  have hlt : ∀ p ∈ before, p.block < W.heap.size := fun p hp => hW.lt p hp
  have key : ∀ sp : Nat → Bool, (∀ p ∈ before, sp p.block = true) → DataW.TrodAll enc P W' 0 sp true f.params.toList args.toList (s.fn H (ds ++ gs)).args before := fun sp hsp => by
    rw [hargs]
    exact trodAll_kept hl hT hA (fun p hp => hb.same (hlt p hp)) hsp
  have hvs : ∀ sp : Nat → Bool, DataW.TrodVars enc P W' sp s.vars (s.fn H (ds ++ gs)).vars [] := fun sp => by rw [hv, hvars]; rfl
  have hold : ∀ p ∈ before, (fun b => decide (b < W.heap.size)) p.block = true := fun p hp => by simpa using hlt p hp
  refine ⟨ds, gs, before, [], before, [], hW, hres _ _ _, key _ hold, hvs _, World.keptBut_mono (fun p hp => ⟨hp, .inr (.inl hp)⟩) (hb.frame (· ∈ before)), fun _ => ?_⟩
  obtain ⟨_, _, _, _, _, hz, hn⟩ := hW
  refine ⟨hok, _, _, ([] ++ before) ++ [], ⟨[] ++ before, [], trodAll_append (key _ (fun _ _ => rfl)) (hres _ _ _), hvs _, rfl, ?_, ?_⟩, ?_⟩
  · intro b off hp
    have hin : MemPlace.cell b off ∈ before := by simpa using hp
    rw [hb.frozen (hlt _ hin)]
    exact hz b off hin
  · intro ha
    simpa using hn ha
  · intro p hp _
    simpa using hp
end
section
variable {H : Type} {enc : TypeId × Value → H} {W : World}
set_option maxRecDepth 100000 in
theorem acts_open {fuel : Nat} {u : Value} {y : DataW H × List MemPlace} (h : DataW.trod enc Tryd.prog W 0 (fun _ => true) true fuel 33 [u] = some y) : ∃ l : List Ac, IsActs W W.heap.size u l := by
  rcases open_slice Tryd.underlying33 h with ⟨hc, -⟩ | ⟨a, len, cap, m, k, D, Pl, hc, -, hl, hm, hmm, -, hall⟩
  · simp only [List.cons.injEq, and_true] at hc
    subst hc
    exact ⟨[], none, 0, rfl, by simp, by simp, fun h => by simp at h⟩
  · simp only [List.cons.injEq, and_true] at hc
    subst hc
    have hlm : len ≤ m := by rw [hmm]; split <;> omega
    have ce : Tryd.prog.cellsOf 35 = 3 := by kernel_rfl
    have ci : Tryd.prog.cellsOf 3 = 1 := by kernel_rfl
    have each : ∀ i, i < len → ∃ x : Int × Int × Int, ∀ j, j < 3 → W.cell? (a.add (i * 3 + j)) = (Ac.cells ⟨x.1, x.2.1, x.2.2⟩)[j]? := fun i hi => by
      obtain ⟨cs', h1, h2⟩ := hall i (by omega)
      rw [ce] at h1
      obtain ⟨_, hlen, hcell⟩ := World.cells?_some h1
      obtain ⟨xs, k', hk, hxy, _, hxl, hf⟩ := DataW.trod_struct Tryd.underlying35 h2
      match xs, hxl, cs', hlen with
      | [y0, y1, y2], _, [v0, v1, v2], _ =>
        have g0 := hf 0 _ rfl
        have g1 := hf 1 _ rfl
        have g2 := hf 2 _ rfl
        simp [ci] at g0 g1 g2
        have e0 := hcell 0 (by omega)
        have e1 := hcell 1 (by omega)
        have e2 := hcell 2 (by omega)
        rw [add_add] at e0 e1 e2
        obtain ⟨x, q0, -, w0⟩ := DataW.trod_int Tryd.underlying3 g0
        obtain ⟨y, q1, -, w1⟩ := DataW.trod_int Tryd.underlying3 g1
        obtain ⟨z, q2, -, w2⟩ := DataW.trod_int Tryd.underlying3 g2
        simp only [List.cons.injEq, and_true] at q0 q1 q2
        subst q0 q1 q2
        refine ⟨(x, y, z), fun j hj => ?_⟩
        match j, hj with
        | 0, _ => simpa [Ac.cells] using e0
        | 1, _ => simpa [Ac.cells] using e1
        | 2, _ => simpa [Ac.cells] using e2
    obtain ⟨q, hq⟩ := choose_lt each
    refine ⟨(List.range len).map fun i => ⟨(q i).1, (q i).2.1, (q i).2.2⟩, ?_⟩
    have hll : ((List.range len).map fun i => (⟨(q i).1, (q i).2.1, (q i).2.2⟩ : Ac)).length = len := by simp
    unfold IsActs
    rw [hll]
    refine Sl.of_each Ac.len (by omega) (by simp) (by unfold maxLen at hm; omega) fun i x hi j hj => ?_
    have hi' : i < len := by have := (List.getElem?_eq_some_iff.1 hi).1; simpa using this
    rw [List.getElem?_map, List.getElem?_range hi'] at hi
    simp only [Option.map_some, Option.some.injEq] at hi
    subst hi
    exact hq i hi' j hj
set_option maxRecDepth 100000 in
theorem thr_open {fuel : Nat} {u : Value} {y : DataW H × List MemPlace} (h : DataW.trod enc Tryd.prog W 0 (fun _ => true) true fuel 23 [u] = some y) : ∃ l, IsThr W W.heap.size u l :=
  isl_open Tryd.underlying23 (by kernel_rfl) (fun n v z hz => isl_open Tryd.underlying32 (by kernel_rfl) (fun n v z hz => acts_open hz) hz) h
set_option maxRecDepth 100000 in
theorem pg_open {r : Reach} {b0 : Nat} {v : Value} {d : DataW H} {p : List MemPlace} (hv : Value.okWide Tryd.prog W r b0 25 v) (h : DataW.Trod enc Tryd.prog W 0 (fun _ => true) true 25 v d p) : ∃ vc vt P, v = .agg #[vc, vt] ∧ PgIs W W.heap.size vc vt P := by
  obtain ⟨cs, rfl, hs⟩ := okWide_struct Tryd.underlying25 hv
  obtain ⟨fuel, hf⟩ := h
  have c2 : Tryd.prog.cellsOf 25 = 2 := by kernel_rfl
  have ci : Tryd.prog.cellsOf 22 = 1 := by kernel_rfl
  have ct : Tryd.prog.cellsOf 23 = 1 := by kernel_rfl
  rw [c2] at hs
  obtain ⟨xs, k', hk, hxy, _, hxl, hfs⟩ := DataW.trod_struct Tryd.underlying25 hf
  match cs, hs, xs, hxl with
  | ⟨[u0, u1]⟩, _, [y0, y1], _ =>
    have g0 := hfs 0 _ rfl
    have g1 := hfs 1 _ rfl
    simp [Value.cells, ci, ct] at g0 g1
    obtain ⟨P2, h2⟩ := thr_open g1
    have hsl : ∃ a len cap, u0 = .slice a len cap := by
      rcases open_slice Tryd.underlying22 g0 with ⟨hc, -⟩ | ⟨a, len, cap, m, k, D, Pl, hc, -⟩ <;> simp only [List.cons.injEq, and_true] at hc
      · exact ⟨_, _, _, hc⟩
      · exact ⟨_, _, _, hc⟩
    obtain ⟨a, n, c, l, e, hl, h1⟩ := sl_ints Tryd.underlying22 Tryd.underlying3 (by kernel_rfl) (d := y0.1) (p := y0.2) ⟨k', by
      obtain ⟨_, _, _, rfl⟩ := hsl
      simpa [Value.cells] using g0⟩ hsl
    subst e
    refine ⟨_, _, ⟨l, P2⟩, rfl, ⟨?_, h2⟩⟩
    show Sl W W.heap.size 1 _ l.length (l.map (.int .i64))
    rw [hl]
    have : l.flatMap intC = l.map (.int .i64) := by
      clear h1 hl
      induction l with
      | nil => rfl
      | cons x l ih => simp [intC, ih]
    rw [← this]
    exact h1
set_option maxRecDepth 100000 in
theorem sched_open {r : Reach} {b0 : Nat} {v : Value} {d : DataW H} {p : List MemPlace} (hv : Value.okWide Tryd.prog W r b0 22 v) (h : DataW.Trod enc Tryd.prog W 0 (fun _ => true) true 22 v d p) : ∃ l : List Int, Sl W W.heap.size 1 v l.length (l.map (.int .i64)) := by
  obtain ⟨a, n, c, l, rfl, hl, h1⟩ := sl_ints Tryd.underlying22 Tryd.underlying3 (by kernel_rfl) h (okWide_slice Tryd.underlying22 hv)
  refine ⟨l, ?_⟩
  rw [hl]
  have : l.flatMap intC = l.map (.int .i64) := by
    clear h1 hl
    induction l with
    | nil => rfl
    | cons x l ih => simp [intC, ih]
  rw [← this]
  exact h1
end
end Go.Proofs.YtogphaiomlfofaaDoor
namespace Go.Proofs.YtogphaiomlfofaaDoor
open Go.ChangeShapes Go.WideShapes Go.ChangeAt Go.RowKit
set_option linter.unusedVariables false
set_option linter.unusedSimpArgs false

theorem live_of {W : World} {b off : Nat} {u : Value} (h : W.cell? ⟨b, off, none⟩ = some u) : b < W.heap.size := (cell_live h).1
theorem errRow (u : TypeId) (h : Tryd.prog.typeName? 3 u = some "*errors.errorString") : u = 139 :=
  typeName_ptr_named (nm := "errors.errorString") (by rw [show "*" ++ "errors.errorString" = "*errors.errorString" by decide]; kernel_rfl) (by kernel_rfl) (by decide) u (by rw [show "*" ++ "errors.errorString" = "*errors.errorString" by decide]; exact h)
theorem glob_of_laid {W : World} (h : laidMet Tryd.prog Rows.latchApartUptoRow.laid W) : Glob W := by
  have hp := h.tail
  obtain ⟨a, s, h1, -⟩ := laid_sentinel (P := Tryd.prog) (n := "umpire/api.ErrProg") (g := 0) (tp := 139) (te := 164) (ts := 9) hp (by kernel_rfl) (by kernel_rfl) Tryd.underlying29 errRow Tryd.underlying139 Tryd.underlying164 rfl rfl Tryd.underlying9 (by kernel_rfl) (by kernel_rfl)
  have c10 := World.var?_cell (P := Tryd.prog) (show Tryd.prog.globalNamed "umpire/api.ErrProg" = some 0 by kernel_rfl) h1 0
  have c11 : W.cell? ⟨0, 0, none⟩ = some (.iface 139 (.pointer (some a))) := by simpa using c10
  exact ⟨live_of c11, ⟨139, .pointer (some a), c11⟩, trivial⟩
end Go.Proofs.YtogphaiomlfofaaDoor
namespace Go.Proofs.YtogphaiomlfofaaDoor
open Go.ChangeShapes Go.WideShapes Go.ChangeAt Go.RowKit
set_option maxRecDepth 100000

theorem own : ownKnob Tryd.prog.godebug = none := by kernel_rfl
noncomputable def low : Nat := (World.holding Tryd.prog default ⟨#[], #[], []⟩).heap.size
def putAt (h : Array Obj) (g : Nat) (cs : Array Value) : Array Obj := h.modify g fun
  | .cells _ t frozen => .cells cs t frozen
  | o => o
noncomputable def laidWorld (os : Os) : World :=
  let w0 := World.holding Tryd.prog os ⟨#[.cells #[.string ⟨#[110, 111, 32, 112, 114, 111, 103, 114, 97, 109]⟩] 164,
    .cells #[.string ⟨#[116, 111, 111, 32, 109, 97, 110, 121]⟩] 164], #[], []⟩
  let h0 := putAt w0.heap 0 #[.iface 139 (.pointer (some ⟨low + 0, 0, none⟩))]
  let h1 := putAt h0 1 #[.iface 139 (.pointer (some ⟨low + 1, 0, none⟩))]
  { w0 with heap := h1 }
theorem laid_met (os : Os) (args : Array Value) : laidMet Tryd.prog Rows.latchApartUptoRow.laid ((laidWorld os).forCall (fun _ _ => 0) ⟨#[], args, []⟩).memory :=
  laidMet_of_run' 8 (by kernel_rfl) (by kernel_rfl)
end Go.Proofs.YtogphaiomlfofaaDoor
