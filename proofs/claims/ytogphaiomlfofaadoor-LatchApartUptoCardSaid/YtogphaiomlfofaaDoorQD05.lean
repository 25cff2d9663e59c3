/- A program's copy. The walk through a program, in memory: a thread's state written; ends. Conditions: those of each theorem, as typed. Merged by program out of 2 texts. -/
import Derived.Test.YtogphaiomlfofaaDoorQD04
import Derived.Test.YtogphaiomlfofaaDoorQD03
set_option linter.unusedVariables false
set_option linter.unusedSimpArgs false
namespace Go.Proofs.YtogphaiomlfofaaDoor
open Go.RowKit
set_option linter.unusedVariables false
set_option linter.unusedSimpArgs false
attribute [local irreducible] wpL

theorem infoI : (Tryd.prog.info? 3).map (fun i => (i.zero, i.size, i.bytes)) = some (some (.int .i64 0), 1, 8) := by kernel_rfl
theorem infoA : (Tryd.prog.info? 35).map (fun i => (i.zero, i.size, i.bytes)) = some (some (.agg #[.int .i64 0, .int .i64 0, .int .i64 0]), 3, 24) := by kernel_rfl
theorem infoX : (Tryd.prog.info? 33).map (fun i => (i.zero, i.size, i.bytes)) = some (some (.slice none 0 0), 1, 24) := by kernel_rfl
theorem infoY : (Tryd.prog.info? 32).map (fun i => (i.zero, i.size, i.bytes)) = some (some (.slice none 0 0), 1, 24) := by kernel_rfl
theorem intC_len (x : Int) : (intC x).length = 1 := rfl
theorem valC_len (x : Value) : (valC x).length = 1 := rfl
theorem in_one (x : Int) : ∀ u ∈ intC x, u.oneCell' = true := by intro u hu; simp [intC] at hu; subst hu; rfl
theorem ac_one (x : Ac) : ∀ u ∈ x.cells, u.oneCell' = true := by intro u hu; simp [Ac.cells] at hu; rcases hu with rfl | rfl | rfl <;> rfl
theorem val_one (a : Option Addr) {n c : Nat} : ∀ u ∈ valC (.slice a n c), u.oneCell' = true := by intro u hu; simp [valC] at hu; subst hu; rfl
theorem PgIs.intC {w : World} {B : Nat} {vc vt : Value} {P : Pg} (h : PgIs w B vc vt P) : Sl w B 1 vc P.cells.length (P.cells.flatMap intC) := by rw [flat_int]; exact h.cells
theorem OwnF.box2 {α : Type} {f : α → List Value} {e T : TypeId} {sz B p : Nat} {X : World} {v x y u1 u2 : Value} {l : List α} (h : OwnF f e sz X B v l) (r : X.heap[p]? = some (.cells #[x, y] T (0, 0))) (he : T ≠ e) :
    OwnF f e sz ((X.setCell ⟨p, 0, none⟩ u1).setCell ⟨p, 1, none⟩ u2) B v l :=
  OwnF.other (OwnF.other h (OwnF.neT h r he) u1) (OwnF.neT h r he) u2
theorem row2 {X : World} {p : Nat} {x y u1 u2 : Value} {T : TypeId} (r : X.heap[p]? = some (.cells #[x, y] T (0, 0))) : ((X.setCell ⟨p, 0, none⟩ u1).setCell ⟨p, 1, none⟩ u2).heap[p]? = some (.cells #[u1, u2] T (0, 0)) :=
  row_set (row_set r 0 u1) 1 u2
theorem OwnF.grwT {α β : Type} {f : α → List Value} {f1 : β → List Value} {e e1 : TypeId} {sz sz1 B B1 : Nat} {w w' : World} {v v1 v2 : Value} {l : List α} {l1 : List β} (h : OwnF f e sz w B v l) (h1 : OwnF f1 e1 sz1 w B1 v1 l1) (he : e ≠ e1) (hb : Grw w w' v1 v2) : OwnF f e sz w' B v l :=
  h.grw hb fun k hk hk1 => by
    obtain ⟨c1, r1⟩ := h.keepObj k hk
    obtain ⟨c2, r2⟩ := h1.keepObj k hk1
    rw [r1] at r2
    simp only [Option.some.injEq, Obj.cells.injEq] at r2
    exact he r2.2.1
theorem OwnTxs.map {w w' : World} {B : Nat} {v : Value} {l : List (List Ac)} (h : OwnTxs w B v l) (h1 : ∀ vs, OwnF valC 33 1 w B v vs → OwnF valC 33 1 w' B v vs) (h2 : ∀ u x, OwnActs w B u x → OwnActs w' B u x) : OwnTxs w' B v l :=
  let ⟨vs, a, b, c⟩ := h; ⟨vs, h1 vs a, b, fun k u x hu hx => h2 u x (c k u x hu hx)⟩
theorem OwnThr.map {w w' : World} {B : Nat} {v : Value} {l : List (List (List Ac))} (h : OwnThr w B v l) (h1 : ∀ vs, OwnF valC 32 1 w B v vs → OwnF valC 32 1 w' B v vs) (h2 : ∀ u x, OwnTxs w B u x → OwnTxs w' B u x) : OwnThr w' B v l :=
  let ⟨vs, a, b, c⟩ := h; ⟨vs, h1 vs a, b, fun k u x hu hx => h2 u x (c k u x hu hx)⟩
theorem OwnThr.map2 {w w' : World} {B B' : Nat} {v : Value} {l : List (List (List Ac))} (h : OwnThr w B v l) (_ : B' ≤ B) (h1 : ∀ {v} vs, OwnF valC 32 1 w B v vs → OwnF valC 32 1 w' B' v vs) (h2 : ∀ {v} vs, OwnF valC 33 1 w B v vs → OwnF valC 33 1 w' B' v vs)
    (h3 : ∀ u x, OwnActs w B u x → OwnActs w' B' u x) : OwnThr w' B' v l :=
  let ⟨vs, a, b, c⟩ := h; ⟨vs, h1 vs a, b, fun k u x hu hx => let ⟨vs2, a2, b2, c2⟩ := c k u x hu hx; ⟨vs2, h2 vs2 a2, b2, fun k u x hu hx => h3 u x (c2 k u x hu hx)⟩⟩
theorem OwnTxs.alloc {w : World} {B : Nat} {v : Value} {l : List (List Ac)} (h : OwnTxs w B v l) (o : Obj) : OwnTxs (w.alloc o) B v l := h.map (fun _ h => h.alloc o) (fun _ _ h => OwnF.alloc h o)
theorem OwnThr.alloc {w : World} {B : Nat} {v : Value} {l : List (List (List Ac))} (h : OwnThr w B v l) (o : Obj) : OwnThr (w.alloc o) B v l := h.map (fun _ h => h.alloc o) (fun _ _ h => h.alloc o)
theorem OwnTxs.below {w w' : World} {B : Nat} {v : Value} {l : List (List Ac)} (h : OwnTxs w B v l) (hb : Below w.heap.size w w') : OwnTxs w' B v l := h.map (fun _ h => OwnF.below h hb) (fun _ _ h => OwnF.below h hb)
theorem OwnThr.below {w w' : World} {B : Nat} {v : Value} {l : List (List (List Ac))} (h : OwnThr w B v l) (hb : Below w.heap.size w w') : OwnThr w' B v l := h.map (fun _ h => OwnF.below h hb) (fun _ _ h => h.below hb)
theorem OwnTxs.grwT {β : Type} {f1 : β → List Value} {e1 : TypeId} {sz1 B1 B : Nat} {w w' : World} {v v1 v2 : Value} {l : List (List Ac)} {l1 : List β} (h : OwnTxs w B v l) (h1 : OwnF f1 e1 sz1 w B1 v1 l1) (he : 33 ≠ e1) (he2 : 35 ≠ e1) (hb : Grw w w' v1 v2) : OwnTxs w' B v l :=
  h.map (fun _ h => h.grwT h1 he hb) (fun _ _ h => OwnF.grwT h h1 he2 hb)
theorem OwnThr.grwT {β : Type} {f1 : β → List Value} {e1 : TypeId} {sz1 B1 B : Nat} {w w' : World} {v v1 v2 : Value} {l : List (List (List Ac))} {l1 : List β} (h : OwnThr w B v l) (h1 : OwnF f1 e1 sz1 w B1 v1 l1) (he0 : 32 ≠ e1) (he : 33 ≠ e1) (he2 : 35 ≠ e1) (hb : Grw w w' v1 v2) : OwnThr w' B v l :=
  h.map (fun _ h => h.grwT h1 he0 hb) (fun _ _ h => h.grwT h1 he he2 hb)
theorem OwnTxs.snoc {w w' : World} {B : Nat} {v v' u : Value} {l : List (List Ac)} {x : List Ac} {vs : List Value} (hv : OwnF valC 33 1 w B v vs) (hl : vs.length = l.length) (hc : ∀ (k : Nat) (u : Value) (x : List Ac), vs[k]? = some u → l[k]? = some x → OwnActs w B u x)
    (hu : OwnActs w B u x) (h' : OwnF valC 33 1 w' B v' (vs ++ [u])) (hb : Grw w w' v v') : OwnTxs w' B v' (l ++ [x]) := by
  refine ⟨_, h', by simp [hl], fun k u' x' hu' hx' => ?_⟩
  rcases Nat.lt_trichotomy k l.length with h | h | h
  · rw [List.getElem?_append_left (by omega)] at hu' hx'
    exact OwnF.grwT (hc k u' x' hu' hx') hv (by decide) hb
  · subst h
    rw [List.getElem?_append_right (by omega)] at hu' hx'
    simp [hl] at hu' hx'
    subst hu' hx'
    exact OwnF.grwT hu hv (by decide) hb
  · rw [List.getElem?_eq_none (by simp; omega)] at hx'
    cases hx'
theorem OwnThr.snoc {w w' : World} {B : Nat} {v v' u : Value} {l : List (List (List Ac))} {x : List (List Ac)} {vs : List Value} (hv : OwnF valC 32 1 w B v vs) (hl : vs.length = l.length) (hc : ∀ (k : Nat) (u : Value) (x : List (List Ac)), vs[k]? = some u → l[k]? = some x → OwnTxs w B u x)
    (hu : OwnTxs w B u x) (h' : OwnF valC 32 1 w' B v' (vs ++ [u])) (hb : Grw w w' v v') : OwnThr w' B v' (l ++ [x]) := by
  refine ⟨_, h', by simp [hl], fun k u' x' hu' hx' => ?_⟩
  rcases Nat.lt_trichotomy k l.length with h | h | h
  · rw [List.getElem?_append_left (by omega)] at hu' hx'
    exact (hc k u' x' hu' hx').grwT hv (by decide) (by decide) hb
  · subst h
    rw [List.getElem?_append_right (by omega)] at hu' hx'
    simp [hl] at hu' hx'
    subst hu' hx'
    exact hu.grwT hv (by decide) (by decide) hb
  · rw [List.getElem?_eq_none (by simp; omega)] at hx'
    cases hx'
theorem take_step {α : Type} {l : List α} {k : Nat} {x : α} (h : l[k]? = some x) : l.take (k + 1) = l.take k ++ [x] := by rw [List.take_add_one, h]; rfl
def CloneRet (P : Pg) (w : World) (e : Ending) (w' : World) : Prop := ∃ uc ut, e = .returned (.agg #[uc, ut]) ∧ OwnI w' w.heap.size uc P.cells ∧ OwnThr w' w.heap.size ut P.threads ∧ Below w.heap.size w w'
def CloneMid (P : Pg) (w W : World) (ac : Option Addr) (cc : Nat) (at' : Option Addr) (ct : Nat) : Exit → Act → World → Prop := fun e a' X =>
  ∃ (p3 g : Nat) (uc : Value), e = .normal ∧ a' = { tmps := #[(.agg #[.slice ac P.cells.length cc, .slice at' P.threads.length ct]), .pointer (some ⟨w.heap.size, 0, none⟩), .pointer (some ⟨w.heap.size + 1, 0, none⟩), .pointer (some ⟨p3, 0, none⟩), undef, undef, undef, undef, undef, .pointer (some ⟨w.heap.size, 0, none⟩), .slice ac P.cells.length cc, .int .i64 P.cells.length, .slice (some ⟨g, 0, none⟩) 0 P.cells.length, .pointer (some ⟨w.heap.size, 0, none⟩), .slice ac P.cells.length cc, uc, .agg #[uc, .slice none 0 0], undef, undef, undef, undef, undef, undef, undef, undef, undef, undef, undef, undef, undef, undef, undef, undef, undef, undef, undef, undef, undef, undef, undef, undef, undef, undef, undef, undef, undef, undef, undef, undef, undef], defers := [] } ∧ W.heap.size ≤ p3 ∧ X.heap[p3]? = some (.cells #[uc, .slice none 0 0] 25 (0, 0)) ∧ OwnI X W.heap.size uc P.cells ∧ Below W.heap.size W X
set_option maxRecDepth 100000 in
set_option maxHeartbeats 2000000 in
theorem p_Clone (vc vt : Value) (P : Pg) (w : World) (h : PgIs w w.heap.size vc vt P) (hP : PgOk P) : Calls Tryd.prog 31 #[.agg #[vc, vt]] w (CloneRet P w) := by
  obtain ⟨ac, cc, rfl, mc⟩ := h.cells.ex
  obtain ⟨at', ct, rfl, mt⟩ := h.thr.ex
  have H := hid h
  have HP := hid hP
  have hc4 := hP.cells
  have ht4 := hP.threads
  clear h hP
  go_enter Tryd.func31, Tryd.ntmps31
  go_wp2
  have b0 : Below w.heap.size w ((w.alloc (.cells #[(.slice ac P.cells.length cc), (.slice at' P.threads.length ct)] 25)).alloc (.cells #[.slice none 0 0, .slice none 0 0] 25)) := ((Below.refl _ w).alloc (Nat.le_refl _) _).alloc (by simp) _
  have r1 := row_old (o := .cells #[.slice none 0 0, .slice none 0 0] 25) (row_new w (.cells #[(.slice ac P.cells.length cc), (.slice at' P.threads.length ct)] 25))
  have r2 := row_new' (w := w.alloc (.cells #[(.slice ac P.cells.length cc), (.slice at' P.threads.length ct)] 25)) (o := .cells #[.slice none 0 0, .slice none 0 0] 25) (g := w.heap.size + 1) (by simp)
  have z0 : w.heap.size + 2 ≤ ((w.alloc (.cells #[(.slice ac P.cells.length cc), (.slice at' P.threads.length ct)] 25)).alloc (.cells #[.slice none 0 0, .slice none 0 0] 25)).heap.size := by simp
  generalize (w.alloc (.cells #[(.slice ac P.cells.length cc), (.slice at' P.threads.length ct)] 25)).alloc (.cells #[.slice none 0 0, .slice none 0 0] 25) = W at *
  have d0 : W.cell? ⟨w.heap.size, 0, none⟩ = some (.slice ac P.cells.length cc) := row_cell r1 0
  have R2 := hid r2
  have R1 := hid r1
  have B0 := hid b0
  have lw : w.heap.size < W.heap.size := by omega
  clear r1 r2 b0
  refine wp_mono (Q := CloneMid P w W ac cc at' ct) ?_ ?_
  ·
    refine RN.wp_region_t (W.heap.size) [0, 1, 0, 3, 0, 1, 2, 0, 3, 2] (.frk [0, 1, 2, 4, 5] (.frk [3] (.fin [6, 7, 8, 9]) (.fin [8, 6, 7, 9])) (.fin [8, 3, 6, 7, 9])) (by kernel_rfl) (by kernel_rfl) (by kernel_rfl) (by kernel_rfl) ?_
    simp only [RN.wpT, selX, guardAt, sD, sE, sF, sG]
    repeat (first | (refine RN.wpL_p (fun K hK => ?_); go_simp; refine hK _ _ ?_; clear hK K) | (apply RN.wpL_s; (intro w2 hw2; have hk1 := hw2.cell; have hk3 := hw2.1; clear hw2; go_simp; with_reducible rfl); simp only [Act.put, sA, sB, sC]) | (refine RN.wpL_nil ?_))
    refine ⟨?_, ?_⟩
    · -- the list is made first
      refine RN.wpL_k (fun K hK => ?_)
      refine wp_makeF (f := intC) (e := 3) (sz := 1) (B := W.heap.size) _ _ _ rfl _ 8 Tryd.underlying22 infoI rfl rfl (by first | omega | (simp <;> omega)) (by first | omega | (simp <;> omega)) (by first | omega | (simp <;> omega)) ?_
      intro w1 o1 b1 z1
      refine hK _ _ (RN.KeepsN.of_below b1) ?_
      clear hK K
      have b1 : Below W.heap.size W w1 := (Below.refl _ W).drew.trans b1
      have z1 : W.heap.size + 1 ≤ w1.heap.size := z1
      repeat (first | (refine RN.wpL_p (fun K hK => ?_); go_simp; refine hK _ _ ?_; clear hK K) | (apply RN.wpL_s; (intro w2 hw2; have hk1 := hw2.cell; have hk3 := hw2.1; clear hw2; go_simp; with_reducible rfl); simp only [Act.put, sA, sB, sC]) | (refine RN.wpL_nil ?_))
      refine ⟨?_, ?_⟩
      · -- then it is filled
        refine RN.wpL_e (fun K hK => ?_)
        refine wp_appA _ _ _ rfl _ 8 Tryd.underlying22 infoI rfl o1 P.cells rfl ((H.out.below B0.out).below (b1.mono (by omega))).intC (by first | omega | (simp <;> omega)) rfl rfl intC_len in_one (by first | omega | (simp <;> omega)) (by first | omega | (simp <;> omega)) ?_
        intro v' w2 o2 g2
        refine hK _ _ ?_
        clear hK K
        obtain ⟨ua, uk, rfl, -⟩ := OwnF.form2 (show OwnI w2 W.heap.size v' P.cells from o2)
        have b2 := b1.trans (g2.below b1.size fun k h => (o1.lt k h).1)
        have O2 := hid (show OwnI w2 W.heap.size (.slice ua P.cells.length uk) P.cells from o2)
        have B2 := hid b2
        have z2 := b2.size
        clear o1 b1 g2 o2 b2
        repeat (first | (refine RN.wpL_p (fun K hK => ?_); go_simp; refine hK _ _ ?_; clear hK K) | (apply RN.wpL_s; (intro w2 hw2; have hk1 := hw2.cell; have hk3 := hw2.1; clear hw2; go_simp; with_reducible rfl); simp only [Act.put, sA, sB, sC]) | (refine RN.wpL_nil ?_))
        refine RN.wpL_k (fun K hK => ?_)
        go_simp
        refine hK _ _ (RN.KeepsN.alloc _ _ (by first | omega | exact Nat.le_refl _)) ?_
        clear hK K
        repeat (first | (refine RN.wpL_p (fun K hK => ?_); go_simp; refine hK _ _ ?_; clear hK K) | (apply RN.wpL_s; (intro w2 hw2; have hk1 := hw2.cell; have hk3 := hw2.1; clear hw2; go_simp; with_reducible rfl); simp only [Act.put, sA, sB, sC]) | (refine RN.wpL_nil ?_))
        refine RN.wpL_e (fun K hK => ?_)
        go_simp
        refine hK _ _ ?_
        clear hK K
        repeat (first | (refine RN.wpL_p (fun K hK => ?_); go_simp; refine hK _ _ ?_; clear hK K) | (apply RN.wpL_s; (intro w2 hw2; have hk1 := hw2.cell; have hk3 := hw2.1; clear hw2; go_simp; with_reducible rfl); simp only [Act.put, sA, sB, sC]) | (refine RN.wpL_nil ?_))
        exact ⟨w2.heap.size, W.heap.size, _, rfl, rfl, by omega, row_new w2 _, O2.out.alloc _, B2.out.alloc z2 _⟩
      · -- then the box is laid
        refine RN.wpL_k (fun K hK => ?_)
        go_simp
        refine hK _ _ (RN.KeepsN.alloc _ _ (by first | omega | exact Nat.le_refl _)) ?_
        clear hK K
        have b3 := b1.alloc (by omega) (.cells #[.slice none 0 0, .slice none 0 0] 25)
        have r3 := row_new w1 (.cells #[.slice none 0 0, .slice none 0 0] 25)
        have o3 := o1.alloc (.cells #[.slice none 0 0, .slice none 0 0] 25)
        have z3 : w1.heap.size + 1 ≤ (w1.alloc (.cells #[.slice none 0 0, .slice none 0 0] 25)).heap.size := by simp
        generalize hX : w1.alloc (.cells #[.slice none 0 0, .slice none 0 0] 25) = X3 at *
        refine RN.wpL_e (fun K hK => ?_)
        refine wp_appA _ _ _ rfl _ 8 Tryd.underlying22 infoI rfl o3 P.cells rfl ((H.out.below B0.out).below (b3.mono (by omega))).intC (by first | omega | (simp <;> omega)) rfl rfl intC_len in_one (by first | omega | (simp <;> omega)) (by first | omega | (simp <;> omega)) ?_
        intro v' w2 o2 g2
        refine hK _ _ ?_
        clear hK K
        obtain ⟨ua, uk, rfl, -⟩ := OwnF.form2 (show OwnI w2 W.heap.size v' P.cells from o2)
        have b2 := b3.trans (g2.below b3.size fun k h => (o3.lt k h).1)
        have r2 := row_grw r3 g2 (by simp [Value.ownBlock]; omega)
        have O2 := hid (show OwnI w2 W.heap.size (.slice ua P.cells.length uk) P.cells from o2)
        have B2 := hid b2
        have z2 := b2.size
        have z4 := g2.size
        clear o1 o3 b1 b3 g2 o2 b2 r3
        have y0 : w2.cell? ⟨w1.heap.size, 0, none⟩ = some (.slice none 0 0) := row_cell r2 0
        have y1 : w2.cell? ⟨w1.heap.size, 1, none⟩ = some (.slice none 0 0) := row_cell r2 1
        have yf : ∀ j, w2.frozen? ⟨w1.heap.size, j, none⟩ = false := fun j => row_free r2 j
        have R3 := hid r2
        clear r2
        repeat (first | (refine RN.wpL_p (fun K hK => ?_); go_simp; refine hK _ _ ?_; clear hK K) | (apply RN.wpL_s; (intro w2 hw2; have hk1 := hw2.cell; have hk3 := hw2.1; clear hw2; go_simp; with_reducible rfl); simp only [Act.put, sA, sB, sC]) | (refine RN.wpL_nil ?_))
        refine RN.wpL_e (fun K hK => ?_)
        go_simp
        refine hK _ _ ?_
        clear hK K
        repeat (first | (refine RN.wpL_p (fun K hK => ?_); go_simp; refine hK _ _ ?_; clear hK K) | (apply RN.wpL_s; (intro w2 hw2; have hk1 := hw2.cell; have hk3 := hw2.1; clear hw2; go_simp; with_reducible rfl); simp only [Act.put, sA, sB, sC]) | (refine RN.wpL_nil ?_))
        exact ⟨w1.heap.size, W.heap.size, _, rfl, rfl, by omega, row2 R3.out, OwnF.box2 O2.out R3.out (by decide),
          (B2.out.setCell (p := ⟨w1.heap.size, 0, none⟩) (by show W.heap.size ≤ w1.heap.size; omega) _).setCell (p := ⟨w1.heap.size, 1, none⟩) (by show W.heap.size ≤ w1.heap.size; omega) _⟩
    · -- the box is laid first
      refine RN.wpL_k (fun K hK => ?_)
      go_simp
      refine hK _ _ (RN.KeepsN.alloc _ _ (by first | omega | exact Nat.le_refl _)) ?_
      clear hK K
      have b3 : Below W.heap.size W (W.alloc (.cells #[.slice none 0 0, .slice none 0 0] 25)).drew := ((Below.refl _ W).alloc (Nat.le_refl _) _).drew
      have r3 : (W.alloc (.cells #[.slice none 0 0, .slice none 0 0] 25)).drew.heap[W.heap.size]? = some (.cells #[.slice none 0 0, .slice none 0 0] 25 (0, 0)) := row_new W _
      have z3 : W.heap.size + 1 ≤ (W.alloc (.cells #[.slice none 0 0, .slice none 0 0] 25)).drew.heap.size := by show _ ≤ (W.alloc _).heap.size; simp
      generalize hX : (W.alloc (.cells #[.slice none 0 0, .slice none 0 0] 25)).drew = X3 at *
      refine RN.wpL_k (fun K hK => ?_)
      refine wp_makeF (f := intC) (e := 3) (sz := 1) (B := W.heap.size) _ _ _ rfl _ 8 Tryd.underlying22 infoI rfl rfl (by first | omega | (simp <;> omega)) (by first | omega | (simp <;> omega)) (by first | omega | (simp <;> omega)) ?_
      intro w1 o1 b1 z1
      refine hK _ _ (RN.KeepsN.of_below (b1.mono (by omega))) ?_
      clear hK K
      have b5 := b3.trans (b1.mono (by omega))
      have r5 := row_below r3 b1 (by omega)
      repeat (first | (refine RN.wpL_p (fun K hK => ?_); go_simp; refine hK _ _ ?_; clear hK K) | (apply RN.wpL_s; (intro w2 hw2; have hk1 := hw2.cell; have hk3 := hw2.1; clear hw2; go_simp; with_reducible rfl); simp only [Act.put, sA, sB, sC]) | (refine RN.wpL_nil ?_))
      refine RN.wpL_e (fun K hK => ?_)
      refine wp_appA _ _ _ rfl _ 8 Tryd.underlying22 infoI rfl o1 P.cells rfl ((H.out.below B0.out).below (b5.mono (by omega))).intC (by first | omega | (simp <;> omega)) rfl rfl intC_len in_one (by first | omega | (simp <;> omega)) (by first | omega | (simp <;> omega)) ?_
      intro v' w2 o2 g2
      refine hK _ _ ?_
      clear hK K
      obtain ⟨ua, uk, rfl, -⟩ := OwnF.form2 (show OwnI w2 W.heap.size v' P.cells from o2)
      have b2 := b5.trans (g2.below b5.size fun k h => (o1.lt k h).1)
      have r2 := row_grw r5 g2 (by simp [Value.ownBlock]; omega)
      have O2 := hid (show OwnI w2 W.heap.size (.slice ua P.cells.length uk) P.cells from o2)
      have B2 := hid b2
      have z2 := b2.size
      have z4 := g2.size
      clear o1 b1 b3 b5 g2 o2 b2 r3 r5
      have y0 : w2.cell? ⟨W.heap.size, 0, none⟩ = some (.slice none 0 0) := row_cell r2 0
      have y1 : w2.cell? ⟨W.heap.size, 1, none⟩ = some (.slice none 0 0) := row_cell r2 1
      have yf : ∀ j, w2.frozen? ⟨W.heap.size, j, none⟩ = false := fun j => row_free r2 j
      have R3 := hid r2
      have y2 : W.heap.size < w2.heap.size := by omega
      clear r2
      repeat (first | (refine RN.wpL_p (fun K hK => ?_); go_simp; refine hK _ _ ?_; clear hK K) | (apply RN.wpL_s; (intro w2 hw2; have hk1 := hw2.cell; have hk3 := hw2.1; clear hw2; go_simp; with_reducible rfl); simp only [Act.put, sA, sB, sC]) | (refine RN.wpL_nil ?_))
      refine RN.wpL_e (fun K hK => ?_)
      go_simp
      refine hK _ _ ?_
      clear hK K
      repeat (first | (refine RN.wpL_p (fun K hK => ?_); go_simp; refine hK _ _ ?_; clear hK K) | (apply RN.wpL_s; (intro w2 hw2; have hk1 := hw2.cell; have hk3 := hw2.1; clear hw2; go_simp; with_reducible rfl); simp only [Act.put, sA, sB, sC]) | (refine RN.wpL_nil ?_))
      exact ⟨W.heap.size, X3.heap.size, _, rfl, rfl, Nat.le_refl _, row2 R3.out, OwnF.box2 O2.out R3.out (by decide),
        (B2.out.setCell (p := ⟨W.heap.size, 0, none⟩) (Nat.le_refl _) _).setCell (p := ⟨W.heap.size, 1, none⟩) (Nat.le_refl _) _⟩
  · rintro e a' X ⟨p3, g, uc, rfl, rfl, hp3, r3, O3, B3⟩
    dsimp only
    have z3 := B3.size
    have lp3 := row_lt r3
    have d1 : X.cell? ⟨w.heap.size, 1, none⟩ = some (.slice at' P.threads.length ct) := cell_below B3 lw (row_cell R1.out 1)
    have HX := hid (((H.out.below B0.out).below (B3.mono (by omega))))
    have BX := hid (B0.out.trans (B3.mono (by omega)))
    have lwX : w.heap.size < X.heap.size := by omega
    have R3 := hid r3
    have O3 := hid O3
    have HW := hid (H.out.below B0.out)
    clear r3 d0 R1 H HX
    go_wp2_with fail
    go_loopw [20] (fun p wr => ∃ (i : Nat) (ut : Value), i ≤ P.threads.length ∧ p = .int .i64 i ∧ Below W.heap.size W wr ∧ wr.heap[p3]? = some (.cells #[uc, ut] 25 (0, 0)) ∧ OwnI wr W.heap.size uc P.cells ∧ OwnThr wr W.heap.size ut (P.threads.take i)) (fun p _ => P.threads.length - (intOf p).toNat)
    case atStart => exact ⟨0, .slice none 0 0, by omega, by go_num, B3, R3.out, O3.out, [], OwnF.nil _ _, rfl, fun k u x hu => by simp at hu⟩
    case round =>
      obtain ⟨i, ut, hi, rfl, hB, r3, hO, hT⟩ := hrel
      have zB := hB.size
      by_cases hlt : i < P.threads.length
      · obtain ⟨b, off, u, t, hat, hb, ht, hu, hut⟩ := HW.out.thr.at rfl hlt
        have hu := cell_below (hB.mono (show w.heap.size ≤ W.heap.size by omega)) hb hu
        obtain ⟨au, cu, rfl, mu⟩ := hut.ex
        have ht3 := HP.out.txs t (List.mem_of_getElem? ht)
        have hal := HP.out.acts t (List.mem_of_getElem? ht)
        have HAL := hid hal
        have HT0 := hid ht
        have HUT := hid hut
        have R3 := hid r3
        have HO := hid hO
        have HTT := hid hT
        have HB := hid hB
        have hbz : b < wr.heap.size := by omega
        subst hat
        clear r3 hO hT hB ht hut hal O3 B3
        obtain ⟨wo, rfl⟩ : ∃ wo, wo = wr := ⟨_, rfl⟩
        go_wp2_with (at_make; refine wpList_makeF (f := valC) (e := 33) (sz := 1) (B := wo.heap.size) rfl _ _ _ rfl _ 24 Tryd.underlying32 infoX rfl rfl (by first | omega | (simp <;> omega)) (by first | omega | (simp <;> omega)) (by first | omega | (simp <;> omega)) ?_; refine Stop.halt ?_)
        refine Stop.go ?_
        intro w1 o1 b1 z1
        have B1 := hid b1
        have O1 := hid o1
        clear o1 b1 hu
        go_wp2_with fail
        go_loopw [6, 29] (fun q p wr => ∃ (k : Nat), k ≤ t.length ∧ p = .int .i64 k ∧ Below wo.heap.size wo wr ∧ OwnTxs wr wo.heap.size q (t.take k)) (fun _ p _ => t.length - (intOf p).toNat)
        case atStart => exact ⟨0, by omega, by go_num, B1.out, [], O1.out, rfl, fun k u x hu => by simp at hu⟩
        case round =>
          obtain ⟨k, hk, rfl, hB, hQ⟩ := hrel
          have zo := hB.size
          by_cases hlk : k < t.length
          · obtain ⟨vs, hv, hvl, hvc⟩ := hQ
            obtain ⟨aq, cq, rfl, -⟩ := hv.form2
            have hvk : vs.length = k := by rw [hvl, List.length_take]; omega
            have hvk3 : vs.length ≤ 3 := by omega
            rw [hvk]
            rw [hvk] at hv
            have hB0 := HB.out.trans (hB.mono zB)
            have B := hid hB
            have HV := hid hv
            have HVC := hid hvc
            have HVL := hid hvl
            obtain ⟨b', off', u', l, hal', hb', hl, hu', hul⟩ := HUT.out.at rfl hlk
            obtain ⟨al, cl, rfl, ml⟩ := Sl.ex (show Sl W w.heap.size 3 u' l.length (l.flatMap Ac.cells) from hul)
            have hu' := cell_below (hB0.mono (show w.heap.size ≤ W.heap.size by omega)) hb' hu'
            have hbz' : b' < wr.heap.size := by omega
            have HUL := hid (show Sl wr w.heap.size 3 (.slice al l.length cl) l.length (l.flatMap Ac.cells) from Sl.below (show Sl W w.heap.size 3 (.slice al l.length cl) l.length (l.flatMap Ac.cells) from hul) (hB0.mono (by omega)))
            have hll := HAL.out l (List.mem_of_getElem? hl)
            have HL := hid hl
            subst hal'
            clear hl hul hv hvc hvl hB hvk hB0 O1 B1
            go_wp2_with (at_make; refine wpList_makeF (f := Ac.cells) (e := 35) (sz := 3) (B := wr.heap.size) rfl _ _ _ rfl _ 24 Tryd.underlying33 infoA rfl rfl (by first | omega | (simp <;> omega)) (by first | omega | (simp <;> omega)) (by first | omega | (simp <;> omega)) ?_; refine Stop.halt ?_)
            refine Stop.go ?_
            intro w2 o2 b2 z2
            have B2 := hid b2
            have O2 := hid o2
            clear o2 b2 hu'
            go_wp2_with (at_builtin; refine wpList_appA rfl _ _ _ rfl _ 24 Tryd.underlying33 infoA rfl O2.out l rfl (HUL.out.below (B2.out.mono (by omega))) (by first | omega | (simp <;> omega)) rfl rfl Ac.len ac_one (by first | omega | (simp <;> omega)) (by first | omega | (simp <;> omega)) ?_; refine Stop.halt ?_)
            refine Stop.go ?_
            intro va w3 o3 g3
            obtain ⟨ga, ka, rfl, -⟩ := OwnF.form2 (show OwnActs w3 wr.heap.size va l from o3)
            have z2' := B2.out.size
            have b3 := B2.out.trans (g3.below z2' fun q h => (O2.out.lt q h).1)
            have O3 := hid (OwnF.base (show OwnActs w3 wr.heap.size (.slice ga l.length ka) l from o3) zo)
            have V3 := hid (OwnF.below HV.out b3)
            have VC3 := hid (fun (q : Nat) (u : Value) (x : List Ac) (h1 : vs[q]? = some u) (h2 : (t.take k)[q]? = some x) => OwnF.below (HVC.out q u x h1 h2) b3)
            have B3 := hid (B.out.trans (b3.mono zo))
            have z3 := b3.size
            clear o3 g3 B2 O2 b3 HV HVC B
            go_wp2_with (at_builtin; refine wpList_appF rfl _ _ _ rfl _ 24 Tryd.underlying32 infoX rfl V3.out (.slice ga l.length ka) (by first | omega | (simp <;> omega)) (by rfl) (by rfl) (by first | rfl | simp) rfl (val_one _) (by first | omega | (simp only [List.length_append, List.length_cons, List.length_nil, List.length_replicate]; omega)) (by first | omega | (simp only [List.length_append, List.length_cons, List.length_nil, List.length_replicate]; omega)) ?_; refine Stop.halt ?_)
            refine Stop.go ?_
            intro g4 c4 w4 o4 G4
            have T4 := hid (OwnTxs.snoc V3.out HVL.out VC3.out O3.out o4 G4)
            have B4 := hid (B3.out.trans (G4.below B3.out.size fun q h => (V3.out.lt q h).1))
            clear o4 G4
            go_wp2_with fail
            go_roundw
            case rel => exact ⟨k + 1, by omega, by go_num, B4.out, by rw [take_step HL.out]; exact T4.out⟩
            case measure => simp [intOf]; omega
          · obtain rfl : k = t.length := by omega
            rw [List.take_length] at hQ
            have hB0 := HB.out.trans (hB.mono zB)
            have r5 := row_below R3.out hB (row_lt R3.out)
            have O5 := hid (OwnF.below HO.out hB)
            have T5 := HTT.out.below hB
            obtain ⟨vs, hv, hvl, hvc⟩ := hQ
            obtain ⟨aq, cq, rfl, -⟩ := hv.form2
            have Q5 := hid (show OwnTxs wr W.heap.size (.slice aq vs.length cq) t from ⟨vs, hv.base zB, hvl, fun q u x h1 h2 => OwnF.base (hvc q u x h1 h2) zB⟩)
            obtain ⟨ts, ht1, ht2, ht3⟩ := T5
            obtain ⟨at5, ct5, rfl, -⟩ := ht1.form2
            have htk : ts.length = i := by rw [ht2, List.length_take]; omega
            have htk4 : ts.length ≤ 4 := by omega
            rw [htk] at ht1 r5
            have H1 := hid ht1
            have H2 := hid ht2
            have H3 := hid ht3
            have R5 := hid r5
            have B5 := hid hB0
            have e1 := row_cell r5 1
            have l5 := row_lt r5
            have ef := row_free r5 1
            have hvt : vs.length ≤ 3 := by omega
            clear hv hvl hvc ht1 ht2 ht3 r5 hB hB0 R3 HO HTT HB B1 O1 htk
            go_wp2_with (at_builtin; refine wpList_appF rfl _ _ _ rfl _ 24 Tryd.underlying23 infoY rfl H1.out (.slice aq vs.length cq) (by first | omega | (simp <;> omega)) (by rfl) (by rfl) (by first | rfl | simp) rfl (val_one _) (by first | omega | (simp only [List.length_append, List.length_cons, List.length_nil, List.length_replicate]; omega)) (by first | omega | (simp only [List.length_append, List.length_cons, List.length_nil, List.length_replicate]; omega)) ?_; refine Stop.halt ?_)
            refine Stop.go ?_
            intro g4 c4 w4 o4 G4
            have T6 := OwnThr.snoc H1.out H2.out H3.out Q5.out o4 G4
            have B6 := B5.out.trans (G4.below B5.out.size fun q h => (H1.out.lt q h).1)
            have R6 := row_grw R5.out G4 (OwnF.neT H1.out R5.out (by decide))
            have O6 := O5.out.grwT H1.out (by decide) G4
            have f6 := row_free R6 1
            have y6 := row_cell R6 1
            have l6 := row_lt R6
            have T6 := hid T6
            have B6 := hid B6
            have R6 := hid R6
            have O6 := hid O6
            clear o4 G4 e1 ef
            go_wp2_with fail
            go_roundw
            case rel =>
              refine ⟨i + 1, _, by omega, by go_num, B6.out.setCell (p := ⟨p3, 1, none⟩) hp3 _, row_set R6.out 1 _, OwnF.other O6.out (OwnF.neT O6.out R6.out (by decide)) _, ?_⟩
              rw [take_step HT0.out]
              exact T6.out.map (fun vs h => OwnF.other h (OwnF.neT h R6.out (by decide)) _) (fun u x h => h.map (fun vs h => OwnF.other h (OwnF.neT h R6.out (by decide)) _) (fun u x h => OwnF.other h (OwnF.neT h R6.out (by decide)) _))
            case measure => simp [intOf]; omega
      · obtain rfl : i = P.threads.length := by omega
        rw [List.take_length] at hT
        have r2 := row_below R2.out hB (by omega)
        obtain ⟨aq, cq, hut, -⟩ : ∃ a c, ut = .slice a P.threads.length c ∧ True := by
          obtain ⟨ts, h1, h2, -⟩ := hT
          obtain ⟨a, c, e, -⟩ := h1.form2
          exact ⟨a, c, by rw [e, h2], trivial⟩
        subst hut
        obtain ⟨a6, c6, rfl, -⟩ := hO.form2
        have e0 : wr.cell? ⟨p3, 0, none⟩ = some (.slice a6 P.cells.length c6) := row_cell r3 0
        have e1 : wr.cell? ⟨p3, 1, none⟩ = some (.slice aq P.threads.length cq) := row_cell r3 1
        have y0 : wr.cell? ⟨w.heap.size + 1, 0, none⟩ = some (.slice none 0 0) := row_cell r2 0
        have y1 : wr.cell? ⟨w.heap.size + 1, 1, none⟩ = some (.slice none 0 0) := row_cell r2 1
        have yf : ∀ j, wr.frozen? ⟨w.heap.size + 1, j, none⟩ = false := fun j => row_free r2 j
        have l3 := row_lt r3
        have l2 := row_lt r2
        have HB := hid hB
        have HO := hid hO
        have HTT := hid hT
        have R4 := hid r2
        clear hB hO hT r2 r3 O3 B3 BX R2
        go_wp2
        have r4 := row2 (u1 := .slice a6 P.cells.length c6) (u2 := .slice aq P.threads.length cq) R4.out
        have c0 := row_cell r4 0
        have c1 := row_cell r4 1
        simp only [List.getElem?_toArray, List.getElem?_cons_zero, List.getElem?_cons_succ] at c0 c1
        refine bodyPost_ret (v := .agg #[.slice a6 P.cells.length c6, .slice aq P.threads.length cq]) (by simp [results, Tryd.results31, go_sem, c0, c1]) rfl ⟨_, _, rfl, ?_, ?_, ?_⟩
        · exact OwnF.base (OwnF.box2 HO.out R4.out (by decide)) (by omega)
        · exact HTT.out.map2 (by omega) (fun vs h => OwnF.base (OwnF.box2 h R4.out (by decide)) (by omega)) (fun vs h => OwnF.base (OwnF.box2 h R4.out (by decide)) (by omega)) (fun u x h => OwnF.base (OwnF.box2 h R4.out (by decide)) (by omega))
        · exact ((B0.out.trans (HB.out.mono (by omega))).setCell (p := ⟨w.heap.size + 1, 0, none⟩) (by show w.heap.size ≤ w.heap.size + 1; omega) _).setCell (p := ⟨w.heap.size + 1, 1, none⟩) (by show w.heap.size ≤ w.heap.size + 1; omega) _
end Go.Proofs.YtogphaiomlfofaaDoor
namespace Go.Proofs.YtogphaiomlfofaaDoor
open Go.RowKit
set_option linter.unusedVariables false
set_option linter.unusedSimpArgs false
attribute [local irreducible] wpL

theorem ownsRow_set {w : World} {B sz n g cap : Nat} {e : TypeId} {xs : List Value} (h : w.ownsRow B e sz (.slice (some ⟨g, 0, none⟩) n cap) n xs) (j : Nat) (u : Value) :
    (w.setCell ⟨g, j, none⟩ u).ownsRow B e sz (.slice (some ⟨g, 0, none⟩) n cap) n (xs.set j u) := by
  obtain ⟨h1, h2⟩ := h
  refine ⟨by simpa using h1, ?_⟩
  rcases h2 with ⟨h2, -⟩ | ⟨g', cap', cur, hv, hg, hh, hnc, hcm, hs, ht⟩
  · cases h2
  · simp only [Value.slice.injEq, Option.some.injEq, Addr.mk.injEq, and_true, true_and] at hv
    obtain ⟨rfl, rfl⟩ := hv
    refine .inr ⟨g, cap, cur.setIfInBounds j u, rfl, hg, row_set hh j u, hnc, hcm, by simpa using hs, ?_⟩
    rw [← ht, Array.toList_setIfInBounds, List.take_set]
def Th.put (t : Th) : Nat → Th → Th
  | 0, u => { t with tx := u.tx }
  | 1, u => { t with act := u.act }
  | 2, u => { t with begun := u.begun }
  | 3, u => { t with adding := u.adding }
  | 4, u => { t with read := u.read }
  | _, u => { t with waits := u.waits }
theorem th_set : ∀ (l : List Th) (i j : Nat) (t u : Th), l[i]? = some t → j < 6 → ∀ v, u.cells[j]? = some v → (l.flatMap Th.cells).set (i * 6 + j) v = (l.set i (t.put j u)).flatMap Th.cells
  | [], i, j, t, u, h, _, _, _ => by simp at h
  | x :: l, 0, j, t, u, h, hj, v, hv => by
    simp only [List.getElem?_cons_zero, Option.some.injEq] at h
    subst h
    match j, hj with
    | 0, _ => simp [Th.cells] at hv; subst hv; simp [Th.put, Th.cells]
    | 1, _ => simp [Th.cells] at hv; subst hv; simp [Th.put, Th.cells]
    | 2, _ => simp [Th.cells] at hv; subst hv; simp [Th.put, Th.cells]
    | 3, _ => simp [Th.cells] at hv; subst hv; simp [Th.put, Th.cells]
    | 4, _ => simp [Th.cells] at hv; subst hv; simp [Th.put, Th.cells]
    | 5, _ => simp [Th.cells] at hv; subst hv; simp [Th.put, Th.cells]
  | x :: l, i + 1, j, t, u, h, hj, v, hv => by
    have ih := th_set l i j t u (by simpa using h) hj v hv
    rw [show (i + 1) * 6 + j = i * 6 + j + 6 by omega]
    simp only [List.flatMap_cons, List.set_cons_succ, Th.cells, List.cons_append, List.nil_append]
    rw [ih]
section
variable {w : World} {B gT n c : Nat} {l : List Th}
theorem ths_set (h : OwnF Th.cells 114 6 w B (.slice (some ⟨gT, 0, none⟩) n c) l) {i j : Nat} {t u : Th} (ht : l[i]? = some t) (hj : j < 6) {v : Value} (hv : u.cells[j]? = some v) :
    OwnF Th.cells 114 6 (w.setCell ⟨gT, i * 6 + j, none⟩ v) B (.slice (some ⟨gT, 0, none⟩) n c) (l.set i (t.put j u)) := by
  have hn := h.len
  subst hn
  have := ownsRow_set h (i * 6 + j) v
  rw [th_set l i j t u ht hj v hv] at this
  unfold OwnF
  rw [List.length_set]
  exact this
theorem ths_all (h : OwnF Th.cells 114 6 w B (.slice (some ⟨gT, 0, none⟩) n c) l) {i : Nat} {t : Th} (ht : l[i]? = some t) (u : Th) :
    OwnF Th.cells 114 6 ((((((w.setCell ⟨gT, i * 6, none⟩ (.int .i64 u.tx)).setCell ⟨gT, i * 6 + 1, none⟩ (.int .i64 u.act)).setCell ⟨gT, i * 6 + 2, none⟩ (.bool u.begun)).setCell ⟨gT, i * 6 + 3, none⟩ (.bool u.adding)).setCell ⟨gT, i * 6 + 4, none⟩ (.int .i64 u.read)).setCell ⟨gT, i * 6 + 5, none⟩ (.int .i64 u.waits)) B (.slice (some ⟨gT, 0, none⟩) n c) (l.set i u) := by
  have hi := (List.getElem?_eq_some_iff.1 ht).1
  have g : ∀ (l : List Th) (x : Th), i < l.length → (l.set i x)[i]? = some x := fun l x h => List.getElem?_set_self h
  have h0 := ths_set (j := 0) h (u := u) ht (by decide) (by rfl)
  have h1 := ths_set (j := 1) h0 (u := u) (g _ _ hi) (by decide) (by rfl)
  have h2 := ths_set (j := 2) h1 (u := u) (g _ _ (by simpa using hi)) (by decide) (by rfl)
  have h3 := ths_set (j := 3) h2 (u := u) (g _ _ (by simpa using hi)) (by decide) (by rfl)
  have h4 := ths_set (j := 4) h3 (u := u) (g _ _ (by simpa using hi)) (by decide) (by rfl)
  have h5 := ths_set (j := 5) h4 (u := u) (g _ _ (by simpa using hi)) (by decide) (by rfl)
  simp only [List.set_set] at h5
  exact h5
end
theorem row_setO {w : World} {g k j : Nat} {cs cs' : Array Value} {t t' : TypeId} {fz fz' : Nat × Nat} (h : w.heap[g]? = some (.cells cs t fz)) (hk : w.heap[k]? = some (.cells cs' t' fz')) (hne : t ≠ t') (v : Value) : (w.setCell ⟨k, j, none⟩ v).heap[g]? = some (.cells cs t fz) := by
  refine row_other h ?_
  rintro rfl
  rw [hk] at h
  simp only [Option.some.injEq, Obj.cells.injEq] at h
  exact hne h.2.1.symm
theorem ThOk.zero {P : Pg} {i k : Nat} (hk : k ≤ (P.txs i).length) : ThOk P i { Th.zero with tx := k } := ⟨hk, Nat.zero_le _, .inl rfl, by simp [Th.zero]⟩
theorem WkAt.ths_put {w w' : World} {B bW gT : Nat} {vc vt ve : Value} {P : Pg} {S : Wst} (h : WkAt w B bW gT vc vt ve P S) {i : Nat} (hi : i < P.threads.length) {u : Th} (hu : ThOk P i u) (hk : Kp Mw ve w w') (hr : w'.heap[bW]? = w.heap[bW]?)
    (ht : OwnF Th.cells 114 6 w' B (.slice (some ⟨gT, 0, none⟩) P.threads.length P.threads.length) (S.ths.set i u)) (he : OwnF Ev.cells 50 8 w' B ve S.evs) : WkAt w' B bW gT vc vt ve P ⟨S.ths.set i u, S.evs⟩ := by
  refine h.turn hk (hr.trans h.row) ht he fun j x hj => ?_
  by_cases e : i = j
  · subst e
    rw [List.getElem?_set_self (by rw [h.ths.len]; exact hi)] at hj
    rw [← Option.some.inj hj]
    exact hu
  · rw [List.getElem?_set_ne e] at hj
    exact h.tok j x hj
theorem Kp.wrT {M : TypeId → Prop} {ev : Value} {w w' : World} {g : Nat} {cs cs' : Array Value} {t : TypeId} {fz : Nat × Nat} (hg : w.heap[g]? = some (.cells cs t fz)) (ht : M t) (hw : Wr g cs' t w w') : Kp M ev w w' :=
  ⟨hw.below (Nat.zero_le _), fun k c ty f hk hm _ => (hw.other k (by
    rintro rfl
    rw [hg] at hk
    simp only [Option.some.injEq, Obj.cells.injEq] at hk
    exact hm (hk.2.1 ▸ ht))).trans hk, fun k es c hk => (hw.other k (by
    rintro rfl
    rw [hg] at hk
    cases hk)).trans hk⟩
section
variable {w : World} {B bW gT : Nat} {vc vt ve : Value} {P : Pg} {S : Wst}
set_option maxRecDepth 100000 in
set_option maxHeartbeats 1000000 in
theorem wk_ends (h : WkAt w B bW gT vc vt ve P S) (hBw : B ≤ w.heap.size) (i : Nat) (hi : i < P.threads.length) {t : Th} (ht : S.ths[i]? = some t) (hd : thDone P i t = false) (k : Int) (hl : S.evs.length ≤ 100000) :
    Calls Tryd.prog 52 #[.pointer (some ⟨bW, 0, none⟩), .int .i64 i, .int .i64 k] w fun x w' =>
    x = .returned (.tuple #[evV (withTx (ev0 k) (idOf i t.tx)), .bool true]) ∧ ∃ ve', WkAt w' B bW gT vc vt ve' P ⟨S.ths.set i { Th.zero with tx := t.tx + 1 }, S.evs ++ [withTx (ev0 k) (idOf i t.tx)]⟩ ∧ Kp Mw ve w w' ∧ Below B w w' ∧ ∀ k, ve'.ownBlock = some k → ve.ownBlock = some k ∨ w.heap.size ≤ k := by
  obtain ⟨t', ht', htk, hgl, -⟩ := h.at hi
  rw [ht] at ht'
  obtain rfl := Option.some.inj ht'
  have htx := tx_lt h.ok hi htk hd
  have ht3 := Pg.tx3 h.ok hi
  have hm : P.threads.length ≤ 4 := h.ok.threads.2
  have H := hid h
  have HT := hid ht
  have hB' := hid hBw
  clear h ht ht'
  have ba : Below w.heap.size w (w.alloc (.cells #[.int .i64 0, .int .i64 0, .int .i64 0, .int .i64 0, .int .i64 0, .int .i64 0, .int .i64 0, .int .i64 0] 50)) := (Below.refl _ _).alloc (Nat.le_refl _) _
  have RZ := hid (row_new w (.cells #[.int .i64 0, .int .i64 0, .int .i64 0, .int .i64 0, .int .i64 0, .int .i64 0, .int .i64 0, .int .i64 0] 50))
  go_enter Tryd.func52, Tryd.ntmps52
  go_wp2_with fail
  obtain ⟨W, hW⟩ : ∃ W, W = w.alloc (.cells #[.int .i64 0, .int .i64 0, .int .i64 0, .int .i64 0, .int .i64 0, .int .i64 0, .int .i64 0, .int .i64 0] 50) := ⟨_, rfl⟩
  have zW : W.heap.size = w.heap.size + 1 := by rw [hW]; simp
  rw [← hW] at ba RZ ⊢
  have BA := hid ba
  have HW := hid (H.out.below ba)
  clear ba hW
  refine (wk_happens HW.out (by omega) i hi HT.out (by omega) (ev0 k) hl).mono ?_
  rintro x w1 ⟨rfl, ve1, h1, kp1, b1, ow1⟩
  have rq : w1.heap[w.heap.size]? = some (.cells #[.int .i64 0, .int .i64 0, .int .i64 0, .int .i64 0, .int .i64 0, .int .i64 0, .int .i64 0, .int .i64 0] 50 (0, 0)) := by
    refine kp1.cells _ _ _ _ RZ.out (fun hM => ?_) fun _ e => ?_
    · rcases hM with h | h <;> exact absurd h (by decide)
    · have := (H.out.evs.lt _ e).2; omega
  have RQ := hid rq
  have H1 := hid h1
  have KP1 := hid kp1
  have B1 := hid b1
  have OW1 := hid ow1
  have z1 : w.heap.size + 1 ≤ w1.heap.size := by have := kp1.size; omega
  generalize hE : withTx (ev0 k) (idOf i t.tx) = E at *
  obtain ⟨k1, k2, k3, k4, k5, k6, k7, k8⟩ := E
  clear h1 kp1 b1 ow1 rq
  go_wp2_with fail
  have bX : Below w1.heap.size w1 (w1.alloc (.cells #[.int .i64 k1, .int .i64 k2, .int .i64 k3, .int .i64 k4, .int .i64 k5, .int .i64 k6, .int .i64 k7, .int .i64 k8] 50)) := (Below.refl _ _).alloc (Nat.le_refl _) _
  have RX := row_new w1 (.cells #[.int .i64 k1, .int .i64 k2, .int .i64 k3, .int .i64 k4, .int .i64 k5, .int .i64 k6, .int .i64 k7, .int .i64 k8] 50)
  obtain ⟨X, hX⟩ : ∃ X, X = w1.alloc (.cells #[.int .i64 k1, .int .i64 k2, .int .i64 k3, .int .i64 k4, .int .i64 k5, .int .i64 k6, .int .i64 k7, .int .i64 k8] 50) := ⟨_, rfl⟩
  have zX : X.heap.size = w1.heap.size + 1 := by rw [hX]; simp
  rw [← hX] at bX RX ⊢
  have zX' : w1.heap.size + 1 ≤ X.heap.size := Nat.le_of_eq zX.symm
  have BX := hid bX
  have RX := hid RX
  have HX := hid (H1.out.below bX)
  have RQX := hid (row_below RQ.out bX (by omega))
  have rX := row_cell HX.out.row
  have d2 : X.cell? ⟨bW, 2, none⟩ = some (.slice (some ⟨gT, 0, none⟩) P.threads.length P.threads.length) := rX 2
  obtain ⟨csT, rT⟩ := OwnF.keepObj HX.out.ths gT rfl
  have zT := row_lt rT
  have fT : ∀ j, X.frozen? ⟨gT, j, none⟩ = false := fun j => row_free rT j
  obtain ⟨t2, ht2, -, -, hc⟩ := HX.out.at hi
  rw [HT.out] at ht2
  obtain rfl := Option.some.inj ht2
  have c0 : X.cell? ⟨gT, i * 6, none⟩ = some (.int .i64 t.tx) := hc 0 (by decide)
  have c1 : X.cell? ⟨gT, i * 6 + 1, none⟩ = some (.int .i64 t.act) := hc 1 (by decide)
  have c2 : X.cell? ⟨gT, i * 6 + 2, none⟩ = some (.bool t.begun) := hc 2 (by decide)
  have c3 : X.cell? ⟨gT, i * 6 + 3, none⟩ = some (.bool t.adding) := hc 3 (by decide)
  have c4 : X.cell? ⟨gT, i * 6 + 4, none⟩ = some (.int .i64 t.read) := hc 4 (by decide)
  have c5 : X.cell? ⟨gT, i * 6 + 5, none⟩ = some (.int .i64 t.waits) := hc 5 (by decide)
  have RT := hid rT
  clear bX hX rX rT hc HW RZ zX htk
  refine wp_region_x [0, 0, 0, 1, 0, 0, 0, 0, 1, 0, 0, 0, 1, 0, 0, 0, 2] [0, 1, 2, 3, 4, 5, 6, 7, 8, 9, 10, 11, 12, 13, 14, 15, 16] (by kernel_rfl) (by kernel_rfl) rfl (by kernel_rfl) ?_
  simp only [selX, guardAt, sD, sE, sF, sG]
  repeat (first | (refine wpL_p (fun K hK => ?_); go_simp; refine hK _ _ ?_; clear hK K) | (apply wpL_s; (intro w2 hw2; have hk1 := hw2.cell; have hk3 := hw2.heap; clear hw2; go_simp; with_reducible rfl); simp only [Act.put, sA, sB, sC]) | (refine wpL_nil ?_))
  refine wpL_e (fun K hK => ?_)
  clear d2
  go_simp
  refine hK _ _ ?_
  clear hK K
  repeat (first | (refine wpL_p (fun K hK => ?_); go_simp; refine hK _ _ ?_; clear hK K) | (apply wpL_s; (intro w2 hw2; have hk1 := hw2.cell; have hk3 := hw2.heap; clear hw2; go_simp; with_reducible rfl); simp only [Act.put, sA, sB, sC]) | (refine wpL_nil ?_))
  have hwr : IntKind.i64.wrap ((t.tx : Int) + 1) = (t.tx : Int) + 1 := IntWalk.i64_in _ (by omega)
  rw [hwr]
  have WR5 := ((((((Wr.start RT.out).set (i * 6) (.int .i64 ((t.tx : Int) + 1))).set (i * 6 + 1) (.int .i64 0)).set (i * 6 + 2) (.bool false)).set (i * 6 + 3) (.bool false)).set (i * 6 + 4) (.int .i64 0)).set (i * 6 + 5) (.int .i64 0)
  have T5 : OwnF Th.cells 114 6 (((((((X).setCell ⟨gT, i * 6, none⟩ (.int .i64 ((t.tx : Int) + 1))).setCell ⟨gT, i * 6 + 1, none⟩ (.int .i64 0)).setCell ⟨gT, i * 6 + 2, none⟩ (.bool false)).setCell ⟨gT, i * 6 + 3, none⟩ (.bool false)).setCell ⟨gT, i * 6 + 4, none⟩ (.int .i64 0)).setCell ⟨gT, i * 6 + 5, none⟩ (.int .i64 0)) B (.slice (some ⟨gT, 0, none⟩) P.threads.length P.threads.length) (S.ths.set i { Th.zero with tx := t.tx + 1 }) := ths_all (w := X) HX.out.ths HT.out { Th.zero with tx := t.tx + 1 }
  generalize hW5 : ((((((X).setCell ⟨gT, i * 6, none⟩ (.int .i64 ((t.tx : Int) + 1))).setCell ⟨gT, i * 6 + 1, none⟩ (.int .i64 0)).setCell ⟨gT, i * 6 + 2, none⟩ (.bool false)).setCell ⟨gT, i * 6 + 3, none⟩ (.bool false)).setCell ⟨gT, i * 6 + 4, none⟩ (.int .i64 0)).setCell ⟨gT, i * 6 + 5, none⟩ (.int .i64 0) = W5 at *
  clear hW5 hwr
  have RQ5 := (WR5.other w.heap.size (by omega)).trans RQX.out
  have RX5 := (WR5.other w1.heap.size (by omega)).trans RX.out
  have bD : Below W5.heap.size W5 W5.drew := (Below.refl _ _).drew
  have RQ5 : W5.drew.heap[w.heap.size]? = _ := RQ5
  have RX5 : W5.drew.heap[w1.heap.size]? = _ := RX5
  have BD := hid bD
  have zD : W5.drew.heap.size = W5.heap.size := rfl
  obtain ⟨W8, hW8⟩ : ∃ W8, W8 = W5.drew := ⟨_, rfl⟩
  rw [← hW8] at RQ5 RX5 BD zD ⊢
  clear bD hW8
  have RQ5' := hid RQ5
  have WR5 := hid WR5
  have T5 := hid T5
  have e0 := row_cell RX5
  have q0 : W8.cell? ⟨w1.heap.size, 0, none⟩ = some (.int .i64 k1) := e0 0
  have q1 : W8.cell? ⟨w1.heap.size, 1, none⟩ = some (.int .i64 k2) := e0 1
  have q2 : W8.cell? ⟨w1.heap.size, 2, none⟩ = some (.int .i64 k3) := e0 2
  have q3 : W8.cell? ⟨w1.heap.size, 3, none⟩ = some (.int .i64 k4) := e0 3
  have q4 : W8.cell? ⟨w1.heap.size, 4, none⟩ = some (.int .i64 k5) := e0 4
  have q5 : W8.cell? ⟨w1.heap.size, 5, none⟩ = some (.int .i64 k6) := e0 5
  have q6 : W8.cell? ⟨w1.heap.size, 6, none⟩ = some (.int .i64 k7) := e0 6
  have q7 : W8.cell? ⟨w1.heap.size, 7, none⟩ = some (.int .i64 k8) := e0 7
  have zf : ∀ j, W8.frozen? ⟨w.heap.size, j, none⟩ = false := fun j => row_free RQ5 j
  have zc := row_cell RQ5
  have y0 : W8.cell? ⟨w.heap.size, 0, none⟩ = some (.int .i64 0) := zc 0
  have y1 : W8.cell? ⟨w.heap.size, 1, none⟩ = some (.int .i64 0) := zc 1
  have y2 : W8.cell? ⟨w.heap.size, 2, none⟩ = some (.int .i64 0) := zc 2
  have y3 : W8.cell? ⟨w.heap.size, 3, none⟩ = some (.int .i64 0) := zc 3
  have y4 : W8.cell? ⟨w.heap.size, 4, none⟩ = some (.int .i64 0) := zc 4
  have y5 : W8.cell? ⟨w.heap.size, 5, none⟩ = some (.int .i64 0) := zc 5
  have y6 : W8.cell? ⟨w.heap.size, 6, none⟩ = some (.int .i64 0) := zc 6
  have y7 : W8.cell? ⟨w.heap.size, 7, none⟩ = some (.int .i64 0) := zc 7
  have z5 : w1.heap.size + 1 ≤ W8.heap.size := by have := WR5.out.size; omega
  clear e0 zc RX5 RQ5 c0 c1 c2 c3 c4 c5 fT zD
  go_wp2
  have RQ5 := RQ5'.out
  have WR6 := ((((((((Wr.start RQ5).set 0 (.int .i64 k1)).set 1 (.int .i64 k2)).set 2 (.int .i64 k3)).set 3 (.int .i64 k4)).set 4 (.int .i64 k5)).set 5 (.int .i64 k6)).set 6 (.int .i64 k7)).set 7 (.int .i64 k8)
  generalize ((((((((W8).setCell ⟨w.heap.size, 0, none⟩ (.int .i64 k1)).setCell ⟨w.heap.size, 1, none⟩ (.int .i64 k2)).setCell ⟨w.heap.size, 2, none⟩ (.int .i64 k3)).setCell ⟨w.heap.size, 3, none⟩ (.int .i64 k4)).setCell ⟨w.heap.size, 4, none⟩ (.int .i64 k5)).setCell ⟨w.heap.size, 5, none⟩ (.int .i64 k6)).setCell ⟨w.heap.size, 6, none⟩ (.int .i64 k7)).setCell ⟨w.heap.size, 7, none⟩ (.int .i64 k8) = W6 at *
  have KT : Kp Mw ve w W6 := Kp.wr (((((Kp.of_below BA.out).trans KP1.out fun _ h => .inl h).trans (Kp.of_below BX.out) fun _ h => .inl h).trans (Kp.wrT (ev := ve) RT.out (.inr rfl) WR5.out) fun _ h => .inl h).trans (Kp.of_below BD.out) fun _ h => .inl h) WR6 (Nat.le_refl _)
  have cc := row_cell WR6.row
  have cc0 := cc 0
  have cc1 := cc 1
  have cc2 := cc 2
  have cc3 := cc 3
  have cc4 := cc 4
  have cc5 := cc 5
  have cc6 := cc 6
  have cc7 := cc 7
  simp at cc0 cc1 cc2 cc3 cc4 cc5 cc6 cc7
  refine bodyPost_ret (v := .tuple #[evV ⟨k1, k2, k3, k4, k5, k6, k7, k8⟩, .bool true]) (by simp [results, Tryd.results52, go_sem, cc0, cc1, cc2, cc3, cc4, cc5, cc6, cc7]) rfl ⟨by first | rfl | rw [hE], ve1, ?_, ?_, ?_, ?_⟩
  · have hbw := row_lt H.out.row
    have neR : bW ≠ gT := by
      rintro rfl
      have h1 := HX.out.row
      rw [RT.out] at h1
      simp only [Option.some.injEq, Obj.cells.injEq] at h1
      exact absurd h1.2.1 (by decide)
    refine H.out.turn KT ((WR6.other bW (by omega)).trans ((row_below (HX.out.row |> (WR5.out.other bW neR).trans) BD.out (by have := WR5.out.size; have := row_lt HX.out.row; omega)))) (OwnF.wr (OwnF.below T5.out BD.out) WR6 fun e => ?_) ?_ fun j x hj => ?_
    · simp only [Value.ownBlock, Option.some.injEq] at e
      omega
    · try rw [hE]
      refine OwnF.wr (OwnF.below (OwnF.wr HX.out.evs WR5.out (OwnF.neT HX.out.evs RT.out (by decide))) BD.out) WR6 fun e => ?_
      rcases OW1.out _ e with h | h
      · have := (H.out.evs.lt _ h).2; omega
      · omega
    · by_cases e : i = j
      · subst e
        rw [List.getElem?_set_self (by rw [H.out.ths.len]; exact hi)] at hj
        rw [← Option.some.inj hj]
        exact ThOk.zero htx
      · rw [List.getElem?_set_ne e] at hj
        exact H.out.tok j x hj
  · exact KT
  · refine ((((BA.out.mono hB'.out).trans B1.out).trans (BX.out.mono (by have := B1.out.size; omega))).trans ((WR5.out.below ?_).trans (BD.out.mono ?_))).trans (WR6.below hB'.out)
    · exact (H.out.ths.lt gT rfl).1
    · have := B1.out.size
      have := WR5.out.size
      have := hB'.out
      omega
  · intro j hj
    rcases OW1.out j hj with h | h
    · exact .inl h
    · exact .inr (by omega)
end
end Go.Proofs.YtogphaiomlfofaaDoor
