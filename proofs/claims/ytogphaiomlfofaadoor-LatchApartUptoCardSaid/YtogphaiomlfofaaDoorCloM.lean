/- hist.Clone: a history laid anew. Conditions: those of each theorem, as typed. -/
import Derived.Test.YtogphaiomlfofaaDoorKdsM
set_option linter.unusedVariables false
set_option linter.unusedSimpArgs false
namespace Go.Proofs.YtogphaiomlfofaaDoor
open Go.RowKit Go.Maps
set_option linter.unusedVariables false
set_option linter.unusedSimpArgs false
attribute [local irreducible] wpL RN.wpL

inductive ClS where
  | no | made (v : Value) | full (v : Value)
def ClS.at {α : Type} (f : α → List Value) (e : TypeId) (sz : Nat) (w : World) (B : Nat) (l : List α) : ClS → Prop
  | .no => True
  | .made v => OwnF f e sz w B v ([] : List α)
  | .full v => OwnF f e sz w B v l
set_option maxRecDepth 100000 in
set_option maxHeartbeats 2000000 in
theorem h_Clone (ov ev : Value) (os : List Ob) (es : List Ev) (w : World) (ho : Sl w w.heap.size 2 ov os.length (os.flatMap Ob.cells)) (he : Sl w w.heap.size 8 ev es.length (es.flatMap Ev.cells)) (hol : os.length ≤ 100000) (hel : es.length ≤ 100000) :
    Calls Tryd.prog 27 #[.agg #[ov, ev]] w (HistRet os es w) := by
  obtain ⟨ao, co, rfl, mo⟩ := ho.ex
  obtain ⟨ae, ce, rfl, me⟩ := he.ex
  have b0 : Below w.heap.size w ((w.alloc (.cells #[.slice ao os.length co, .slice ae es.length ce] 39)).alloc (.cells #[.slice none 0 0, .slice none 0 0] 39)) := ((Below.refl _ w).alloc (Nat.le_refl _) _).alloc (by simp) _
  have r0 := row_old (o := .cells #[.slice none 0 0, .slice none 0 0] 39) (row_new w (.cells #[.slice ao os.length co, .slice ae es.length ce] 39))
  have r1 := row_new' (w := w.alloc (.cells #[.slice ao os.length co, .slice ae es.length ce] 39)) (o := .cells #[.slice none 0 0, .slice none 0 0] 39) (g := w.heap.size + 1) (by simp)
  have z0 : ((w.alloc (.cells #[.slice ao os.length co, .slice ae es.length ce] 39)).alloc (.cells #[.slice none 0 0, .slice none 0 0] 39)).heap.size = w.heap.size + 2 := by simp
  have HO := hid ho
  have HE := hid he
  clear ho he
  go_enter Tryd.func27, Tryd.ntmps27
  go_wp2_with fail
  generalize (w.alloc (.cells #[.slice ao os.length co, .slice ae es.length ce] 39)).alloc (.cells #[.slice none 0 0, .slice none 0 0] 39) = W at *
  have B0 := hid b0
  have R0 := hid r0
  have R1 := hid r1
  have d0 := row_cell r0 0
  have d1 := row_cell r0 1
  simp at d0 d1
  have lw : w.heap.size < W.heap.size := by omega
  clear b0 r0 r1
  refine RN.wp_region_t (W.heap.size) [0, 1, 0, 3, 0, 1, 3, 0, 1, 0, 3, 0, 1, 3, 0, 2] (.frk [0, 1, 2, 4, 5, 7, 8, 9, 11, 12] (.frk [3] (.fin [6, 10, 13, 14, 15]) (.fin [10, 6, 13, 14, 15])) (.fin [10, 3, 6, 13, 14, 15])) (by kernel_rfl) (by kernel_rfl) (by kernel_rfl) (by kernel_rfl) ?_
  simp only [RN.wpT, selX, guardAt, sD, sE, sF, sG]
  repeat (first | (refine RN.wpL_p (fun K hK => ?_); go_simp; refine hK _ _ ?_; clear hK K) | (apply RN.wpL_s; (intro w2 hw2; have hk1 := hw2.cell; have hk3 := hw2.1; clear hw2; go_simp; with_reducible rfl); simp only [Act.put, sA, sB, sC]) | (refine RN.wpL_nil ?_))
  have b0 : Below W.heap.size W W.drew := (Below.refl _ W).drew
  have s0 := b0.size
  refine ⟨?_, ?_⟩
  · refine RN.wpL_k (fun K hK => ?_)
    refine wp_makeF (f := Ob.cells) (e := 156) (sz := 2) (B := W.heap.size) _ _ _ rfl _ 16 Tryd.underlying36 infoO rfl rfl (by first | omega | (simp <;> omega)) (by first | omega | (simp <;> omega)) (by first | omega | (simp <;> omega)) ?_
    intro w1 o1A g1 z1
    refine hK _ _ (RN.KeepsN.of_below (g1.mono (by have := b0.size; omega))) ?_
    clear hK K
    have b1 : Below W.heap.size W w1 := b0.trans (g1.mono b0.size)
    have s1 := b1.size
    repeat (first | (refine RN.wpL_p (fun K hK => ?_); go_simp; refine hK _ _ ?_; clear hK K) | (apply RN.wpL_s; (intro w2 hw2; have hk1 := hw2.cell; have hk3 := hw2.1; clear hw2; go_simp; with_reducible rfl); simp only [Act.put, sA, sB, sC]) | (refine RN.wpL_nil ?_))
    refine ⟨?_, ?_⟩
    · refine RN.wpL_k (fun K hK => ?_)
      refine wp_appA _ _ _ rfl _ 16 Tryd.underlying36 infoO rfl o1A os rfl ((HO.out.below B0.out).below (b1.mono (by omega))) (by first | omega | (simp <;> omega)) rfl rfl Ob.len ob_one (by first | omega | (simp <;> omega)) (by first | omega | (simp <;> omega)) ?_
      intro v2 w2 o2A g2
      have g2b := g2.below b1.size fun k h => (o1A.lt k h).1
      refine hK _ _ (RN.KeepsN.of_below g2b) ?_
      clear hK K
      obtain ⟨a2, c2, rfl, -⟩ := OwnF.form2 (show OwnF Ob.cells 156 2 w2 W.heap.size v2 os from o2A)
      have o2A : OwnF Ob.cells 156 2 w2 W.heap.size (.slice a2 os.length c2) os := o2A
      have b2 : Below W.heap.size W w2 := b1.trans g2b
      have s2 := b2.size
      repeat (first | (refine RN.wpL_p (fun K hK => ?_); go_simp; refine hK _ _ ?_; clear hK K) | (apply RN.wpL_s; (intro w2 hw2; have hk1 := hw2.cell; have hk3 := hw2.1; clear hw2; go_simp; with_reducible rfl); simp only [Act.put, sA, sB, sC]) | (refine RN.wpL_nil ?_))
      refine RN.wpL_k (fun K hK => ?_)
      refine wp_makeF (f := Ev.cells) (e := 50) (sz := 8) (B := W.heap.size) _ _ _ rfl _ 64 Tryd.underlying37 infoE rfl rfl (by first | omega | (simp <;> omega)) (by first | omega | (simp <;> omega)) (by first | omega | (simp <;> omega)) ?_
      intro w3 o3B g3 z3
      refine hK _ _ (RN.KeepsN.of_below (g3.mono (by have := b2.size; omega))) ?_
      clear hK K
      have b3 : Below W.heap.size W w3 := b2.trans (g3.mono b2.size)
      have s3 := b3.size
      have o3A := OwnF.below o2A g3
      repeat (first | (refine RN.wpL_p (fun K hK => ?_); go_simp; refine hK _ _ ?_; clear hK K) | (apply RN.wpL_s; (intro w2 hw2; have hk1 := hw2.cell; have hk3 := hw2.1; clear hw2; go_simp; with_reducible rfl); simp only [Act.put, sA, sB, sC]) | (refine RN.wpL_nil ?_))
      refine RN.wpL_k (fun K hK => ?_)
      refine wp_appA _ _ _ rfl _ 64 Tryd.underlying37 infoE rfl o3B es rfl ((HE.out.below B0.out).below (b3.mono (by omega))) (by first | omega | (simp <;> omega)) rfl rfl Ev.len ev_one (by first | omega | (simp <;> omega)) (by first | omega | (simp <;> omega)) ?_
      intro v4 w4 o4B g4
      have g4b := g4.below b3.size fun k h => (o3B.lt k h).1
      refine hK _ _ (RN.KeepsN.of_below g4b) ?_
      clear hK K
      obtain ⟨a4, c4, rfl, -⟩ := OwnF.form2 (show OwnF Ev.cells 50 8 w4 W.heap.size v4 es from o4B)
      have o4B : OwnF Ev.cells 50 8 w4 W.heap.size (.slice a4 es.length c4) es := o4B
      have b4 : Below W.heap.size W w4 := b3.trans g4b
      have s4 := b4.size
      have o4A := OwnF.grwT o3A o3B (by decide) g4
      have OA := hid o4A
      have OB := hid o4B
      have BF := hid b4
      have zF := b4.size
      have RF := hid (row_below R1.out b4 (by omega))
      have y0 := row_cell RF.out 0
      have y1 := row_cell RF.out 1
      have yf : ∀ j, w4.frozen? ⟨w.heap.size + 1, j, none⟩ = false := fun j => row_free RF.out j
      have ly := row_lt RF.out
      clear g1 g2 g3 g4 b0 b1 b2 b3 b4 d0 d1 o1A o2A o3A o3B o4A o4B
      repeat (first | (refine RN.wpL_p (fun K hK => ?_); go_simp; refine hK _ _ ?_; clear hK K) | (apply RN.wpL_s; (intro w2 hw2; have hk1 := hw2.cell; have hk3 := hw2.1; clear hw2; go_simp; with_reducible rfl); simp only [Act.put, sA, sB, sC]) | (refine RN.wpL_nil ?_))
      refine RN.wpL_e (fun K hK => ?_)
      go_simp
      refine hK _ _ ?_
      clear hK K
      repeat (first | (refine RN.wpL_p (fun K hK => ?_); go_simp; refine hK _ _ ?_; clear hK K) | (apply RN.wpL_s; (intro w2 hw2; have hk1 := hw2.cell; have hk3 := hw2.1; clear hw2; go_simp; with_reducible rfl); simp only [Act.put, sA, sB, sC]) | (refine RN.wpL_nil ?_))
      go_wp2
      have r4 := row2 (u1 := .slice a2 os.length c2) (u2 := .slice a4 es.length c4) RF.out
      have c0 := row_cell r4 0
      have c1 := row_cell r4 1
      simp only [List.getElem?_toArray, List.getElem?_cons_zero, List.getElem?_cons_succ] at c0 c1
      refine bodyPost_ret (v := .agg #[.slice a2 os.length c2, .slice a4 es.length c4]) (by simp [results, Tryd.results27, go_sem, c0, c1]) rfl ⟨_, _, rfl, ?_, ?_, ?_⟩
      · exact OwnF.base (OwnF.box2 OA.out RF.out (by decide)) (by omega)
      · exact OwnF.base (OwnF.box2 OB.out RF.out (by decide)) (by omega)
      · exact ((B0.out.trans (BF.out.mono (by omega))).setCell (p := ⟨w.heap.size + 1, 0, none⟩) (by show w.heap.size ≤ w.heap.size + 1; omega) _).setCell (p := ⟨w.heap.size + 1, 1, none⟩) (by show w.heap.size ≤ w.heap.size + 1; omega) _
    · refine RN.wpL_k (fun K hK => ?_)
      refine wp_makeF (f := Ev.cells) (e := 50) (sz := 8) (B := W.heap.size) _ _ _ rfl _ 64 Tryd.underlying37 infoE rfl rfl (by first | omega | (simp <;> omega)) (by first | omega | (simp <;> omega)) (by first | omega | (simp <;> omega)) ?_
      intro w2 o2B g2 z2
      refine hK _ _ (RN.KeepsN.of_below (g2.mono (by have := b1.size; omega))) ?_
      clear hK K
      have b2 : Below W.heap.size W w2 := b1.trans (g2.mono b1.size)
      have s2 := b2.size
      have o2A := OwnF.below o1A g2
      repeat (first | (refine RN.wpL_p (fun K hK => ?_); go_simp; refine hK _ _ ?_; clear hK K) | (apply RN.wpL_s; (intro w2 hw2; have hk1 := hw2.cell; have hk3 := hw2.1; clear hw2; go_simp; with_reducible rfl); simp only [Act.put, sA, sB, sC]) | (refine RN.wpL_nil ?_))
      refine RN.wpL_k (fun K hK => ?_)
      refine wp_appA _ _ _ rfl _ 16 Tryd.underlying36 infoO rfl o2A os rfl ((HO.out.below B0.out).below (b2.mono (by omega))) (by first | omega | (simp <;> omega)) rfl rfl Ob.len ob_one (by first | omega | (simp <;> omega)) (by first | omega | (simp <;> omega)) ?_
      intro v3 w3 o3A g3
      have g3b := g3.below b2.size fun k h => (o2A.lt k h).1
      refine hK _ _ (RN.KeepsN.of_below g3b) ?_
      clear hK K
      obtain ⟨a3, c3, rfl, -⟩ := OwnF.form2 (show OwnF Ob.cells 156 2 w3 W.heap.size v3 os from o3A)
      have o3A : OwnF Ob.cells 156 2 w3 W.heap.size (.slice a3 os.length c3) os := o3A
      have b3 : Below W.heap.size W w3 := b2.trans g3b
      have s3 := b3.size
      have o3B := OwnF.grwT o2B o2A (by decide) g3
      repeat (first | (refine RN.wpL_p (fun K hK => ?_); go_simp; refine hK _ _ ?_; clear hK K) | (apply RN.wpL_s; (intro w2 hw2; have hk1 := hw2.cell; have hk3 := hw2.1; clear hw2; go_simp; with_reducible rfl); simp only [Act.put, sA, sB, sC]) | (refine RN.wpL_nil ?_))
      refine RN.wpL_k (fun K hK => ?_)
      refine wp_appA _ _ _ rfl _ 64 Tryd.underlying37 infoE rfl o3B es rfl ((HE.out.below B0.out).below (b3.mono (by omega))) (by first | omega | (simp <;> omega)) rfl rfl Ev.len ev_one (by first | omega | (simp <;> omega)) (by first | omega | (simp <;> omega)) ?_
      intro v4 w4 o4B g4
      have g4b := g4.below b3.size fun k h => (o3B.lt k h).1
      refine hK _ _ (RN.KeepsN.of_below g4b) ?_
      clear hK K
      obtain ⟨a4, c4, rfl, -⟩ := OwnF.form2 (show OwnF Ev.cells 50 8 w4 W.heap.size v4 es from o4B)
      have o4B : OwnF Ev.cells 50 8 w4 W.heap.size (.slice a4 es.length c4) es := o4B
      have b4 : Below W.heap.size W w4 := b3.trans g4b
      have s4 := b4.size
      have o4A := OwnF.grwT o3A o3B (by decide) g4
      have OA := hid o4A
      have OB := hid o4B
      have BF := hid b4
      have zF := b4.size
      have RF := hid (row_below R1.out b4 (by omega))
      have y0 := row_cell RF.out 0
      have y1 := row_cell RF.out 1
      have yf : ∀ j, w4.frozen? ⟨w.heap.size + 1, j, none⟩ = false := fun j => row_free RF.out j
      have ly := row_lt RF.out
      clear g1 g2 g3 g4 b0 b1 b2 b3 b4 d0 d1 o1A o2A o2B o3A o3B o4A o4B
      repeat (first | (refine RN.wpL_p (fun K hK => ?_); go_simp; refine hK _ _ ?_; clear hK K) | (apply RN.wpL_s; (intro w2 hw2; have hk1 := hw2.cell; have hk3 := hw2.1; clear hw2; go_simp; with_reducible rfl); simp only [Act.put, sA, sB, sC]) | (refine RN.wpL_nil ?_))
      refine RN.wpL_e (fun K hK => ?_)
      go_simp
      refine hK _ _ ?_
      clear hK K
      repeat (first | (refine RN.wpL_p (fun K hK => ?_); go_simp; refine hK _ _ ?_; clear hK K) | (apply RN.wpL_s; (intro w2 hw2; have hk1 := hw2.cell; have hk3 := hw2.1; clear hw2; go_simp; with_reducible rfl); simp only [Act.put, sA, sB, sC]) | (refine RN.wpL_nil ?_))
      go_wp2
      have r4 := row2 (u1 := .slice a3 os.length c3) (u2 := .slice a4 es.length c4) RF.out
      have c0 := row_cell r4 0
      have c1 := row_cell r4 1
      simp only [List.getElem?_toArray, List.getElem?_cons_zero, List.getElem?_cons_succ] at c0 c1
      refine bodyPost_ret (v := .agg #[.slice a3 os.length c3, .slice a4 es.length c4]) (by simp [results, Tryd.results27, go_sem, c0, c1]) rfl ⟨_, _, rfl, ?_, ?_, ?_⟩
      · exact OwnF.base (OwnF.box2 OA.out RF.out (by decide)) (by omega)
      · exact OwnF.base (OwnF.box2 OB.out RF.out (by decide)) (by omega)
      · exact ((B0.out.trans (BF.out.mono (by omega))).setCell (p := ⟨w.heap.size + 1, 0, none⟩) (by show w.heap.size ≤ w.heap.size + 1; omega) _).setCell (p := ⟨w.heap.size + 1, 1, none⟩) (by show w.heap.size ≤ w.heap.size + 1; omega) _
  · refine RN.wpL_k (fun K hK => ?_)
    refine wp_makeF (f := Ev.cells) (e := 50) (sz := 8) (B := W.heap.size) _ _ _ rfl _ 64 Tryd.underlying37 infoE rfl rfl (by first | omega | (simp <;> omega)) (by first | omega | (simp <;> omega)) (by first | omega | (simp <;> omega)) ?_
    intro w1 o1B g1 z1
    refine hK _ _ (RN.KeepsN.of_below (g1.mono (by have := b0.size; omega))) ?_
    clear hK K
    have b1 : Below W.heap.size W w1 := b0.trans (g1.mono b0.size)
    have s1 := b1.size
    repeat (first | (refine RN.wpL_p (fun K hK => ?_); go_simp; refine hK _ _ ?_; clear hK K) | (apply RN.wpL_s; (intro w2 hw2; have hk1 := hw2.cell; have hk3 := hw2.1; clear hw2; go_simp; with_reducible rfl); simp only [Act.put, sA, sB, sC]) | (refine RN.wpL_nil ?_))
    refine RN.wpL_k (fun K hK => ?_)
    refine wp_makeF (f := Ob.cells) (e := 156) (sz := 2) (B := W.heap.size) _ _ _ rfl _ 16 Tryd.underlying36 infoO rfl rfl (by first | omega | (simp <;> omega)) (by first | omega | (simp <;> omega)) (by first | omega | (simp <;> omega)) ?_
    intro w2 o2A g2 z2
    refine hK _ _ (RN.KeepsN.of_below (g2.mono (by have := b1.size; omega))) ?_
    clear hK K
    have b2 : Below W.heap.size W w2 := b1.trans (g2.mono b1.size)
    have s2 := b2.size
    have o2B := OwnF.below o1B g2
    repeat (first | (refine RN.wpL_p (fun K hK => ?_); go_simp; refine hK _ _ ?_; clear hK K) | (apply RN.wpL_s; (intro w2 hw2; have hk1 := hw2.cell; have hk3 := hw2.1; clear hw2; go_simp; with_reducible rfl); simp only [Act.put, sA, sB, sC]) | (refine RN.wpL_nil ?_))
    refine RN.wpL_k (fun K hK => ?_)
    refine wp_appA _ _ _ rfl _ 16 Tryd.underlying36 infoO rfl o2A os rfl ((HO.out.below B0.out).below (b2.mono (by omega))) (by first | omega | (simp <;> omega)) rfl rfl Ob.len ob_one (by first | omega | (simp <;> omega)) (by first | omega | (simp <;> omega)) ?_
    intro v3 w3 o3A g3
    have g3b := g3.below b2.size fun k h => (o2A.lt k h).1
    refine hK _ _ (RN.KeepsN.of_below g3b) ?_
    clear hK K
    obtain ⟨a3, c3, rfl, -⟩ := OwnF.form2 (show OwnF Ob.cells 156 2 w3 W.heap.size v3 os from o3A)
    have o3A : OwnF Ob.cells 156 2 w3 W.heap.size (.slice a3 os.length c3) os := o3A
    have b3 : Below W.heap.size W w3 := b2.trans g3b
    have s3 := b3.size
    have o3B := OwnF.grwT o2B o2A (by decide) g3
    repeat (first | (refine RN.wpL_p (fun K hK => ?_); go_simp; refine hK _ _ ?_; clear hK K) | (apply RN.wpL_s; (intro w2 hw2; have hk1 := hw2.cell; have hk3 := hw2.1; clear hw2; go_simp; with_reducible rfl); simp only [Act.put, sA, sB, sC]) | (refine RN.wpL_nil ?_))
    refine RN.wpL_k (fun K hK => ?_)
    refine wp_appA _ _ _ rfl _ 64 Tryd.underlying37 infoE rfl o3B es rfl ((HE.out.below B0.out).below (b3.mono (by omega))) (by first | omega | (simp <;> omega)) rfl rfl Ev.len ev_one (by first | omega | (simp <;> omega)) (by first | omega | (simp <;> omega)) ?_
    intro v4 w4 o4B g4
    have g4b := g4.below b3.size fun k h => (o3B.lt k h).1
    refine hK _ _ (RN.KeepsN.of_below g4b) ?_
    clear hK K
    obtain ⟨a4, c4, rfl, -⟩ := OwnF.form2 (show OwnF Ev.cells 50 8 w4 W.heap.size v4 es from o4B)
    have o4B : OwnF Ev.cells 50 8 w4 W.heap.size (.slice a4 es.length c4) es := o4B
    have b4 : Below W.heap.size W w4 := b3.trans g4b
    have s4 := b4.size
    have o4A := OwnF.grwT o3A o3B (by decide) g4
    have OA := hid o4A
    have OB := hid o4B
    have BF := hid b4
    have zF := b4.size
    have RF := hid (row_below R1.out b4 (by omega))
    have y0 := row_cell RF.out 0
    have y1 := row_cell RF.out 1
    have yf : ∀ j, w4.frozen? ⟨w.heap.size + 1, j, none⟩ = false := fun j => row_free RF.out j
    have ly := row_lt RF.out
    clear g1 g2 g3 g4 b0 b1 b2 b3 b4 d0 d1 o1B o2A o2B o3A o3B o4A o4B
    repeat (first | (refine RN.wpL_p (fun K hK => ?_); go_simp; refine hK _ _ ?_; clear hK K) | (apply RN.wpL_s; (intro w2 hw2; have hk1 := hw2.cell; have hk3 := hw2.1; clear hw2; go_simp; with_reducible rfl); simp only [Act.put, sA, sB, sC]) | (refine RN.wpL_nil ?_))
    refine RN.wpL_e (fun K hK => ?_)
    go_simp
    refine hK _ _ ?_
    clear hK K
    repeat (first | (refine RN.wpL_p (fun K hK => ?_); go_simp; refine hK _ _ ?_; clear hK K) | (apply RN.wpL_s; (intro w2 hw2; have hk1 := hw2.cell; have hk3 := hw2.1; clear hw2; go_simp; with_reducible rfl); simp only [Act.put, sA, sB, sC]) | (refine RN.wpL_nil ?_))
    go_wp2
    have r4 := row2 (u1 := .slice a3 os.length c3) (u2 := .slice a4 es.length c4) RF.out
    have c0 := row_cell r4 0
    have c1 := row_cell r4 1
    simp only [List.getElem?_toArray, List.getElem?_cons_zero, List.getElem?_cons_succ] at c0 c1
    refine bodyPost_ret (v := .agg #[.slice a3 os.length c3, .slice a4 es.length c4]) (by simp [results, Tryd.results27, go_sem, c0, c1]) rfl ⟨_, _, rfl, ?_, ?_, ?_⟩
    · exact OwnF.base (OwnF.box2 OA.out RF.out (by decide)) (by omega)
    · exact OwnF.base (OwnF.box2 OB.out RF.out (by decide)) (by omega)
    · exact ((B0.out.trans (BF.out.mono (by omega))).setCell (p := ⟨w.heap.size + 1, 0, none⟩) (by show w.heap.size ≤ w.heap.size + 1; omega) _).setCell (p := ⟨w.heap.size + 1, 1, none⟩) (by show w.heap.size ≤ w.heap.size + 1; omega) _
end Go.Proofs.YtogphaiomlfofaaDoor
