/- The walk through a program, in memory: what stays; an event more. A region that draws its order of evaluation and in which two operations may come either way round: it is walked in both orders from there on. Conditions: those of each theorem, as typed. Merged by program out of 2 texts. -/
import Derived.Test.YtogphaiomlfofaaDoorQD02
import Derived.OneCell
import Derived.Test.YtogphaiomlfofaaDoorQD01
set_option linter.unusedVariables false
set_option linter.unusedSimpArgs false
namespace Go.Proofs.YtogphaiomlfofaaDoor
open Go.RowKit
set_option linter.unusedVariables false
set_option linter.unusedSimpArgs false
attribute [local irreducible] wpL

theorem OwnF.keepObj {α : Type} {f : α → List Value} {e : TypeId} {sz : Nat} {w : World} {B : Nat} {v : Value} {l : List α} (h : OwnF f e sz w B v l) : ∀ k, v.ownBlock = some k → ∃ cs, w.heap[k]? = some (.cells cs e (0, 0)) := by
  intro k hk
  obtain ⟨-, h2⟩ := h
  rcases h2 with ⟨rfl, -⟩ | ⟨g, cap, cur, rfl, -, hh, -⟩
  · cases hk
  · simp only [Value.ownBlock, Option.some.injEq] at hk
    subst hk
    exact ⟨cur, hh⟩
structure Kp (M : TypeId → Prop) (ev : Value) (w w' : World) : Prop where
  base : Below 0 w w'
  cells : ∀ (k : Nat) (cs : Array Value) (t : TypeId) (fz : Nat × Nat), w.heap[k]? = some (.cells cs t fz) → ¬ M t → (t = 50 → ev.ownBlock ≠ some k) → w'.heap[k]? = some (.cells cs t fz)
  maps : ∀ (k : Nat) (es : Array MapEntry) (c : Nat), w.heap[k]? = some (.map es c) → w'.heap[k]? = some (.map es c)
section
variable {M M' : TypeId → Prop} {ev ev' : Value} {w w1 w2 w' : World}
theorem Kp.size (h : Kp M ev w w') : w.heap.size ≤ w'.heap.size := h.base.size
theorem Kp.refl (M : TypeId → Prop) (ev : Value) (w : World) : Kp M ev w w := ⟨Below.refl 0 w, fun _ _ _ _ h _ _ => h, fun _ _ _ h => h⟩
theorem Kp.of_below (h : Below w.heap.size w w') : Kp M ev w w' := ⟨h.mono (Nat.zero_le _), fun _ _ _ _ hk _ _ => row_below hk h (row_lt hk), fun _ _ _ hk => row_below hk h (row_lt hk)⟩
theorem Kp.trans (h : Kp M ev w w1) (k : Kp M ev' w1 w2) (hv : ∀ b, ev'.ownBlock = some b → ev.ownBlock = some b ∨ w.heap.size ≤ b) : Kp M ev w w2 :=
  ⟨h.base.trans k.base, fun b cs t fz hb hm he => k.cells b cs t fz (h.cells b cs t fz hb hm he) hm fun ht e => by
    rcases hv b e with h1 | h1
    · exact he ht h1
    · have := row_lt hb; omega, fun b es c hb => k.maps b es c (h.maps b es c hb)⟩
theorem Kp.more (h : Kp M ev w w') (hm : ∀ t, M t → M' t) : Kp M' ev w w' := ⟨h.base, fun b cs t fz hb hn he => h.cells b cs t fz hb (fun ht => hn (hm t ht)) he, h.maps⟩
theorem OwnF.kp {α : Type} {f : α → List Value} {e : TypeId} {sz B : Nat} {v : Value} {l : List α} (h : OwnF f e sz w B v l) (hk : Kp M ev w w') (he : ¬ M e) (hev : e ≠ 50) : OwnF f e sz w' B v l := by
  obtain ⟨h1, h2⟩ := h
  refine ⟨h1, ?_⟩
  rcases h2 with h2 | ⟨g, cap, cur, rfl, hg, hh, r⟩
  · exact .inl h2
  · exact .inr ⟨g, cap, cur, rfl, hg, hk.cells g cur e _ hh he (fun h => absurd h hev), r⟩
theorem OwnTxs.kp {B : Nat} {v : Value} {l : List (List Ac)} (h : OwnTxs w B v l) (hk : Kp M ev w w') (h1 : ¬ M 33) (h2 : ¬ M 35) : OwnTxs w' B v l :=
  let ⟨vs, a, b, c⟩ := h; ⟨vs, OwnF.kp a hk h1 (by decide), b, fun k u x hu hx => OwnF.kp (c k u x hu hx) hk h2 (by decide)⟩
theorem OwnThr.kp {B : Nat} {v : Value} {l : List (List (List Ac))} (h : OwnThr w B v l) (hk : Kp M ev w w') (h0 : ¬ M 32) (h1 : ¬ M 33) (h2 : ¬ M 35) : OwnThr w' B v l :=
  let ⟨vs, a, b, c⟩ := h; ⟨vs, OwnF.kp a hk h0 (by decide), b, fun k u x hu hx => (c k u x hu hx).kp hk h1 h2⟩
end
structure Wr (g : Nat) (cs : Array Value) (t : TypeId) (w w' : World) : Prop where
  os : w'.os = w.os
  tape : w'.tape = w.tape
  output : w'.output = w.output
  size : w'.heap.size = w.heap.size
  other : ∀ k, k ≠ g → w'.heap[k]? = w.heap[k]?
  row : w'.heap[g]? = some (.cells cs t (0, 0))
theorem Wr.set {g : Nat} {cs : Array Value} {t : TypeId} {w w' : World} (h : Wr g cs t w w') (j : Nat) (v : Value) : Wr g (cs.setIfInBounds j v) t w (w'.setCell ⟨g, j, none⟩ v) :=
  ⟨h.os, h.tape, h.output, by rw [World.size_setCell]; exact h.size, fun k hk => (Below.heap_setCell w' ⟨g, j, none⟩ v k hk).trans (h.other k hk), row_set h.row j v⟩
theorem Wr.start {g : Nat} {cs : Array Value} {t : TypeId} {w : World} (h : w.heap[g]? = some (.cells cs t (0, 0))) : Wr g cs t w w := ⟨rfl, rfl, rfl, rfl, fun _ _ => rfl, h⟩
theorem Wr.below {g : Nat} {cs : Array Value} {t : TypeId} {w w' : World} {B : Nat} (h : Wr g cs t w w') (hB : B ≤ g) : Below B w w' := ⟨h.os, h.tape, h.output, Nat.le_of_eq h.size.symm, fun k hk => h.other k (by omega)⟩
theorem OwnF.other {α : Type} {f : α → List Value} {e : TypeId} {sz B g j : Nat} {v : Value} {l : List α} {w : World} (h : OwnF f e sz w B v l) (hg : v.ownBlock ≠ some g) (u : Value) : OwnF f e sz (w.setCell ⟨g, j, none⟩ u) B v l :=
  ownsRow_setCell_other (a := ⟨g, j, none⟩) h hg u
theorem OwnF.wr {α : Type} {f : α → List Value} {e : TypeId} {sz B g : Nat} {v : Value} {l : List α} {w w' : World} {cs : Array Value} {t : TypeId} (h : OwnF f e sz w B v l) (hw : Wr g cs t w w') (hg : v.ownBlock ≠ some g) : OwnF f e sz w' B v l := by
  obtain ⟨h1, h2⟩ := h
  refine ⟨h1, ?_⟩
  rcases h2 with h2 | ⟨q, cap, cur, rfl, hq, hh, r⟩
  · exact .inl h2
  · exact .inr ⟨q, cap, cur, rfl, hq, (hw.other q fun e => hg (by rw [← e]; rfl)).trans hh, r⟩
theorem OwnF.neT {α : Type} {f : α → List Value} {e : TypeId} {sz B g : Nat} {v : Value} {l : List α} {w : World} {cs : Array Value} {t : TypeId} {fz : Nat × Nat} (h : OwnF f e sz w B v l) (hg : w.heap[g]? = some (.cells cs t fz)) (he : t ≠ e) : v.ownBlock ≠ some g := fun hk => by
  obtain ⟨c2, h2⟩ := h.keepObj g hk
  rw [hg] at h2
  simp only [Option.some.injEq, Obj.cells.injEq] at h2
  exact he h2.2.1
theorem Kp.set {M : TypeId → Prop} {ev : Value} {w : World} {g j : Nat} {cs : Array Value} {t : TypeId} {fz : Nat × Nat} (hg : w.heap[g]? = some (.cells cs t fz)) (ht : M t) (v : Value) : Kp M ev w (w.setCell ⟨g, j, none⟩ v) := by
  refine ⟨(Below.refl 0 w).setCell (p := ⟨g, j, none⟩) (Nat.zero_le _) v, fun k c ty f hk hm _ => ?_, fun k es c hk => ?_⟩
  · refine row_other hk ?_
    rintro rfl
    rw [hg] at hk
    simp only [Option.some.injEq, Obj.cells.injEq] at hk
    exact hm (hk.2.1 ▸ ht)
  · refine row_other hk ?_
    rintro rfl
    rw [hg] at hk
    cases hk
theorem Kp.wr {M : TypeId → Prop} {ev : Value} {w w1 w' : World} {g : Nat} {cs : Array Value} {t : TypeId} (h : Kp M ev w w1) (hw : Wr g cs t w1 w') (hg : w.heap.size ≤ g) : Kp M ev w w' :=
  ⟨h.base.trans (hw.below (Nat.zero_le _)), fun k c ty f hk hm he => (hw.other k (by have := row_lt hk; omega)).trans (h.cells k c ty f hk hm he), fun k es c hk => (hw.other k (by have := row_lt hk; omega)).trans (h.maps k es c hk)⟩
def Mw (t : TypeId) : Prop := t = 98 ∨ t = 114
theorem WkAt.turn {w w' : World} {B bW gT : Nat} {vc vt ve ve' : Value} {P : Pg} {S S' : Wst} (h : WkAt w B bW gT vc vt ve P S) (hk : Kp Mw ve w w')
    (hr : w'.heap[bW]? = some (.cells #[vc, vt, .slice (some ⟨gT, 0, none⟩) P.threads.length P.threads.length, ve'] 98 (0, 0)))
    (ht : OwnF Th.cells 114 6 w' B (.slice (some ⟨gT, 0, none⟩) P.threads.length P.threads.length) S'.ths) (hev : OwnF Ev.cells 50 8 w' B ve' S'.evs)
    (htk : ∀ (i : Nat) (t : Th), S'.ths[i]? = some t → ThOk P i t) : WkAt w' B bW gT vc vt ve' P S' :=
  ⟨hr, h.hB, OwnF.kp h.cells hk (by unfold Mw; decide) (by decide), h.thr.kp hk (by unfold Mw; decide) (by unfold Mw; decide) (by unfold Mw; decide), ht, hev, h.ok, htk⟩
theorem WkAt.below {w w' : World} {B bW gT : Nat} {vc vt ve : Value} {P : Pg} {S : Wst} (h : WkAt w B bW gT vc vt ve P S) (hb : Below w.heap.size w w') : WkAt w' B bW gT vc vt ve P S :=
  h.turn (Kp.of_below hb) (row_below h.row hb (row_lt h.row)) (OwnF.below h.ths hb) (OwnF.below h.evs hb) h.tok
theorem infoE : (Tryd.prog.info? 50).map (fun i => (i.zero, i.size, i.bytes)) = some (some (.agg #[.int .i64 0, .int .i64 0, .int .i64 0, .int .i64 0, .int .i64 0, .int .i64 0, .int .i64 0, .int .i64 0]), 8, 64) := by kernel_rfl
theorem ev_one (x : Ev) : ∀ u ∈ x.cells, u.oneCell' = true := by intro u hu; simp [Ev.cells] at hu; rcases hu with rfl | rfl | rfl | rfl | rfl | rfl | rfl | rfl <;> rfl
theorem Pg.tx3 {P : Pg} (h : PgOk P) {i : Nat} (hi : i < P.threads.length) : (P.txs i).length ≤ 3 := by
  obtain ⟨x, hx⟩ : ∃ x, P.threads[i]? = some x := ⟨_, List.getElem?_eq_getElem hi⟩
  rw [Pg.txs_at hx]
  exact h.txs x (List.mem_of_getElem? hx)
theorem tx_lt {P : Pg} (h : PgOk P) {i : Nat} (hi : i < P.threads.length) {t : Th} (ht : ThOk P i t) (hd : thDone P i t = false) : t.tx < (P.txs i).length := by
  have h1 := ht.tx
  unfold thDone at hd
  have h3 : t.tx ≠ (P.txs i).length := by simpa using hd
  omega
abbrev evV (e : Ev) : Value := .agg #[.int .i64 e.kind, .int .i64 e.tx, .int .i64 e.thread, .int .i64 e.obj, .int .i64 e.op, .int .i64 e.key, .int .i64 e.val, .int .i64 e.ret]
section
variable {w : World} {B bW gT : Nat} {vc vt ve : Value} {P : Pg} {S : Wst}
set_option maxRecDepth 100000 in
set_option maxHeartbeats 2000000 in
theorem wk_happens (h : WkAt w B bW gT vc vt ve P S) (hBw : B ≤ w.heap.size) (i : Nat) (hi : i < P.threads.length) {t : Th} (ht : S.ths[i]? = some t) (htx : t.tx < 3) (e : Ev) (hl : S.evs.length ≤ 100000) :
    Calls Tryd.prog 54 #[.pointer (some ⟨bW, 0, none⟩), .int .i64 i, evV e] w fun x w' =>
    x = .returned (.tuple #[evV (withTx e (idOf i t.tx)), .bool true]) ∧ ∃ ve', WkAt w' B bW gT vc vt ve' P ⟨S.ths, S.evs ++ [withTx e (idOf i t.tx)]⟩ ∧ Kp Mw ve w w' ∧ Below B w w' ∧ ∀ k, ve'.ownBlock = some k → ve.ownBlock = some k ∨ w.heap.size ≤ k := by
  obtain ⟨t', ht', htk, hgl, hc⟩ := h.at hi
  rw [ht] at ht'
  obtain rfl := Option.some.inj ht'
  have hm : P.threads.length ≤ 4 := h.ok.threads.2
  have hi4 : i < 4 := by omega
  obtain ⟨ae, ce, rfl, hme⟩ := h.evs.form2
  have hr := row_cell h.row
  have d2 : w.cell? ⟨bW, 2, none⟩ = some (.slice (some ⟨gT, 0, none⟩) P.threads.length P.threads.length) := hr 2
  have d3 : w.cell? ⟨bW, 3, none⟩ = some (.slice ae S.evs.length ce) := hr 3
  have f3 : w.frozen? ⟨bW, 3, none⟩ = false := row_free h.row 3
  have c0 : w.cell? ⟨gT, i * 6, none⟩ = some (.int .i64 t.tx) := hc 0 (by decide)
  have hbl := row_lt h.row
  have hlt0 := h.evs.lt
  have HLT := hid hlt0
  have hBw := hid hBw
  have H := hid h
  have HT := hid ht
  clear h ht hr hc htk hlt0
  obtain ⟨k1, k2, k3, k4, k5, k6, k7, k8⟩ := e
  go_enter Tryd.func54, Tryd.ntmps54
  go_wp2_with fail
  refine (wk_id i t.tx hi4 htx _).mono ?_
  rintro x w1 ⟨rfl, rfl⟩
  go_wp2
  have ba : Below w.heap.size w (w.alloc (.cells #[.int .i64 k1, .int .i64 (idOf i t.tx), .int .i64 k3, .int .i64 k4, .int .i64 k5, .int .i64 k6, .int .i64 k7, .int .i64 k8] 50)) := (Below.refl _ _).alloc (Nat.le_refl _) _
  have bz := ba.alloc (by simp) (.cells #[.int .i64 0, .int .i64 0, .int .i64 0, .int .i64 0, .int .i64 0, .int .i64 0, .int .i64 0, .int .i64 0] 50)
  have rA := row_old (o := .cells #[.int .i64 0, .int .i64 0, .int .i64 0, .int .i64 0, .int .i64 0, .int .i64 0, .int .i64 0, .int .i64 0] 50) (row_new w (.cells #[.int .i64 k1, .int .i64 (idOf i t.tx), .int .i64 k3, .int .i64 k4, .int .i64 k5, .int .i64 k6, .int .i64 k7, .int .i64 k8] 50))
  have rZ := row_new' (w := w.alloc (.cells #[.int .i64 k1, .int .i64 (idOf i t.tx), .int .i64 k3, .int .i64 k4, .int .i64 k5, .int .i64 k6, .int .i64 k7, .int .i64 k8] 50)) (o := .cells #[.int .i64 0, .int .i64 0, .int .i64 0, .int .i64 0, .int .i64 0, .int .i64 0, .int .i64 0, .int .i64 0] 50) (g := w.heap.size + 1) (by simp)
  obtain ⟨W, hW⟩ : ∃ W, W = (w.alloc (.cells #[.int .i64 k1, .int .i64 (idOf i t.tx), .int .i64 k3, .int .i64 k4, .int .i64 k5, .int .i64 k6, .int .i64 k7, .int .i64 k8] 50)).alloc (.cells #[.int .i64 0, .int .i64 0, .int .i64 0, .int .i64 0, .int .i64 0, .int .i64 0, .int .i64 0, .int .i64 0] 50) := ⟨_, rfl⟩
  have zW : W.heap.size = w.heap.size + 2 := by rw [hW]; simp
  rw [← hW] at bz rA rZ ⊢
  have BZ := hid bz
  have RA := hid rA
  have RZ := hid rZ
  have HW := hid (H.out.below bz)
  have e0 := row_cell rA
  have q0 : W.cell? ⟨w.heap.size, 0, none⟩ = some (.int .i64 k1) := e0 0
  have q1 : W.cell? ⟨w.heap.size, 1, none⟩ = some (.int .i64 (idOf i t.tx)) := e0 1
  have q2 : W.cell? ⟨w.heap.size, 2, none⟩ = some (.int .i64 k3) := e0 2
  have q3 : W.cell? ⟨w.heap.size, 3, none⟩ = some (.int .i64 k4) := e0 3
  have q4 : W.cell? ⟨w.heap.size, 4, none⟩ = some (.int .i64 k5) := e0 4
  have q5 : W.cell? ⟨w.heap.size, 5, none⟩ = some (.int .i64 k6) := e0 5
  have q6 : W.cell? ⟨w.heap.size, 6, none⟩ = some (.int .i64 k7) := e0 6
  have q7 : W.cell? ⟨w.heap.size, 7, none⟩ = some (.int .i64 k8) := e0 7
  have g3 : W.cell? ⟨bW, 3, none⟩ = some (.slice ae S.evs.length ce) := row_cell HW.out.row 3
  have zW' : w.heap.size + 2 ≤ W.heap.size := Nat.le_of_eq zW.symm
  clear bz rA rZ hW ba e0 d2 d3 f3 c0 zW
  refine wp_region_x [0, 0, 0, 0, 1, 1, 3, 2, 0, 0, 2] [0, 1, 2, 3, 4, 5, 6, 7, 8, 9, 10] (by kernel_rfl) (by kernel_rfl) rfl (by kernel_rfl) ?_
  simp only [selX, guardAt, sD, sE, sF, sG]
  repeat (first | (refine wpL_p (fun K hK => ?_); go_simp; refine hK _ _ ?_; clear hK K) | (apply wpL_s; (intro w2 hw2; have hk1 := hw2.cell; have hk3 := hw2.heap; clear hw2; go_simp; with_reducible rfl); simp only [Act.put, sA, sB, sC]) | (refine wpL_nil ?_))
  refine wpL_k (fun K hK => ?_)
  go_simp
  refine hK _ _ (Keeps.alloc _ _) ?_
  clear hK K
  refine wpL_e (fun K hK => ?_)
  rw [drew_alloc]
  have hge := HW.out.evs.lt
  refine wp_appF _ _ _ rfl _ 64 Tryd.underlying37 infoE rfl HW.out.evs.drew ⟨k1, idOf i t.tx, k3, k4, k5, k6, k7, k8⟩ (by first | omega | (simp <;> omega)) (by rfl) (by rfl) (by first | rfl | simp) rfl (ev_one _) (by first | omega | (simp only [List.length_append, List.length_cons, List.length_nil, List.length_replicate]; omega)) (by first | omega | (simp only [List.length_append, List.length_cons, List.length_nil, List.length_replicate]; omega)) ?_
  intro g1 k9 w1 h1 G1
  have hlW : ∀ (k : Nat) (o : Obj), W.heap[k]? = some o → (Value.slice ae S.evs.length ce).ownBlock ≠ some k → w1.heap[k]? = some o := fun k o hk hne => row_grw (show W.drew.heap[k]? = some o from hk) G1 hne
  have hneT : ∀ (k : Nat) (cs : Array Value) (ty : TypeId), W.heap[k]? = some (.cells cs ty (0, 0)) → ty ≠ 50 → (Value.slice ae S.evs.length ce).ownBlock ≠ some k := fun k cs ty hk ht e => by
    obtain ⟨c2, h2⟩ := HW.out.evs.keepObj k e
    rw [hk] at h2
    simp only [Option.some.injEq, Obj.cells.injEq] at h2
    exact ht h2.2.1
  have r1 := hlW bW _ HW.out.row (hneT bW _ _ HW.out.row (by decide))
  have KPW : Kp (fun _ => False) (.slice ae S.evs.length ce) W w1 := ⟨⟨G1.grown.os, G1.grown.tape, G1.grown.output, G1.grown.size, fun k hk => absurd hk (by omega)⟩, fun k cs ty fz hk _ he => by
      by_cases hty : ty = 50
      · exact hlW k _ hk (he hty)
      · exact hlW k _ hk fun e => by
          obtain ⟨c2, h2⟩ := HW.out.evs.keepObj k e
          rw [hk] at h2
          simp only [Option.some.injEq, Obj.cells.injEq] at h2
          exact hty h2.2.1, fun k es c hk => hlW k _ hk fun e => by
        obtain ⟨c2, h2⟩ := HW.out.evs.keepObj k e
        rw [hk] at h2
        cases h2⟩
  have neA : ∀ k, w.heap.size ≤ k → (Value.slice ae S.evs.length ce).ownBlock ≠ some k := fun k hk e => by have := (HLT.out k e).2; omega
  have rA1 := hlW w.heap.size _ RA.out (neA _ (Nat.le_refl _))
  have rZ1 := hlW (w.heap.size + 1) _ RZ.out (neA _ (by omega))
  have T1 := hid (show OwnF Th.cells 114 6 w1 B _ S.ths from OwnF.kp HW.out.ths KPW (fun h => h) (by decide))
  have O1 := hid (show OwnF Ev.cells 50 8 w1 B (.slice (some ⟨g1, 0, none⟩) (S.evs.length + 1) k9) (S.evs ++ [⟨k1, idOf i t.tx, k3, k4, k5, k6, k7, k8⟩]) from h1)
  have HOW := hid (show ∀ k, (Value.slice (some ⟨g1, 0, none⟩) (S.evs.length + 1) k9).ownBlock = some k → (Value.slice ae S.evs.length ce).ownBlock = some k ∨ W.heap.size ≤ k from G1.own)
  have KPW1 := hid KPW
  have HW1 := hid (show Below B W w1 from (Below.refl B W).drew.trans (G1.below (by show B ≤ W.heap.size; have := hBw.out; omega) fun k h => (HLT.out k h).1))
  have R1 := hid r1
  have RA1 := hid rA1
  have RZ1 := hid rZ1
  have m3 : w1.cell? ⟨bW, 3, none⟩ = some (.slice ae S.evs.length ce) := row_cell r1 3
  have mf : w1.frozen? ⟨bW, 3, none⟩ = false := row_free r1 3
  clear hlW hneT r1 KPW neA rA1 rZ1 h1 G1 hge RA RZ q0 q1 q2 q3 q4 q5 q6 q7 g3
  refine hK _ _ ?_
  clear hK K
  repeat (first | (refine wpL_p (fun K hK => ?_); go_simp; refine hK _ _ ?_; clear hK K) | (apply wpL_s; (intro w2 hw2; have hk1 := hw2.cell; have hk3 := hw2.heap; clear hw2; go_simp; with_reducible rfl); simp only [Act.put, sA, sB, sC]) | (refine wpL_nil ?_))
  refine wpL_e (fun K hK => ?_)
  go_simp
  refine hK _ _ ?_
  clear hK K
  repeat (first | (refine wpL_p (fun K hK => ?_); go_simp; refine hK _ _ ?_; clear hK K) | (apply wpL_s; (intro w2 hw2; have hk1 := hw2.cell; have hk3 := hw2.heap; clear hw2; go_simp; with_reducible rfl); simp only [Act.put, sA, sB, sC]) | (refine wpL_nil ?_))
  have e0 := row_cell (row_other RA1.out (g' := bW) (j := 3) (v := .slice (some ⟨g1, 0, none⟩) (S.evs.length + 1) k9) (by omega))
  have z0 := row_other RZ1.out (g' := bW) (j := 3) (v := .slice (some ⟨g1, 0, none⟩) (S.evs.length + 1) k9) (by omega)
  obtain ⟨W2, hW2⟩ : ∃ W2, W2 = w1.setCell ⟨bW, 3, none⟩ (.slice (some ⟨g1, 0, none⟩) (S.evs.length + 1) k9) := ⟨_, rfl⟩
  rw [← hW2] at e0 z0 ⊢
  have x0 : W2.cell? ⟨w.heap.size, 0, none⟩ = some (.int .i64 k1) := e0 0
  have x1 : W2.cell? ⟨w.heap.size, 1, none⟩ = some (.int .i64 (idOf i t.tx)) := e0 1
  have x2 : W2.cell? ⟨w.heap.size, 2, none⟩ = some (.int .i64 k3) := e0 2
  have x3 : W2.cell? ⟨w.heap.size, 3, none⟩ = some (.int .i64 k4) := e0 3
  have x4 : W2.cell? ⟨w.heap.size, 4, none⟩ = some (.int .i64 k5) := e0 4
  have x5 : W2.cell? ⟨w.heap.size, 5, none⟩ = some (.int .i64 k6) := e0 5
  have x6 : W2.cell? ⟨w.heap.size, 6, none⟩ = some (.int .i64 k7) := e0 6
  have x7 : W2.cell? ⟨w.heap.size, 7, none⟩ = some (.int .i64 k8) := e0 7
  have zf : ∀ j, W2.frozen? ⟨w.heap.size + 1, j, none⟩ = false := fun j => row_free z0 j
  have zc := row_cell z0
  have y0 : W2.cell? ⟨w.heap.size + 1, 0, none⟩ = some (.int .i64 0) := zc 0
  have y1 : W2.cell? ⟨w.heap.size + 1, 1, none⟩ = some (.int .i64 0) := zc 1
  have y2 : W2.cell? ⟨w.heap.size + 1, 2, none⟩ = some (.int .i64 0) := zc 2
  have y3 : W2.cell? ⟨w.heap.size + 1, 3, none⟩ = some (.int .i64 0) := zc 3
  have y4 : W2.cell? ⟨w.heap.size + 1, 4, none⟩ = some (.int .i64 0) := zc 4
  have y5 : W2.cell? ⟨w.heap.size + 1, 5, none⟩ = some (.int .i64 0) := zc 5
  have y6 : W2.cell? ⟨w.heap.size + 1, 6, none⟩ = some (.int .i64 0) := zc 6
  have y7 : W2.cell? ⟨w.heap.size + 1, 7, none⟩ = some (.int .i64 0) := zc 7
  have HW2 := hid hW2
  have Z0 := hid z0
  clear e0 z0 hW2 zc m3 mf
  go_wp2
  have WR := ((((((((Wr.start Z0.out).set 0 (.int .i64 k1)).set 1 (.int .i64 (idOf i t.tx))).set 2 (.int .i64 k3)).set 3 (.int .i64 k4)).set 4 (.int .i64 k5)).set 5 (.int .i64 k6)).set 6 (.int .i64 k7)).set 7 (.int .i64 k8)
  generalize (((((((W2.setCell ⟨w.heap.size + 1, 0, none⟩ (.int .i64 k1)).setCell ⟨w.heap.size + 1, 1, none⟩ (.int .i64 (idOf i t.tx))).setCell ⟨w.heap.size + 1, 2, none⟩ (.int .i64 k3)).setCell ⟨w.heap.size + 1, 3, none⟩ (.int .i64 k4)).setCell ⟨w.heap.size + 1, 4, none⟩ (.int .i64 k5)).setCell ⟨w.heap.size + 1, 5, none⟩ (.int .i64 k6)).setCell ⟨w.heap.size + 1, 6, none⟩ (.int .i64 k7)).setCell ⟨w.heap.size + 1, 7, none⟩ (.int .i64 k8) = W3 at *
  have KS : Kp Mw (.slice ae S.evs.length ce) w1 W2 := by rw [HW2.out]; exact Kp.set R1.out (.inl rfl) _
  have KT : Kp Mw (.slice ae S.evs.length ce) w W3 := Kp.wr ((Kp.of_below BZ.out).trans ((KPW1.out.more (M' := Mw) fun _ h => h.elim).trans KS fun b h => .inl h) fun b h => .inl h) WR (by omega)
  have cc := row_cell WR.row
  have cc0 := cc 0
  have cc1 := cc 1
  have cc2 := cc 2
  have cc3 := cc 3
  have cc4 := cc 4
  have cc5 := cc 5
  have cc6 := cc 6
  have cc7 := cc 7
  simp at cc0 cc1 cc2 cc3 cc4 cc5 cc6 cc7
  refine bodyPost_ret (v := .tuple #[evV ⟨k1, idOf i t.tx, k3, k4, k5, k6, k7, k8⟩, .bool true]) (by simp [results, Tryd.results54, go_sem, cc0, cc1, cc2, cc3, cc4, cc5, cc6, cc7]) rfl ⟨rfl, .slice (some ⟨g1, 0, none⟩) (S.evs.length + 1) k9, ?_, ?_, ?_, ?_⟩
  · have hbg : bW ≠ w.heap.size + 1 := by omega
    have tne := OwnF.neT T1.out R1.out (by decide)
    have one := OwnF.neT O1.out R1.out (by decide)
    have hT2 : OwnF Th.cells 114 6 W2 B (.slice (some ⟨gT, 0, none⟩) P.threads.length P.threads.length) S.ths := by rw [HW2.out]; exact OwnF.other T1.out tne _
    have hO2 : OwnF Ev.cells 50 8 W2 B (.slice (some ⟨g1, 0, none⟩) (S.evs.length + 1) k9) (S.evs ++ [⟨k1, idOf i t.tx, k3, k4, k5, k6, k7, k8⟩]) := by rw [HW2.out]; exact OwnF.other O1.out one _
    have hR2 : W2.heap[bW]? = some (.cells #[vc, vt, .slice (some ⟨gT, 0, none⟩) P.threads.length P.threads.length, .slice (some ⟨g1, 0, none⟩) (S.evs.length + 1) k9] 98 (0, 0)) := by rw [HW2.out]; exact row_set R1.out 3 _
    refine H.out.turn KT ((WR.other bW hbg).trans hR2) (OwnF.wr hT2 WR fun e => ?_) (OwnF.wr hO2 WR fun e => ?_) H.out.tok
    · have h1 := (H.out.ths.lt _ e).2
      omega
    · rcases HOW.out _ e with h | h
      · have := (HLT.out _ h).2; omega
      · omega
  · exact KT
  · refine ((BZ.out.mono hBw.out).trans (HW1.out.trans ?_)).trans (WR.below (by have := hBw.out; omega))
    rw [HW2.out]
    exact (Below.refl B w1).setCell (p := ⟨bW, 3, none⟩) H.out.hB _
  · intro k hk
    rcases HOW.out k hk with h | h
    · exact .inl h
    · exact .inr (by omega)
end
end Go.Proofs.YtogphaiomlfofaaDoor
namespace Go.Proofs.YtogphaiomlfofaaDoor
open Go.RowKit

section
variable {P : Program} {ops : Array Oper} {Q Q' : Exit → Act → World → Prop} {md : Region.Mode} {kd : Nat → Nat}
theorem wp_onlyA {o : Oper} {a : Act} {w : World} {K K' : Act → World → Prop} (h : ∀ a w, K a w → K' a w)
    (hh : o.wp P a w K (Only Q')) : o.wp P a w K' Q := by
  unfold Oper.wp at *
  generalize (execOp a.eval o).run P w = r at *
  cases r with
  | ok n w' =>
    cases n <;> simp only [Oper.upon] at hh ⊢ <;>
      first
        | exact h _ _ hh
        | exact Calls.mono hh (fun e w'' he => by cases e <;> first | exact h _ _ he | exact (he : False).elim | exact (not_letsOut_only he).elim)
        | exact Rows.mono hh (fun _ _ he => h _ _ he)
  | halt x w' => cases x <;> simp only [Oper.upon] at hh ⊢ <;> exact (hh : False).elim
theorem wpOpX_monoQ {i : Nat} {a : Act} {w : World} {K K' : Act → World → Prop} (h : ∀ a w, K a w → K' a w) (hh : wpOpX P ops kd Q' i K a w) : wpOpX P ops kd Q i K' a w := by
  unfold wpOpX at *
  cases ho : ops[i]? with
  | none => simp only [ho] at hh ⊢; exact h _ _ hh
  | some o =>
    simp only [ho] at hh ⊢
    split
    · rename_i hw
      simp only [hw, if_true] at hh
      exact ⟨fun hk => let ⟨v, h1, h2⟩ := hh.1 hk; ⟨v, h1, h _ _ h2⟩, fun hk => let ⟨v, h1, h2⟩ := hh.2.1 hk; ⟨v, h1, h _ _ h2⟩, fun hk => wp_onlyA h (hh.2.2.1 hk), fun hk => wp_onlyA (fun a w h' => ⟨h'.1, h a w h'.2⟩) (hh.2.2.2 hk)⟩
    · rename_i hw; simp only [hw] at hh; exact h _ _ hh

def checkP (md : Region.Mode) (ops : Array Oper) (bf : Array Nat) (kd : Nat → Nat) : List Nat → Array Bool → Bool
  | [], _ => true
  | i :: l, listed =>
    (if kd i ≤ 1 then (Region.ready md ops listed).contains i && (match ops[i]? with
        | none => false
        | some oi => (List.range ops.size).all fun j => j == i || listed.getD j true || (match ops[j]? with
          | none => true
          | some oj => (bf.getD j 0).testBit i || (oi.apart ops oj && (kd i == 0 || kd j != 2))))
     else Region.ready md ops listed == [i]) && checkP md ops bf kd l (listed.setIfInBounds i true)

def after (l : List Nat) (listed : Array Bool) : Array Bool := l.foldl (fun s i => s.setIfInBounds i true) listed

theorem wpAnyX_of_pre {bf : Array Nat} (hbf : ∀ j i, (bf.getD j 0).testBit i = true → ∃ n, waits md ops n j i = true) (hs : Region.noSelect ops = true) (n : Nat) : ∀ (l : List Nat) (listed : Array Bool) (a : Act) (w : World), Closed md ops listed →
    checkP md ops bf kd l listed = true → (Closed md ops (after l listed) → ∀ a w, Q' .normal a w → wpAnyX P md ops kd Q n (after l listed) a w) → wpX P ops kd Q' l a w → wpAnyX P md ops kd Q (l.length + n) listed a w
  | [], listed, a, w, hcl, _, hE, h => by rw [show ([] : List Nat).length + n = n from Nat.zero_add n]; exact hE hcl a w h
  | i :: l, listed, a, w, hcl, hB, hE, h => by
    rw [show (i :: l).length + n = (l.length + n) + 1 by simp only [List.length_cons]; omega]
    simp only [checkP, Bool.and_eq_true] at hB
    obtain ⟨hB, hB'⟩ := hB
    have hsel := Region.noSelect_spec hs
    by_cases hk : kd i ≤ 1
    · rw [if_pos hk] at hB
      simp only [Bool.and_eq_true] at hB
      obtain ⟨hr, hf⟩ := hB
      have hr : i ∈ Region.ready md ops listed := by simpa using hr
      split at hf
      · cases hf
      · rename_i oi hoi
        have hfree : ∀ j oj, ops[j]? = some oj → j ≠ i → listed.getD j true = false → ¬ (∃ n, waits md ops n j i = true) → oi.apart ops oj = true ∧ (kd i = 0 ∨ kd j ≠ 2) := by
          intro j oj hoj hji hun hnw
          simp only [List.all_eq_true, List.mem_range] at hf
          have h1 := hf j (Array.getElem?_eq_some_iff.1 hoj).1
          have hnb : ¬ (bf.getD j 0).testBit i = true := fun h => hnw (hbf j i h)
          simp only [hoj, Bool.or_eq_true, beq_iff_eq, hji, false_or, hun, hnb, Bool.false_eq_true, Bool.and_eq_true, bne_iff_ne, ne_eq] at h1
          exact h1
        have hcl' := hcl.put hr
        have ht := fun (a' : Act) (w' : World) => wpAnyX_of_pre hbf hs n l (listed.setIfInBounds i true) a' w' hcl' hB' hE
        simp only [wpX] at h
        unfold wpOpX at h
        simp only [hoi] at h
        by_cases hw : Region.wanted oi (yielded ops a.tmps) = true
        · simp only [hw, if_true] at h
          rcases Nat.lt_or_ge (kd i) 1 with hk0 | hk1
          · have hk0 : kd i = 0 := by omega
            obtain ⟨v, h1, h2⟩ := h.1 hk0
            refine wpAnyX_first (C := fun _ => True) hoi hsel hk (fun _ _ h _ => h) ?_ (l.length + n) listed a w hcl trivial (fun j oj a1 a2 a3 a4 => ⟨(hfree j oj a1 a2 a3 a4).1, .inr fun _ => trivial⟩) hr (.inl ⟨hw, fun w' _ => h1 w'⟩) (ht _ _ h2)
            intro a w K _ hy hK
            unfold wpOpX
            simp only [hoi]
            rcases hy with ⟨hw, hv⟩ | ⟨hw, rfl⟩
            · simp only [hw, if_true]
              exact ⟨fun _ => ⟨v, fun w' => hv w' trivial, hK⟩, fun hk => by omega, fun hk => by omega, fun hk => by omega⟩
            · simp only [hw, Bool.false_eq_true, if_false]; exact hK
          · have hk1 : kd i = 1 := by omega
            obtain ⟨v, h1, h2⟩ := h.2.1 hk1
            refine wpAnyX_first (C := fun w' => Keeps w w') hoi hsel hk (fun _ _ h h' => h.trans h') ?_ (l.length + n) listed a w hcl (Keeps.refl w) (fun j oj a1 a2 a3 a4 => ⟨(hfree j oj a1 a2 a3 a4).1, .inl ((hfree j oj a1 a2 a3 a4).2.resolve_left (by omega))⟩) hr (.inl ⟨hw, fun w' hw' => h1 w' hw'⟩) (ht _ _ h2)
            intro a' w' K hC hy hK
            unfold wpOpX
            simp only [hoi]
            rcases hy with ⟨hw, hv⟩ | ⟨hw, rfl⟩
            · simp only [hw, if_true]
              exact ⟨fun hk => by omega, fun _ => ⟨v, fun w2 hk2 => hv w2 (Keeps.trans hC hk2), hK⟩, fun hk => by omega, fun hk => by omega⟩
            · simp only [hw, Bool.false_eq_true, if_false]; exact hK
        · simp only [hw] at h
          have hw' : Region.wanted oi (yielded ops a.tmps) = false := by simpa using hw
          by_cases hk0 : kd i = 0
          · refine wpAnyX_first (C := fun _ => True) hoi hsel hk (fun _ _ h _ => h) ?_ (l.length + n) listed a w hcl trivial (fun j oj a1 a2 a3 a4 => ⟨(hfree j oj a1 a2 a3 a4).1, .inr fun _ => trivial⟩) hr (.inr ⟨hw', rfl⟩) (ht _ _ h)
            intro a w K _ hy hK
            unfold wpOpX
            simp only [hoi]
            rcases hy with ⟨hw, hv⟩ | ⟨hw, hv⟩
            · simp only [hw, if_true]
              exact ⟨fun _ => ⟨_, fun w' => hv w' trivial, hK⟩, fun hk => by omega, fun hk => by omega, fun hk => by omega⟩
            · simp only [hw, Bool.false_eq_true, if_false]; exact hK
          · refine wpAnyX_first (C := fun w' => Keeps w w') hoi hsel hk (fun _ _ h h' => h.trans h') ?_ (l.length + n) listed a w hcl (Keeps.refl w) (fun j oj a1 a2 a3 a4 => ⟨(hfree j oj a1 a2 a3 a4).1, .inl ((hfree j oj a1 a2 a3 a4).2.resolve_left hk0)⟩) hr (.inr ⟨hw', rfl⟩) (ht _ _ h)
            intro a' w' K hC hy hK
            unfold wpOpX
            simp only [hoi]
            rcases hy with ⟨hw, hv⟩ | ⟨hw, hv⟩
            · simp only [hw, if_true]
              exact ⟨fun hk => by omega, fun _ => ⟨_, fun w2 hk2 => hv w2 (Keeps.trans hC hk2), hK⟩, fun hk => by omega, fun hk => by omega⟩
            · simp only [hw, Bool.false_eq_true, if_false]; exact hK
    · rw [if_neg hk] at hB
      have hr : Region.ready md ops listed = [i] := by simpa using hB
      refine ⟨fun h0 => (by rw [hr] at h0; cases h0), fun j hj => ?_⟩
      rw [hr] at hj
      obtain rfl : j = i := by simpa using hj
      exact wpOpX_monoQ (fun a' w' h' => wpAnyX_of_pre hbf hs n l _ a' w' (hcl.put (by rw [hr]; simp)) hB' hE h') h

def Fork (P : Program) (Q : Exit → Act → World → Prop) (l1 l2 : List XOp) : Exit → Act → World → Prop
  | .normal, a, w => wpL P Q l1 a w ∧ wpL P Q l2 a w
  | _, _, _ => False
end
section
variable {P : Program} {Q : Exit → Act → World → Prop}
def checkF (l : List Oper) (ks : List Nat) (σ : List Nat) (i j : Nat) (σ1 σ2 : List Nat) : Bool :=
  let kd := fun i => ks.getD i 2
  let s := after σ (Array.replicate l.length false)
  checkP .any l.toArray (Region.before l.toArray) kd σ (Array.replicate l.length false) && (Region.ready .any l.toArray s == [i, j]) &&
    checkX .any l.toArray (Region.before l.toArray) kd σ1 (s.setIfInBounds i true) && checkX .any l.toArray (Region.before l.toArray) kd σ2 (s.setIfInBounds j true) && (σ1.length == σ2.length) && (σ.length + σ1.length + 1 == l.length)
theorem wp_region_f {id : Nat} {l : List Oper} {a : Act} {w : World} (ks σ : List Nat) (i j : Nat) (σ1 σ2 : List Nat) (hm : P.follows .mixedOrders = true) (hs : Region.noSelect l.toArray = true)
    (hB : checkF l ks σ i j σ1 σ2 = true) (h : wpL P (Fork P Q (selX ks l (i :: σ1)) (selX ks l (j :: σ2))) (selX ks l σ) a w.drew) : (Code.region id l.toArray true).wp P Q a w := by
  simp only [checkF, Bool.and_eq_true, beq_iff_eq] at hB
  obtain ⟨⟨⟨⟨⟨h1, h2⟩, h3⟩, h4⟩, h5⟩, h6⟩ := hB
  refine wp_region_any hm (wpAny_of_X (kd := fun i => ks.getD i 2) _ _ _ _ ?_)
  refine (show wpAnyX P .any l.toArray (fun i => ks.getD i 2) Q (σ.length + (σ1.length + 1)) (Array.replicate l.length false) a w.drew → _ from fun key => ?_) (wpAnyX_of_pre (md := .any) (kd := fun i => ks.getD i 2) (fun _ _ => before_waits) hs (σ1.length + 1) σ (Array.replicate l.length false) a w.drew (closed_none _) h1 (fun hcl a' w' hQ => ?_) (wpX_of_wpL σ a _ h))
  · rw [show σ.length + (σ1.length + 1) = l.length by omega] at key
    simpa using key
  · obtain ⟨q1, q2⟩ := hQ
    refine ⟨fun h0 => (by rw [h2] at h0; cases h0), fun x hx => ?_⟩
    have hx0 := hx
    rw [h2] at hx
    simp only [List.mem_cons, List.not_mem_nil, or_false] at hx
    rcases hx with rfl | rfl
    · have := wpX_of_wpL (x :: σ1) a' w' q1
      simp only [wpX] at this
      exact wpOpX_mono (fun a2 w2 h' => wpAnyX_of_wpX (fun _ _ => before_waits) hs σ1 _ a2 w2 (hcl.put hx0) h3 h') this
    · have := wpX_of_wpL (x :: σ2) a' w' q2
      simp only [wpX] at this
      rw [h5]
      exact wpOpX_mono (fun a2 w2 h' => wpAnyX_of_wpX (fun _ _ => before_waits) hs σ2 _ a2 w2 (hcl.put hx0) h4 h') this
end
end Go.Proofs.YtogphaiomlfofaaDoor
