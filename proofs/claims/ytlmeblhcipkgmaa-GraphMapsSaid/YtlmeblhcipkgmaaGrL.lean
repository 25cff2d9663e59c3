/- The laws' own helpers: a graph made of edges and nodes, and whether it has just these. Conditions: those of each theorem, as typed. -/
import Derived.Test.YtlmeblhcipkgmaaGsB
import Derived.Test.YtlmeblhcipkgmaaRelL
namespace Go.Proofs.Ytlmeblhcipkgmaa
open Go.RowKit Go.Maps
set_option linter.unusedVariables false
attribute [local irreducible] wpL

/-- A graph made of edges, then of nodes. -/
def gE (l : List Tr) : List Int × List Tr := l.foldl (fun g e => (insI e.2.1 (insI e.1 g.1), insT e g.2)) ([], [])
def gN (N : List Int) (nd : List Int) : List Int := nd.foldl (fun N a => insI a N) N
theorem gE_snoc (l : List Tr) (e : Tr) : gE (l ++ [e]) = (insI e.2.1 (insI e.1 (gE l).1), insT e (gE l).2) := by simp [gE]
theorem gN_snoc (N nd : List Int) (a : Int) : gN N (nd ++ [a]) = insI a (gN N nd) := by simp [gN]
theorem gE_ok (l : List Tr) : GrOk (gE l).1 (gE l).2 := by
  have h : ∀ (l : List Tr) (g : List Int × List Tr), GrOk g.1 g.2 → GrOk (l.foldl (fun g e => (insI e.2.1 (insI e.1 g.1), insT e g.2)) g).1 (l.foldl (fun g e => (insI e.2.1 (insI e.1 g.1), insT e g.2)) g).2 := by
    intro l
    induction l with
    | nil => intro g h; exact h
    | cons e l ih => intro g h; exact ih _ (h.edge e.1 e.2.1 e.2.2)
  exact h l ([], []) GrOk.nil
theorem gN_ok (nd : List Int) {N : List Int} {E : List Tr} (h : GrOk N E) : GrOk (gN N nd) E := by
  induction nd generalizing N with
  | nil => exact h
  | cons a nd ih => exact ih (h.node a)
theorem gE_len (l : List Tr) : (gE l).1.length ≤ 2 * l.length ∧ (gE l).2.length ≤ l.length := by
  have h : ∀ (l : List Tr) (g : List Int × List Tr), (l.foldl (fun g e => (insI e.2.1 (insI e.1 g.1), insT e g.2)) g).1.length ≤ g.1.length + 2 * l.length ∧ (l.foldl (fun g e => (insI e.2.1 (insI e.1 g.1), insT e g.2)) g).2.length ≤ g.2.length + l.length := by
    intro l
    induction l with
    | nil => intro g; simp
    | cons e l ih =>
      intro g
      have h1 := ih (insI e.2.1 (insI e.1 g.1), insT e g.2)
      have h2 := length_insI (n := e.1) (l := g.1)
      have h3 := length_insI (n := e.2.1) (l := insI e.1 g.1)
      have h4 := length_insT (p := e) (l := g.2)
      simp only [List.foldl_cons, List.length_cons] at h1 ⊢
      omega
  have := h l ([], [])
  simpa [gE] using this
theorem gN_len (N nd : List Int) : (gN N nd).length ≤ N.length + nd.length := by
  induction nd generalizing N with
  | nil => simp [gN]
  | cons a nd ih =>
    have h1 := ih (insI a N)
    have h2 := length_insI (n := a) (l := N)
    simp only [gN, List.foldl_cons, List.length_cons] at h1 ⊢
    omega
theorem GrAt.setC {w : World} {lo hi p : Nat} {N : List Int} {E : List Tr} (h : GrAt w lo hi p N E) {b j : Nat} {cs : Array Value} {t : TypeId} {fz : Nat × Nat} (hb : w.heap[b]? = some (.cells cs t fz)) (ht : t ≠ 120) (u : Value) : GrAt (w.setCell ⟨b, j, none⟩ u) lo hi p N E := by
  refine h.grow (row := some b) ⟨rfl, rfl, rfl, by simp, fun k hk hne => Below.heap_setCell w ⟨b, j, none⟩ u k (fun e => hne (by rw [e]))⟩ fun k e => ?_
  cases e
  refine ⟨fun e => ?_, _, hb, fun _ _ e => by cases e⟩
  subst e
  obtain ⟨_, _, _, _, h⟩ := h
  rw [h.ptr] at hb
  simp only [Option.some.injEq, Obj.cells.injEq] at hb
  exact ht hb.2.1.symm

section
variable {w : World} {vd vi : Value}
set_option maxRecDepth 100000 in
set_option maxHeartbeats 2000000 in
theorem gr_made {l : List Tr} {nd : List Int} {n m B : Nat} (h : Sl w B 3 vd n (l.flatMap trC)) (hn : l.length = n) (hB : B ≤ w.heap.size) (hi : Sl w B 1 vi m (nd.flatMap intC)) (hm : nd.length = m) (hd : ∀ x ∈ l, dI x.1 ∧ dI x.2.1 ∧ dI x.2.2) (hdi : ∀ x ∈ nd, dI x) (hn1 : n ≤ 1000) (hm1 : m ≤ 1000) :
    Calls Try.prog 45 #[vd, vi] w fun e w' => ∃ p vn ve, e = .returned (.tuple #[.pointer (some ⟨p, 0, none⟩), .agg #[vn, ve]]) ∧ GrAt w' w.heap.size w'.heap.size p (gN (gE l).1 nd) (gE l).2 ∧ RG w' vn ve (gN (gE l).1 nd) (gE l).2 ∧ Below w.heap.size w w' := by
  obtain ⟨al, cl, rfl, hal⟩ := h.ex
  obtain ⟨ai, ci, rfl, hai⟩ := hi.ex
  have H := hid h
  have HI := hid hi
  have HN := hid hn
  have HM := hid hm
  have HD := hid hd
  have HDI := hid hdi
  clear h hi hn hm hd hdi
  go_enter Try.func45, Try.ntmps45
  go_wp2_with fail
  refine (gr_new _).mono ?_
  rintro e w1 ⟨p, rfl, g1, b1⟩
  have r1 := row_below (row_new w (.cells #[.slice none 0 0, .slice none 0 0] 63)) b1 (by simp)
  have B1 := hid (((Below.refl w.heap.size w).alloc (Nat.le_refl _) (.cells #[.slice none 0 0, .slice none 0 0] 63)).trans (b1.mono (by simp)))
  have z1 : w.heap.size + 1 ≤ w1.heap.size := by have := b1.size; simpa using this
  have G1 := hid ((g1.lower (lo' := w.heap.size + 1) (by simp)).below ((Below.refl w1.heap.size w1).alloc (Nat.le_refl _) (.cells #[.slice none 0 0, .slice none 0 0] 63)) (Nat.le_refl _))
  have R1 := hid (row_old (o := .cells #[.slice none 0 0, .slice none 0 0] 63) r1)
  have R2 := hid (row_new w1 (.cells #[.slice none 0 0, .slice none 0 0] 63))
  have B2 := hid (B1.out.alloc B1.out.size (.cells #[.slice none 0 0, .slice none 0 0] 63))
  clear g1 b1 r1 B1
  go_wp2_with fail
  obtain ⟨w2, hw2⟩ : ∃ w2, w2 = w1.alloc (.cells #[.slice none 0 0, .slice none 0 0] 63) := ⟨_, rfl⟩
  have z2 : w1.heap.size + 1 ≤ w2.heap.size := by rw [hw2, World.size_alloc]; exact Nat.le_refl _
  rw [← hw2] at G1 R1 R2 B2 ⊢
  have G2 := hid (G1.out.raise (hi' := w2.heap.size) (by omega))
  obtain ⟨hv, hhv⟩ : ∃ hv, hv = w1.heap.size := ⟨_, rfl⟩
  rw [← hhv] at R2 z2 ⊢
  have hvz : w.heap.size + 1 ≤ hv := by omega
  have P0 := hid (RG.nil w2)
  clear hw2 hhv G1
  go_loopw [8] (fun i wr => ∃ (k : Nat) (vn ve : Value), k ≤ n ∧ i = .int .i64 k ∧ wr.heap[hv]? = some (.cells #[vn, ve] 63 (0, 0)) ∧ wr.heap[w.heap.size]? = some (.cells #[.slice none 0 0, .slice none 0 0] 63 (0, 0)) ∧
    GrAt wr (w.heap.size + 1) wr.heap.size p (gE (l.take k)).1 (gE (l.take k)).2 ∧ RG wr vn ve (gE (l.take k)).1 (gE (l.take k)).2 ∧ Below w.heap.size w wr) (fun i _ => n - (intOf i).toNat)
  case atStart => exact ⟨0, .slice none 0 0, .slice none 0 0, by omega, by go_num, R2.out, R1.out, G2.out, P0.out, B2.out⟩
  case round =>
    obtain ⟨k, vn, ve, hk, rfl, hr2, hr1, hG, hP, hB2⟩ := hrel
    obtain ⟨an, cn, nn, rfl, hnn, hnm, -⟩ := hP.n.open
    obtain ⟨ae, ce, ne, rfl, hne, hem, -⟩ := hP.e.open
    have hL1 := gE_len (l.take k)
    have hkl : (l.take k).length ≤ 1000 := by rw [List.length_take]; omega
    have HSN := hid (gE_snoc (l.take k))
    have HALL := hid (fun h : n ≤ k => show l.take k = l from List.take_of_length_le (by rw [HN.out]; exact h))
    have HOK := hid (gE_ok (l.take k))
    generalize hGG : gE (l.take k) = GG at *
    obtain ⟨N, E⟩ := GG
    have HGG0 := hid hGG
    simp only at hL1 hG hP hnn hne
    clear hGG
    have hN9 : N.length ≤ 2000 := by omega
    have hE9 : E.length ≤ 1000 := by omega
    have R1 := hid hr1
    have R2 := hid hr2
    have G3 := hid hG
    have P3 := hid hP
    have B3 := hid hB2
    have hz := hB2.size
    have hvl := row_lt hr2
    clear hr1 hr2 hG hP hB2 hL1 hnn hne G2 P0 B2
    by_cases hlt : k < n
    · obtain ⟨b, off, x, rfl, hb, hx, c1, c2, c3⟩ := (H.out.below (B3.out.mono hB)).trs hlt HN.out
      have hxd := HD.out x (List.mem_of_getElem? hx)
      have HT := hid (take_step hx)
      clear hx
      go_wp2
      refine wp_region_x [0, 0, 0, 0, 0, 1, 0, 0, 0, 0, 1, 0, 0, 0, 0, 1, 2] [0, 1, 2, 3, 4, 5, 6, 7, 8, 9, 10, 11, 12, 13, 14, 15, 16] (by kernel_rfl) (by kernel_rfl) rfl (by kernel_rfl) ?_
      simp only [selX, guardAt, List.getElem?_cons_zero, List.getElem?_cons_succ, List.getD_cons_zero, List.getD_cons_succ]
      repeat (first
        | (refine wpL_p (fun K hK => ?_); go_simp; refine hK _ _ ?_; clear hK K)
        | (refine wpL_r (fun K hK => ?_); apply Exists.intro; refine ⟨fun w2 hw2 => ?_, hK _ _ ?_⟩; (have hk1 := hw2.cell; have hk3 := hw2.heap; clear hw2; go_simp; with_reducible rfl); clear hK K; simp only [Act.put, List.setIfInBounds_toArray, List.set_cons_zero, List.set_cons_succ])
        | (refine wpL_yes rfl rfl ?_)
        | (refine wpL_no rfl rfl (fun K hK => ?_); simp only [Act.put, List.setIfInBounds_toArray, List.set_cons_zero, List.set_cons_succ]; refine hK _ _ ?_; clear hK K)
        | (refine wpL_nil ?_))
      refine wpL_e (fun K hK => ?_)
      go_simp
      refine (gr_edge (G3.out.below (Below.refl wr.heap.size wr).drew (Nat.le_refl _)) (Nat.le_refl _) (by omega) (by omega) x.1 x.2.1 x.2.2 hxd.1 hxd.2.1 hxd.2.2).mono ?_
      rintro e w4 ⟨rfl, g4, k4, b4⟩
      refine hK _ _ ?_
      clear hK K
      have G4 := hid g4
      have R14 := hid (k4.cells (show wr.drew.heap[w.heap.size]? = _ from R1.out))
      have r24 := k4.cells (show wr.drew.heap[hv]? = _ from R2.out)
      have R24 := hid r24
      have P4 := hid ((show RG wr.drew _ _ N E from ⟨P3.out.n, P3.out.e⟩).keep k4)
      have B4 := hid (B3.out.drew.trans (b4.mono (by omega)))
      have z4 : wr.heap.size ≤ w4.heap.size := k4.size
      have c1' := cell_keep k4 (show wr.drew.cell? _ = _ from c1)
      have c2' := cell_keep k4 (show wr.drew.cell? _ = _ from c2)
      have c3' := cell_keep k4 (show wr.drew.cell? _ = _ from c3)
      have d0 : w4.cell? ⟨hv, 0, none⟩ = some (.slice an nn cn) := row_cell r24 0
      have d1 : w4.cell? ⟨hv, 1, none⟩ = some (.slice ae ne ce) := row_cell r24 1
      clear g4 k4 b4 r24 c1 c2 c3 G3 P3 B3 R1 R2
      repeat (first
        | (refine wpL_p (fun K hK => ?_); go_simp; refine hK _ _ ?_; clear hK K)
        | (refine wpL_r (fun K hK => ?_); apply Exists.intro; refine ⟨fun w2 hw2 => ?_, hK _ _ ?_⟩; (have hk1 := hw2.cell; have hk3 := hw2.heap; clear hw2; go_simp; with_reducible rfl); clear hK K; simp only [Act.put, List.setIfInBounds_toArray, List.set_cons_zero, List.set_cons_succ])
        | (refine wpL_yes rfl rfl ?_)
        | (refine wpL_no rfl rfl (fun K hK => ?_); simp only [Act.put, List.setIfInBounds_toArray, List.set_cons_zero, List.set_cons_succ]; refine hK _ _ ?_; clear hK K)
        | (refine wpL_nil ?_))
      go_wp2
      refine wp_region_x [1, 0, 0, 0, 0, 1, 0, 0, 0, 0, 1, 0, 0, 0, 0, 1, 2, 2] [0, 1, 2, 3, 4, 5, 6, 7, 8, 9, 10, 11, 12, 13, 14, 15, 16, 17] (by kernel_rfl) (by kernel_rfl) rfl (by kernel_rfl) ?_
      simp only [selX, guardAt, List.getElem?_cons_zero, List.getElem?_cons_succ, List.getD_cons_zero, List.getD_cons_succ]
      repeat (first
        | (refine wpL_p (fun K hK => ?_); go_simp; refine hK _ _ ?_; clear hK K)
        | (refine wpL_r (fun K hK => ?_); apply Exists.intro; refine ⟨fun w2 hw2 => ?_, hK _ _ ?_⟩; (have hk1 := hw2.cell; have hk3 := hw2.heap; clear hw2; go_simp; with_reducible rfl); clear hK K; simp only [Act.put, List.setIfInBounds_toArray, List.set_cons_zero, List.set_cons_succ])
        | (refine wpL_yes rfl rfl ?_)
        | (refine wpL_no rfl rfl (fun K hK => ?_); simp only [Act.put, List.setIfInBounds_toArray, List.set_cons_zero, List.set_cons_succ]; refine hK _ _ ?_; clear hK K)
        | (refine wpL_nil ?_))
      refine wpL_e (fun K hK => ?_)
      go_simp
      refine (rg_edge (show RG w4.drew _ _ N E from ⟨P4.out.n, P4.out.e⟩) HOK.out (by omega) (by omega) x.1 x.2.1 x.2.2).mono ?_
      rintro e w5 ⟨vn5, ve5, rfl, g5, b5⟩
      refine hK _ _ ?_
      clear hK K
      obtain ⟨a5, c5, rfl, hm5⟩ := Sl.ex g5.n
      obtain ⟨a6, c6, rfl, hm6⟩ := Sl.ex g5.e
      have r15 := row_below (show w4.drew.heap[w.heap.size]? = _ from R14.out) b5 (by show _ < w4.heap.size; omega)
      have r25 := row_below (show w4.drew.heap[hv]? = _ from R24.out) b5 (by show _ < w4.heap.size; omega)
      have e0 : w5.cell? ⟨hv, 0, none⟩ = some (.slice an nn cn) := row_cell r25 0
      have e1 : w5.cell? ⟨hv, 1, none⟩ = some (.slice ae ne ce) := row_cell r25 1
      have f1 : ∀ j, w5.frozen? ⟨hv, j, none⟩ = false := fun j => row_free r25 j
      have e1' : (w5.setCell ⟨hv, 0, none⟩ (.slice a5 (insI x.2.1 (insI x.1 N)).length c5)).cell? ⟨hv, 1, none⟩ = some (.slice ae ne ce) := (World.cell?_setCell_other _ _ _ _ (by simp)).trans e1
      have P6 := hid ((g5.set e0 (.slice a5 (insI x.2.1 (insI x.1 N)).length c5)).set e1' (.slice a6 (insT (x.1, x.2.1, x.2.2) E).length c6))
      have G6 := hid ((((G4.out.below ((Below.refl w4.heap.size w4).drew.trans b5) (Nat.le_refl _)).raise (hi' := w5.heap.size) b5.size).setC r25 (by decide) (.slice a5 (insI x.2.1 (insI x.1 N)).length c5) (j := 0)).setC (row_set r25 0 (.slice a5 (insI x.2.1 (insI x.1 N)).length c5)) (by decide) (.slice a6 (insT (x.1, x.2.1, x.2.2) E).length c6) (j := 1))
      have R26 := hid (row_set (row_set r25 0 (.slice a5 (insI x.2.1 (insI x.1 N)).length c5)) 1 (.slice a6 (insT (x.1, x.2.1, x.2.2) E).length c6))
      have R16 := hid (row_other (row_other r15 (g' := hv) (j := 0) (v := (.slice a5 (insI x.2.1 (insI x.1 N)).length c5)) (by omega)) (g' := hv) (j := 1) (v := (.slice a6 (insT (x.1, x.2.1, x.2.2) E).length c6)) (by omega))
      have B6 := hid (((B4.out.drew.trans (b5.mono (by show _ ≤ w4.heap.size; omega))).setCell (p := ⟨hv, 0, none⟩) (by show _ ≤ hv; omega) (.slice a5 (insI x.2.1 (insI x.1 N)).length c5)).setCell (p := ⟨hv, 1, none⟩) (by show _ ≤ hv; omega) (.slice a6 (insT (x.1, x.2.1, x.2.2) E).length c6))
      have z6 : w4.heap.size ≤ w5.heap.size := b5.size
      clear g5 b5 r15 r25 e1' G4 R14 R24 P4 B4
      repeat (first
        | (refine wpL_p (fun K hK => ?_); go_simp; refine hK _ _ ?_; clear hK K)
        | (refine wpL_r (fun K hK => ?_); apply Exists.intro; refine ⟨fun w2 hw2 => ?_, hK _ _ ?_⟩; (have hk1 := hw2.cell; have hk3 := hw2.heap; clear hw2; go_simp; with_reducible rfl); clear hK K; simp only [Act.put, List.setIfInBounds_toArray, List.set_cons_zero, List.set_cons_succ])
        | (refine wpL_yes rfl rfl ?_)
        | (refine wpL_no rfl rfl (fun K hK => ?_); simp only [Act.put, List.setIfInBounds_toArray, List.set_cons_zero, List.set_cons_succ]; refine hK _ _ ?_; clear hK K)
        | (refine wpL_nil ?_))
      refine wpL_e (fun K hK => ?_)
      go_simp
      refine hK _ _ ?_
      clear hK K e0 e1 f1 c1' c2' c3'
      repeat (first
        | (refine wpL_p (fun K hK => ?_); go_simp; refine hK _ _ ?_; clear hK K)
        | (refine wpL_r (fun K hK => ?_); apply Exists.intro; refine ⟨fun w2 hw2 => ?_, hK _ _ ?_⟩; (have hk1 := hw2.cell; have hk3 := hw2.heap; clear hw2; go_simp; with_reducible rfl); clear hK K; simp only [Act.put, List.setIfInBounds_toArray, List.set_cons_zero, List.set_cons_succ])
        | (refine wpL_yes rfl rfl ?_)
        | (refine wpL_no rfl rfl (fun K hK => ?_); simp only [Act.put, List.setIfInBounds_toArray, List.set_cons_zero, List.set_cons_succ]; refine hK _ _ ?_; clear hK K)
        | (refine wpL_nil ?_))
      go_wp2_with fail
      go_roundw
      case rel => exact ⟨k + 1, _, _, by omega, by go_num, R26.out, R16.out, by rw [HT.out, HSN.out]; simpa using G6.out, by rw [HT.out, HSN.out]; exact P6.out, B6.out⟩
      case measure => simp [intOf]; omega
    · obtain rfl : k = n := by omega
      have HE := hid (HALL.out (Nat.le_refl _))
      have HGG : Hid (gE l = (N, E)) := hid (by rw [← HE.out]; exact HGG0.out)
      clear HSN HALL HE HGG0
      go_wp2_with fail
      go_loopw [9] (fun i wr => ∃ (j : Nat) (vn ve : Value), j ≤ m ∧ i = .int .i64 j ∧ wr.heap[hv]? = some (.cells #[vn, ve] 63 (0, 0)) ∧ wr.heap[w.heap.size]? = some (.cells #[.slice none 0 0, .slice none 0 0] 63 (0, 0)) ∧
        GrAt wr (w.heap.size + 1) wr.heap.size p (gN N (nd.take j)) E ∧ RG wr vn ve (gN N (nd.take j)) E ∧ Below w.heap.size w wr) (fun i _ => m - (intOf i).toNat)
      case atStart => exact ⟨0, _, _, by omega, by go_num, R2.out, R1.out, G3.out, P3.out, B3.out⟩
      case round =>
        obtain ⟨j, vn, ve, hj, rfl, hr2, hr1, hG, hP, hB2⟩ := hrel
        obtain ⟨an, cn, nn, rfl, hnn, hnm, -⟩ := hP.n.open
        obtain ⟨ae, ce, ne, rfl, hne, hem, -⟩ := hP.e.open
        have hL1 := gN_len N (nd.take j)
        have hkl : (nd.take j).length ≤ 1000 := by rw [List.length_take]; omega
        have HSN := hid (gN_snoc N (nd.take j))
        have HALL := hid (fun h : m ≤ j => show nd.take j = nd from List.take_of_length_le (by rw [HM.out]; exact h))
        have HOK2 := hid (gN_ok (nd.take j) HOK.out)
        have HNE0 : Hid (gN N (nd.take j) = gN N (nd.take j)) := hid rfl
        generalize hNj : gN N (nd.take j) = Nj at *
        have HNJ := hid hNj
        have hN10 : Nj.length ≤ 3000 := by omega
        have R1 := hid hr1
        have R2 := hid hr2
        have G3 := hid hG
        have P3 := hid hP
        have B3 := hid hB2
        have hz := hB2.size
        have hvl := row_lt hr2
        clear hr1 hr2 hG hP hB2 hL1 hnn hne hNj HNE0
        by_cases hlj : j < m
        · obtain ⟨b, off, x, rfl, hb, hx, c1⟩ := (HI.out.below (B3.out.mono hB)).ints hlj HM.out
          have hxd := HDI.out x (List.mem_of_getElem? hx)
          have HT := hid (take_step hx)
          clear hx
          go_wp2_with fail
          refine (gr_node G3.out (Nat.le_refl _) (by omega) x hxd).mono ?_
          rintro e w4 ⟨rfl, g4, k4, b4⟩
          have G4 := hid g4
          have R14 := hid (k4.cells R1.out)
          have r24 := k4.cells R2.out
          have R24 := hid r24
          have P4 := hid (P3.out.keep k4)
          have B4 := hid (B3.out.trans (b4.mono (by omega)))
          have z4 : wr.heap.size ≤ w4.heap.size := k4.size
          have c1' := cell_keep k4 c1
          have d0 : w4.cell? ⟨hv, 0, none⟩ = some (.slice an nn cn) := row_cell r24 0
          have d1 : w4.cell? ⟨hv, 1, none⟩ = some (.slice ae ne ce) := row_cell r24 1
          clear g4 k4 b4 r24 c1 G3 P3 B3 R1 R2
          go_wp2
          refine wp_region_x [1, 0, 0, 0, 1, 2, 2] [0, 1, 2, 3, 4, 5, 6] (by kernel_rfl) (by kernel_rfl) rfl (by kernel_rfl) ?_
          simp only [selX, guardAt, List.getElem?_cons_zero, List.getElem?_cons_succ, List.getD_cons_zero, List.getD_cons_succ]
          repeat (first
            | (refine wpL_p (fun K hK => ?_); go_simp; refine hK _ _ ?_; clear hK K)
            | (refine wpL_r (fun K hK => ?_); apply Exists.intro; refine ⟨fun w2 hw2 => ?_, hK _ _ ?_⟩; (have hk1 := hw2.cell; have hk3 := hw2.heap; clear hw2; go_simp; with_reducible rfl); clear hK K; simp only [Act.put, List.setIfInBounds_toArray, List.set_cons_zero, List.set_cons_succ])
            | (refine wpL_yes rfl rfl ?_)
            | (refine wpL_no rfl rfl (fun K hK => ?_); simp only [Act.put, List.setIfInBounds_toArray, List.set_cons_zero, List.set_cons_succ]; refine hK _ _ ?_; clear hK K)
            | (refine wpL_nil ?_))
          refine wpL_e (fun K hK => ?_)
          go_simp
          refine (rg_node (show RG w4.drew _ _ Nj E from ⟨P4.out.n, P4.out.e⟩) HOK2.out.srtN (by omega) x).mono ?_
          rintro e w5 ⟨vn5, rfl, g5, b5⟩
          refine hK _ _ ?_
          clear hK K
          obtain ⟨a5, c5, rfl, hm5⟩ := Sl.ex g5.n
          have r15 := row_below (show w4.drew.heap[w.heap.size]? = _ from R14.out) b5 (by show _ < w4.heap.size; omega)
          have r25 := row_below (show w4.drew.heap[hv]? = _ from R24.out) b5 (by show _ < w4.heap.size; omega)
          have e0 : w5.cell? ⟨hv, 0, none⟩ = some (.slice an nn cn) := row_cell r25 0
          have e1 : w5.cell? ⟨hv, 1, none⟩ = some (.slice ae ne ce) := row_cell r25 1
          have f1 : ∀ j, w5.frozen? ⟨hv, j, none⟩ = false := fun j => row_free r25 j
          have e1' : (w5.setCell ⟨hv, 0, none⟩ (.slice a5 (insI x Nj).length c5)).cell? ⟨hv, 1, none⟩ = some (.slice ae ne ce) := (World.cell?_setCell_other _ _ _ _ (by simp)).trans e1
          have P6 := hid ((g5.set e0 (.slice a5 (insI x Nj).length c5)).set e1' (.slice ae ne ce))
          have G6 := hid ((((G4.out.below ((Below.refl w4.heap.size w4).drew.trans b5) (Nat.le_refl _)).raise (hi' := w5.heap.size) b5.size).setC r25 (by decide) (.slice a5 (insI x Nj).length c5) (j := 0)).setC (row_set r25 0 (.slice a5 (insI x Nj).length c5)) (by decide) (.slice ae ne ce) (j := 1))
          have R26 := hid (row_set (row_set r25 0 (.slice a5 (insI x Nj).length c5)) 1 (.slice ae ne ce))
          have R16 := hid (row_other (row_other r15 (g' := hv) (j := 0) (v := (.slice a5 (insI x Nj).length c5)) (by omega)) (g' := hv) (j := 1) (v := (.slice ae ne ce)) (by omega))
          have B6 := hid (((B4.out.drew.trans (b5.mono (by show _ ≤ w4.heap.size; omega))).setCell (p := ⟨hv, 0, none⟩) (by show _ ≤ hv; omega) (.slice a5 (insI x Nj).length c5)).setCell (p := ⟨hv, 1, none⟩) (by show _ ≤ hv; omega) (.slice ae ne ce))
          have z6 : w4.heap.size ≤ w5.heap.size := b5.size
          clear g5 b5 r15 r25 e1' G4 R14 R24 P4 B4
          repeat (first
            | (refine wpL_p (fun K hK => ?_); go_simp; refine hK _ _ ?_; clear hK K)
            | (refine wpL_r (fun K hK => ?_); apply Exists.intro; refine ⟨fun w2 hw2 => ?_, hK _ _ ?_⟩; (have hk1 := hw2.cell; have hk3 := hw2.heap; clear hw2; go_simp; with_reducible rfl); clear hK K; simp only [Act.put, List.setIfInBounds_toArray, List.set_cons_zero, List.set_cons_succ])
            | (refine wpL_yes rfl rfl ?_)
            | (refine wpL_no rfl rfl (fun K hK => ?_); simp only [Act.put, List.setIfInBounds_toArray, List.set_cons_zero, List.set_cons_succ]; refine hK _ _ ?_; clear hK K)
            | (refine wpL_nil ?_))
          refine wpL_e (fun K hK => ?_)
          go_simp
          refine hK _ _ ?_
          clear hK K e0 e1 f1 c1'
          repeat (first
            | (refine wpL_p (fun K hK => ?_); go_simp; refine hK _ _ ?_; clear hK K)
            | (refine wpL_r (fun K hK => ?_); apply Exists.intro; refine ⟨fun w2 hw2 => ?_, hK _ _ ?_⟩; (have hk1 := hw2.cell; have hk3 := hw2.heap; clear hw2; go_simp; with_reducible rfl); clear hK K; simp only [Act.put, List.setIfInBounds_toArray, List.set_cons_zero, List.set_cons_succ])
            | (refine wpL_yes rfl rfl ?_)
            | (refine wpL_no rfl rfl (fun K hK => ?_); simp only [Act.put, List.setIfInBounds_toArray, List.set_cons_zero, List.set_cons_succ]; refine hK _ _ ?_; clear hK K)
            | (refine wpL_nil ?_))
          go_wp2_with fail
          go_roundw
          case rel => exact ⟨j + 1, _, _, by omega, by go_num, R26.out, R16.out, by rw [HT.out, HSN.out]; simpa using G6.out, by rw [HT.out, HSN.out]; exact P6.out, B6.out⟩
          case measure => simp [intOf]; omega
        · obtain rfl : j = m := by omega
          have HE := hid (HALL.out (Nat.le_refl _))
          have HNJ2 : Hid (gN N nd = Nj) := hid (by rw [← HE.out]; exact HNJ.out)
          have d0 : wr.cell? ⟨hv, 0, none⟩ = some (.slice an nn cn) := row_cell R2.out 0
          have d1 : wr.cell? ⟨hv, 1, none⟩ = some (.slice ae ne ce) := row_cell R2.out 1
          have g0 : wr.cell? ⟨w.heap.size, 0, none⟩ = some (.slice none 0 0) := row_cell R1.out 0
          have g1 : wr.cell? ⟨w.heap.size, 1, none⟩ = some (.slice none 0 0) := row_cell R1.out 1
          have f1 : ∀ j, wr.frozen? ⟨w.heap.size, j, none⟩ = false := fun j => row_free R1.out j
          clear HSN HALL HE HNJ
          go_wp2
          refine wp_region_x [0, 1, 0, 2] [0, 1, 2, 3] (by kernel_rfl) (by kernel_rfl) rfl (by kernel_rfl) ?_
          simp only [selX, guardAt, List.getElem?_cons_zero, List.getElem?_cons_succ, List.getD_cons_zero, List.getD_cons_succ]
          repeat (first
            | (refine wpL_p (fun K hK => ?_); go_simp; refine hK _ _ ?_; clear hK K)
            | (refine wpL_r (fun K hK => ?_); apply Exists.intro; refine ⟨fun w2 hw2 => ?_, hK _ _ ?_⟩; (have hk1 := hw2.cell; have hk3 := hw2.heap; clear hw2; go_simp; with_reducible rfl); clear hK K; simp only [Act.put, List.setIfInBounds_toArray, List.set_cons_zero, List.set_cons_succ])
            | (refine wpL_yes rfl rfl ?_)
            | (refine wpL_no rfl rfl (fun K hK => ?_); simp only [Act.put, List.setIfInBounds_toArray, List.set_cons_zero, List.set_cons_succ]; refine hK _ _ ?_; clear hK K)
            | (refine wpL_nil ?_))
          refine wpL_e (fun K hK => ?_)
          go_simp
          refine hK _ _ ?_
          clear hK K
          refine wpL_nil ?_
          go_wp2
          have g1' : (wr.setCell ⟨w.heap.size, 0, none⟩ (.slice an nn cn)).cell? ⟨w.heap.size, 1, none⟩ = some (.slice none 0 0) := (World.cell?_setCell_other _ _ _ _ (by simp)).trans g1
          have PF := hid (show RG ((wr.setCell ⟨w.heap.size, 0, none⟩ (.slice an nn cn)).setCell ⟨w.heap.size, 1, none⟩ (.slice ae ne ce)).drew _ _ Nj E from ⟨((P3.out.set g0 (.slice an nn cn)).set g1' (.slice ae ne ce)).n, ((P3.out.set g0 (.slice an nn cn)).set g1' (.slice ae ne ce)).e⟩)
          have GF := hid (((G3.out.setC R1.out (by decide) (.slice an nn cn) (j := 0)).setC (row_set R1.out 0 (.slice an nn cn)) (by decide) (.slice ae ne ce) (j := 1)).below (K := wr.heap.size) (w' := ((wr.setCell ⟨w.heap.size, 0, none⟩ (.slice an nn cn)).setCell ⟨w.heap.size, 1, none⟩ (.slice ae ne ce)).drew) (by have := (Below.refl ((wr.setCell ⟨w.heap.size, 0, none⟩ (.slice an nn cn)).setCell ⟨w.heap.size, 1, none⟩ (.slice ae ne ce)).heap.size ((wr.setCell ⟨w.heap.size, 0, none⟩ (.slice an nn cn)).setCell ⟨w.heap.size, 1, none⟩ (.slice ae ne ce))).drew; simpa using this) (Nat.le_refl _))
          have BF := hid (((B3.out.setCell (p := ⟨w.heap.size, 0, none⟩) (by show _ ≤ w.heap.size; omega) (.slice an nn cn)).setCell (p := ⟨w.heap.size, 1, none⟩) (by show _ ≤ w.heap.size; omega) (.slice ae ne ce)).drew)
          have q2 : ((wr.setCell ⟨w.heap.size, 0, none⟩ (.slice an nn cn)).setCell ⟨w.heap.size, 1, none⟩ (.slice ae ne ce)).drew.heap[w.heap.size]? = _ := row_set (row_set R1.out 0 (.slice an nn cn)) 1 (.slice ae ne ce)
          have cc0 := row_cell q2 0
          have cc1 := row_cell q2 1
          have hsz : ((wr.setCell ⟨w.heap.size, 0, none⟩ (.slice an nn cn)).setCell ⟨w.heap.size, 1, none⟩ (.slice ae ne ce)).drew.heap.size = wr.heap.size := by simp
          have HSZ := hid hsz
          clear q2 d0 d1 g0 g1 g1' f1 hsz
          generalize ((wr.setCell ⟨w.heap.size, 0, none⟩ (.slice an nn cn)).setCell ⟨w.heap.size, 1, none⟩ (.slice ae ne ce)).drew = WF at *
          simp at cc0 cc1
          refine bodyPost_ret (v := .tuple #[.pointer (some ⟨p, 0, none⟩), .agg #[.slice an nn cn, .slice ae ne ce]]) (by simp [results, Try.results45, go_sem, cc0, cc1]) rfl ⟨p, _, _, rfl, ?_, ?_, BF.out⟩
          · rw [HGG.out, HNJ2.out, HSZ.out]
            exact GF.out.lower (by omega)
          · rw [HGG.out, HNJ2.out]
            exact PF.out

set_option maxHeartbeats 1000000 in
theorem gr_is {lo hi p : Nat} {N : List Int} {E : List Tr} {vn ve : Value} (h : GrAt w lo hi p N E) (hhi : hi ≤ w.heap.size) (hN : N.length ≤ 900000) (hE : E.length ≤ 900000) (hr : RG w vn ve N E) : Calls Try.prog 65 #[.pointer (some ⟨p, 0, none⟩), .agg #[vn, ve]] w fun e w' => e = .returned (.bool true) ∧ Below w.heap.size w w' := by
  obtain ⟨an, cn, nn, rfl, hnn, hnm, -⟩ := hr.n.open
  obtain ⟨ae, ce, ne, rfl, hne, hem, -⟩ := hr.e.open
  have H := hid h
  have HR := hid hr
  have HNE := hid hne
  have R1 := hid (row_new w (.cells #[.slice an nn cn, .slice ae ne ce] 63))
  have B1 := hid ((Below.refl w.heap.size w).alloc (Nat.le_refl _) (.cells #[.slice an nn cn, .slice ae ne ce] 63))
  have P1 := hid (hr.below B1.out)
  have z1 : w.heap.size + 1 ≤ (w.alloc (.cells #[.slice an nn cn, .slice ae ne ce] 63)).heap.size := by simp
  clear h hr hnn hne
  go_enter Try.func65, Try.ntmps65
  go_wp2
  have d0 := row_cell R1.out 0
  refine wp_region_x [0, 3, 0, 1, 2, 0] [0, 2, 3, 1, 4, 5] (by kernel_rfl) (by kernel_rfl) rfl (by kernel_rfl) ?_
  simp only [selX, guardAt, List.getElem?_cons_zero, List.getElem?_cons_succ, List.getD_cons_zero, List.getD_cons_succ]
  repeat (first
    | (refine wpL_p (fun K hK => ?_); go_simp; refine hK _ _ ?_; clear hK K)
    | (refine wpL_r (fun K hK => ?_); apply Exists.intro; refine ⟨fun w2 hw2 => ?_, hK _ _ ?_⟩; (have hk1 := hw2.cell; have hk3 := hw2.heap; clear hw2; go_simp; with_reducible rfl); clear hK K; simp only [Act.put, List.setIfInBounds_toArray, List.set_cons_zero, List.set_cons_succ])
    | (refine wpL_yes rfl rfl ?_)
    | (refine wpL_no rfl rfl (fun K hK => ?_); simp only [Act.put, List.setIfInBounds_toArray, List.set_cons_zero, List.set_cons_succ]; refine hK _ _ ?_; clear hK K)
    | (refine wpL_nil ?_))
  refine wpL_k (fun K hK => ?_)
  go_simp
  refine (gr_nodes (H.out.below (B1.out.trans ((below_drewN _ _ 1).mono (Nat.le_refl _))) hhi) (by omega)).mono ?_
  rintro e w2 ⟨v2, rfl, h2, b2⟩
  refine hK _ _ (Keeps.of_below b2) ?_
  clear hK K
  have P2 := hid ((show RG (w.alloc (.cells #[.slice an nn cn, .slice ae ne ce] 63)).drew _ _ N E from ⟨P1.out.n, P1.out.e⟩).below b2)
  have B2 := hid (B1.out.drew.trans (b2.mono (by show _ ≤ (w.alloc (.cells #[.slice an nn cn, .slice ae ne ce] 63)).heap.size; omega)))
  have r2 := row_below (show (w.alloc (.cells #[.slice an nn cn, .slice ae ne ce] 63)).drew.heap[w.heap.size]? = _ from R1.out) b2 (by show _ < (w.alloc (.cells #[.slice an nn cn, .slice ae ne ce] 63)).heap.size; omega)
  have H2 := hid h2.sl
  have z2 : w.heap.size + 1 ≤ w2.heap.size := Nat.le_trans z1 b2.size
  clear h2 b2 P1 B1 R1 z1 d0
  refine wpL_e (fun K hK => ?_)
  go_simp
  refine (same_ints (l := N) (LI.ofN rfl H2.out (Nat.le_refl _)) P2.out.n).mono ?_
  rintro e w3 ⟨rfl, b3⟩
  refine hK _ _ ?_
  clear hK K
  have P3 := hid (P2.out.below b3)
  have B3 := hid (B2.out.trans (b3.mono (by omega)))
  have R3 := hid (row_below r2 b3 (by omega))
  have z3 : w.heap.size + 1 ≤ w3.heap.size := Nat.le_trans z2 b3.size
  clear b3 P2 B2 r2 H2 z2
  repeat (first
    | (refine wpL_p (fun K hK => ?_); go_simp; refine hK _ _ ?_; clear hK K)
    | (refine wpL_r (fun K hK => ?_); apply Exists.intro; refine ⟨fun w2 hw2 => ?_, hK _ _ ?_⟩; (have hk1 := hw2.cell; have hk3 := hw2.heap; clear hw2; go_simp; with_reducible rfl); clear hK K; simp only [Act.put, List.setIfInBounds_toArray, List.set_cons_zero, List.set_cons_succ])
    | (refine wpL_yes rfl rfl ?_)
    | (refine wpL_no rfl rfl (fun K hK => ?_); simp only [Act.put, List.setIfInBounds_toArray, List.set_cons_zero, List.set_cons_succ]; refine hK _ _ ?_; clear hK K)
    | (refine wpL_nil ?_))
  go_wp2_with fail
  refine (gr_edges (H.out.below B3.out hhi) (Nat.le_trans hhi B3.out.size) (by omega) (by omega)).mono ?_
  rintro e w4 ⟨v4, rfl, h4, b4⟩
  obtain ⟨a4, c4, rfl, hm4⟩ := h4.sl.ex
  have E4 := hid h4
  have P4 := hid (P3.out.below b4)
  have B4 := hid (B3.out.trans (b4.mono (by omega)))
  have R4 := hid (row_below R3.out b4 (by omega))
  have z4 : w.heap.size + 1 ≤ w4.heap.size := Nat.le_trans z3 b4.size
  have d0 := row_cell R4.out 0
  have d1 : w4.cell? ⟨w.heap.size, 1, none⟩ = some (.slice ae ne ce) := row_cell R4.out 1
  have hne2 : ((ne : Int) != (ne : Int)) = false := by simp
  rw [HNE.out] at hm4 ⊢
  have E4' : Hid (OwnT w4 w3.heap.size (.slice a4 ne c4) E) := hid (by have := E4.out; rwa [HNE.out] at this)
  clear h4 b4 P3 B3 R3 z3 E4
  go_wp2_with fail
  go_loopw [7] (fun i wr => ∃ j : Nat, j ≤ ne ∧ i = .int .i64 j ∧ OwnT wr w3.heap.size (.slice a4 ne c4) E ∧ wr.heap[w.heap.size]? = some (.cells #[.slice an nn cn, .slice ae ne ce] 63 (0, 0)) ∧ RG wr (.slice an nn cn) (.slice ae ne ce) N E ∧ Below w.heap.size w wr) (fun i _ => ne - (intOf i).toNat)
  case atStart => exact ⟨0, by omega, by go_num, E4'.out, R4.out, P4.out, B4.out⟩
  case round =>
    obtain ⟨j, hj, rfl, hE4, hr, hP, hB⟩ := hrel
    have E5 := hid hE4
    have R5 := hid hr
    have P5 := hid hP
    have B5 := hid hB
    have d1 : wr.cell? ⟨w.heap.size, 1, none⟩ = some (.slice ae ne ce) := row_cell hr 1
    clear hE4 hr hP hB E4' R4 P4 B4
    by_cases hlt : j < ne
    · obtain ⟨g, x, rfl, hg1, hg2, hx, y0, y1, y2⟩ := OwnT.at E5.out HNE.out hlt
      have hse : Sl wr wr.heap.size 3 (.slice ae ne ce) ne (E.flatMap trC) := by
        have this : Sl wr wr.heap.size 3 (.slice ae ne ce) E.length (E.flatMap trC) := P5.out.e
        rwa [HNE.out] at this
      obtain ⟨b, off, y, rfl, hb, hy, u0, u1, u2⟩ := hse.trs hlt HNE.out
      obtain rfl : x = y := by rw [hx] at hy; exact Option.some.inj hy
      have e1 : (x.1 != x.1) = false := by simp
      have e2 : (x.2.1 != x.2.1) = false := by simp
      have e3 : (x.2.2 != x.2.2) = false := by simp
      clear hx hy hse
      go_wp2
      refine wp_region_x [0, 0, 0, 0, 1, 0, 1, 0, 0, 0, 1, 0, 0, 0, 0, 0, 0, 1, 0, 1, 0, 0, 0, 1, 0, 0, 0, 0, 0, 0, 0, 1, 0, 1, 0, 0, 0, 1, 0, 0] [0, 1, 2, 3, 4, 5, 6, 7, 8, 9, 10, 11, 12, 13, 14, 15, 16, 17, 18, 19, 20, 21, 22, 23, 24, 25, 26, 27, 28, 29, 30, 31, 32, 33, 34, 35, 36, 37, 38, 39] (by kernel_rfl) (by kernel_rfl) rfl (by kernel_rfl) ?_
      simp only [selX, guardAt, List.getElem?_cons_zero, List.getElem?_cons_succ, List.getD_cons_zero, List.getD_cons_succ, Option.bind_some]
      repeat (first
        | (refine wpL_p (fun K hK => ?_); go_simp; refine hK _ _ ?_; clear hK K)
        | (refine wpL_r (fun K hK => ?_); apply Exists.intro; refine ⟨fun w2 hw2 => ?_, hK _ _ ?_⟩; (have hk1 := hw2.cell; have hk3 := hw2.heap; clear hw2; go_simp; with_reducible rfl); clear hK K; simp only [Act.put, List.setIfInBounds_toArray, List.set_cons_zero, List.set_cons_succ])
        | (refine wpL_yes rfl rfl ?_)
        | (refine wpL_no rfl rfl (fun K hK => ?_); simp only [Act.put, List.setIfInBounds_toArray, List.set_cons_zero, List.set_cons_succ]; refine hK _ _ ?_; clear hK K)
        | (refine wpL_nil ?_))
      go_wp2_with fail
      go_roundw
      case rel => exact ⟨j + 1, by omega, by go_num, E5.out.drew, R5.out, ⟨P5.out.n, P5.out.e⟩, B5.out.drew⟩
      case measure => simp [intOf]; omega
    · obtain rfl : j = ne := by omega
      go_wp2
      go_ret
      exact ⟨rfl, B5.out⟩
end
end Go.Proofs.Ytlmeblhcipkgmaa
