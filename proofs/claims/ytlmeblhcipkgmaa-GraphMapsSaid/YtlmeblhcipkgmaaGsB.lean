/- What the document's graphs do: Edge. Conditions: those of each theorem, as typed. -/
import Derived.Test.YtlmeblhcipkgmaaGsA
namespace Go.Proofs.Ytlmeblhcipkgmaa
open Go.RowKit Go.Maps
set_option linter.unusedVariables false
attribute [local irreducible] wpL

/-! ### one edge more, edge by edge -/
def anyT (x : Tr) (l : List Tr) : Bool := l.any fun e => decide (tlt x e)
theorem anyT_iff {x : Tr} {l : List Tr} : anyT x l = true ↔ ∃ e ∈ l, tlt x e := by unfold anyT; simp
theorem anyT_snoc (x : Tr) (l : List Tr) (e : Tr) : anyT x (l ++ [e]) = (anyT x l || decide (tlt x e)) := by unfold anyT; simp
/-- What there is when so many have been looked at. -/
def outT (x : Tr) (l : List Tr) : List Tr := if anyT x l then insT x l else l
theorem outT_len (x : Tr) (l : List Tr) : (outT x l).length ≤ l.length + 1 := by
  unfold outT
  split
  · exact length_insT
  · omega
section
variable {x e : Tr} {l : List Tr}
theorem below_all (h : anyT x l = false) (hx : x ∉ l) : ∀ y ∈ l, tlt y x := fun y hy => by
  rcases tlt_total (x := y) (y := x) (fun h => hx (h ▸ hy)) with h1 | h1
  · exact h1
  · have := anyT_iff.2 ⟨y, hy, h1⟩
    rw [h] at this
    cases this
theorem ins_end (hl : ∀ y ∈ l, tlt y x) (hs : SrtT l) : insT x l = l ++ [x] := (srt_insT hs).ext (by
  unfold SrtT
  rw [List.pairwise_append]
  exact ⟨hs, by simp, fun y hy z hz => by simp at hz; subst hz; exact hl y hy⟩) fun y => by
  rw [mem_insT, List.mem_append, List.mem_singleton]
  constructor
  · rintro (h | h) <;> simp [h]
  · rintro (h | h) <;> simp [h]
theorem outT_here (hs : SrtT (l ++ [e])) (hx : x ∉ l) (ha : anyT x l = false) (he : tlt x e) : outT x (l ++ [e]) = l ++ [x] ++ [e] := by
  have hl := below_all ha hx
  have hp := List.pairwise_append.1 hs
  unfold outT
  rw [anyT_snoc, ha]
  simp only [he, decide_true, Bool.or_true, if_true]
  refine (srt_insT hs).ext ?_ fun y => ?_
  · unfold SrtT
    rw [List.pairwise_append, List.pairwise_append]
    refine ⟨⟨hp.1, by simp, fun y hy z hz => by simp at hz; subst hz; exact hl y hy⟩, by simp, fun y hy z hz => ?_⟩
    simp at hz
    subst hz
    rcases List.mem_append.1 hy with hy | hy
    · exact hp.2.2 y hy z (by simp)
    · simp at hy; subst hy; exact he
  · rw [mem_insT]
    simp only [List.mem_append, List.mem_singleton]
    constructor
    · rintro (h | h | h) <;> simp [h]
    · rintro ((h | h) | h) <;> simp [h]
theorem outT_later (ha : anyT x l = false) (he : ¬ tlt x e) : outT x (l ++ [e]) = outT x l ++ [e] := by
  unfold outT
  rw [anyT_snoc, ha]
  simp [he]
theorem outT_done (hs : SrtT (l ++ [e])) (ha : anyT x l = true) : outT x (l ++ [e]) = outT x l ++ [e] := by
  have hp := List.pairwise_append.1 hs
  unfold outT
  rw [anyT_snoc, ha]
  simp only [Bool.true_or, if_true]
  obtain ⟨z, hz, hxz⟩ := anyT_iff.1 ha
  have hxe : tlt x e := tlt_trans hxz (hp.2.2 z hz e (by simp))
  refine (srt_insT hs).ext ?_ fun y => ?_
  · unfold SrtT
    rw [List.pairwise_append]
    refine ⟨srt_insT hp.1, by simp, fun y hy z hz => ?_⟩
    simp at hz
    subst hz
    rcases mem_insT.1 hy with rfl | hy
    · exact hxe
    · exact hp.2.2 y hy z (by simp)
  · rw [mem_insT, List.mem_append, List.mem_append, mem_insT]
    constructor
    · rintro (h | h | h) <;> simp [h]
    · rintro ((h | h) | h) <;> simp [h]
theorem outT_all (hs : SrtT l) (hx : x ∉ l) : insT x l = if anyT x l then outT x l else outT x l ++ [x] := by
  by_cases ha : anyT x l = true
  · rw [if_pos ha]; unfold outT; rw [if_pos ha]
  · rw [if_neg ha]; unfold outT; rw [if_neg ha]
    exact ins_end (below_all (by simpa using ha) hx) hs
end
theorem Sl.setOther {w : World} {B sz n : Nat} {v : Value} {xs : List Value} (h : Sl w B sz v n xs) (hx : ∀ u ∈ xs, ∃ k z, u = .int k z) {b j : Nat} {a : Option Addr} {m c : Nat} (hc : w.cell? ⟨b, j, none⟩ = some (.slice a m c)) (u : Value) : Sl (w.setCell ⟨b, j, none⟩ u) B sz v n xs := by
  obtain ⟨a', cap', hv, hm, hl, h⟩ := h
  refine ⟨a', cap', hv, hm, hl, fun h0 => ?_⟩
  obtain ⟨b', off, ha, hb, hcs⟩ := h h0
  refine ⟨b', off, ha, hb, fun i y hy => ?_⟩
  have h1 := hcs i y hy
  obtain ⟨k, z, rfl⟩ := hx y (List.mem_of_getElem? hy)
  have hne : (⟨b', off + i, none⟩ : Addr) ≠ ⟨b, j, none⟩ := by
    intro e
    rw [e, hc] at h1
    cases h1
  exact (World.cell?_setCell_other _ _ _ _ (Ne.symm hne)).trans h1
theorem ints_int (l : List Int) : ∀ u ∈ l.flatMap intC, ∃ k z, u = .int k z := by
  intro u hu
  obtain ⟨x, -, hx⟩ := List.mem_flatMap.1 hu
  simp [intC] at hx
  exact ⟨_, _, hx⟩
theorem trs_int (l : List Tr) : ∀ u ∈ l.flatMap trC, ∃ k z, u = .int k z := by
  intro u hu
  obtain ⟨x, -, hx⟩ := List.mem_flatMap.1 hu
  simp [trC] at hx
  rcases hx with rfl | rfl | rfl <;> exact ⟨_, _, rfl⟩
theorem RG.set {w : World} {vn ve : Value} {N : List Int} {E : List Tr} (h : RG w vn ve N E) {b j : Nat} {a : Option Addr} {m c : Nat} (hc : w.cell? ⟨b, j, none⟩ = some (.slice a m c)) (u : Value) : RG (w.setCell ⟨b, j, none⟩ u) vn ve N E :=
  ⟨(h.n.setOther (ints_int N) hc u).more (by simp), (h.e.setOther (trs_int E) hc u).more (by simp)⟩
section
variable {w : World} {vn ve : Value} {N : List Int} {E : List Tr}
theorem agg2_eta {x : Tr} : (x.1, x.2.1, x.2.2) = x := rfl
set_option maxRecDepth 100000 in
set_option maxHeartbeats 2000000 in
theorem rg_edge (h : RG w vn ve N E) (hok : GrOk N E) (hN : N.length ≤ 900000) (hE : E.length ≤ 900000) (a c k : Int) : Calls Try.prog 59 #[.agg #[vn, ve], .int .i64 a, .int .i64 c, .int .i64 k] w fun e w' =>
    ∃ vn' ve', e = .returned (.agg #[vn', ve']) ∧ RG w' vn' ve' (insI c (insI a N)) (insT (a, c, k) E) ∧ Below w.heap.size w w' := by
  obtain ⟨al, cl, n, rfl, hn, hm, -⟩ := h.n.open
  obtain ⟨ae, ce, m, rfl, hm2, hmm, -⟩ := h.e.open
  have H := hid h
  have HM := hid hm2
  clear h hn hm2
  have hm9 : m ≤ 900000 := by have := HM.out; omega
  go_enter Try.func59, Try.ntmps59
  have B1 := hid (((Below.refl w.heap.size w).alloc (Nat.le_refl _) (.cells #[.slice al n cl, .slice ae m ce] 63)).alloc (by simp) (.cells #[.slice none 0 0, .slice none 0 0] 63))
  have R1 := hid (row_old (o := .cells #[.slice none 0 0, .slice none 0 0] 63) (row_new w (.cells #[.slice al n cl, .slice ae m ce] 63)))
  have R2 := hid (row_new' (g := w.heap.size + 1) (w := w.alloc (.cells #[.slice al n cl, .slice ae m ce] 63)) (o := .cells #[.slice none 0 0, .slice none 0 0] 63) (by simp))
  have G1 := hid (H.out.below B1.out)
  have z1 : w.heap.size + 2 ≤ ((w.alloc (.cells #[.slice al n cl, .slice ae m ce] 63)).alloc (.cells #[.slice none 0 0, .slice none 0 0] 63)).heap.size := by simp
  go_wp2_with fail
  refine (rg_node G1.out hok.srtN (by omega) a).mono ?_
  rintro e w2 ⟨v2, rfl, g2, b2⟩
  have G2 := hid g2
  have R12 := hid (row_below R1.out b2 (by simp; omega))
  have R22 := hid (row_below R2.out b2 (by simp))
  have B2 := hid (B1.out.trans (b2.mono (by simp; omega)))
  have z2 : w.heap.size + 2 ≤ w2.heap.size := Nat.le_trans z1 b2.size
  have hl2 := length_insI (n := a) (l := N)
  clear g2 b2 G1 R1 R2 B1 z1
  go_wp2_with fail
  refine (rg_node G2.out (srt_insI hok.srtN) (by omega) c).mono ?_
  rintro e w3 ⟨v3, rfl, g3, b3⟩
  obtain ⟨an, cn, rfl, hm3⟩ := Sl.ex g3.n
  have r13 := row_below R12.out b3 (by omega)
  have r23 := row_below R22.out b3 (by omega)
  have B3 := hid (B2.out.trans (b3.mono (by omega)))
  have z3 : w.heap.size + 2 ≤ w3.heap.size := Nat.le_trans z2 b3.size
  have c0 : w3.cell? ⟨w.heap.size, 0, none⟩ = some (.slice al n cl) := row_cell r13 0
  have c1 : w3.cell? ⟨w.heap.size, 1, none⟩ = some (.slice ae m ce) := row_cell r13 1
  have f0 : ∀ j, w3.frozen? ⟨w.heap.size, j, none⟩ = false := fun j => row_free r13 j
  have c1' : (w3.setCell ⟨w.heap.size, 0, none⟩ (.slice an (insI c (insI a N)).length cn)).cell? ⟨w.heap.size, 1, none⟩ = some (.slice ae m ce) := (World.cell?_setCell_other _ _ _ _ (by simp)).trans c1
  have G3 := hid ((g3.set c0 (.slice an (insI c (insI a N)).length cn)).set c1' (.slice ae m ce))
  have R13 := hid (row_set (row_set r13 0 (.slice an (insI c (insI a N)).length cn)) 1 (.slice ae m ce))
  have R23 := hid (row_other (row_other r23 (g' := w.heap.size) (j := 0) (v := .slice an (insI c (insI a N)).length cn) (by omega)) (g' := w.heap.size) (j := 1) (v := .slice ae m ce) (by omega))
  have B4 := hid ((B3.out.setCell (p := ⟨w.heap.size, 0, none⟩) (by show _ ≤ w.heap.size; omega) (.slice an (insI c (insI a N)).length cn)).setCell (p := ⟨w.heap.size, 1, none⟩) (by show _ ≤ w.heap.size; omega) (.slice ae m ce))
  have z4 : w.heap.size + 2 ≤ ((w3.setCell ⟨w.heap.size, 0, none⟩ (.slice an (insI c (insI a N)).length cn)).setCell ⟨w.heap.size, 1, none⟩ (.slice ae m ce)).heap.size := by simpa using z3
  clear g3 b3 G2 R12 R22 B2 z2 r13 r23 hl2 B3
  go_wp2_with fail
  have HN2 : Hid (GrOk (insI c (insI a N)) E) := hid ((hok.node a).node c)
  have hl2 : (insI c (insI a N)).length ≤ 900002 := by
    have h1 := length_insI (n := a) (l := N)
    have h2 := length_insI (n := c) (l := insI a N)
    omega
  generalize hN2e : insI c (insI a N) = N2 at *
  have HN2e := hid hN2e
  clear hN2e
  obtain ⟨nn, hnn⟩ : ∃ nn, nn = N2.length := ⟨_, rfl⟩
  rw [← hnn] at hm3 hl2 ⊢
  simp only [← hnn] at G3 R13 R23 B4 z4
  have HNN := hid hnn.symm
  clear c1' c0 c1 f0 z3 hnn
  generalize (w3.setCell ⟨w.heap.size, 0, none⟩ (.slice an nn cn)).setCell ⟨w.heap.size, 1, none⟩ (.slice ae m ce) = W at *
  have r1 : W.heap[w.heap.size]? = some (.cells #[.slice an nn cn, .slice ae m ce] 63 (0, 0)) := R13.out
  have r2 : W.heap[w.heap.size + 1]? = some (.cells #[.slice none 0 0, .slice none 0 0] 63 (0, 0)) := R23.out
  have R1 := hid r1
  have R2 := hid r2
  clear r1 r2 R13 R23
  refine (rg_has (vn := .slice an nn cn) G3.out.e a c k).mono ?_
  rintro e w4 ⟨rfl, b4⟩
  have r1 := row_below R1.out b4 (by omega)
  have r2 := row_below R2.out b4 (by omega)
  have G4 := hid (G3.out.below b4)
  have B5 := hid (B4.out.trans (b4.mono (by omega)))
  have z5 : w.heap.size + 2 ≤ w4.heap.size := Nat.le_trans z4 b4.size
  have c0 : w4.cell? ⟨w.heap.size, 0, none⟩ = some (.slice an nn cn) := row_cell r1 0
  have c1 : w4.cell? ⟨w.heap.size, 1, none⟩ = some (.slice ae m ce) := row_cell r1 1
  have d0 : w4.cell? ⟨w.heap.size + 1, 0, none⟩ = some (.slice none 0 0) := row_cell r2 0
  have d1 : w4.cell? ⟨w.heap.size + 1, 1, none⟩ = some (.slice none 0 0) := row_cell r2 1
  have f0 : ∀ j, w4.frozen? ⟨w.heap.size, j, none⟩ = false := fun j => row_free r1 j
  have f1 : ∀ j, w4.frozen? ⟨w.heap.size + 1, j, none⟩ = false := fun j => row_free r2 j
  have R1 := hid r1
  have R2 := hid r2
  clear b4 r1 r2 G3 B4 z4
  by_cases hin : (a, c, k) ∈ E
  · have hd : decide ((a, c, k) ∈ E) = true := by simpa using hin
    have HI := hid (insT_of_mem HN2.out.srtE hin)
    rw [hd]
    clear hd hin
    go_wp2
    have d1' : (w4.setCell ⟨w.heap.size + 1, 0, none⟩ (.slice an nn cn)).cell? ⟨w.heap.size + 1, 1, none⟩ = some (.slice none 0 0) := (World.cell?_setCell_other _ _ _ _ (by simp)).trans d1
    have GF := hid ((G4.out.set d0 (.slice an nn cn)).set d1' (.slice ae m ce))
    have BF := hid ((B5.out.setCell (p := ⟨w.heap.size + 1, 0, none⟩) (by show _ ≤ w.heap.size + 1; omega) (.slice an nn cn)).setCell (p := ⟨w.heap.size + 1, 1, none⟩) (by show _ ≤ w.heap.size + 1; omega) (.slice ae m ce))
    have q2 := row_set (row_set R2.out 0 (.slice an nn cn)) 1 (.slice ae m ce)
    have cc0 := row_cell q2 0
    have cc1 := row_cell q2 1
    clear q2 c0 c1 d0 d1 d1' f0 f1 G4 B5
    generalize (w4.setCell ⟨w.heap.size + 1, 0, none⟩ (.slice an nn cn)).setCell ⟨w.heap.size + 1, 1, none⟩ (.slice ae m ce) = WF at *
    simp at cc0 cc1
    refine bodyPost_ret (v := .agg #[.slice an nn cn, .slice ae m ce]) (by simp [results, Try.results59, go_sem, cc0, cc1]) rfl ⟨_, _, rfl, ?_, BF.out⟩
    rw [HI.out, HN2e.out]
    exact GF.out
  · have hd : decide ((a, c, k) ∈ E) = false := by simpa using hin
    have HX := hid hin
    rw [hd]
    clear hd hin
    have E4 := hid (show Sl w4 w4.heap.size 3 (.slice ae m ce) m (E.flatMap trC) by
      have this : Sl w4 w4.heap.size 3 (.slice ae m ce) E.length (E.flatMap trC) := G4.out.e
      rwa [HM.out] at this)
    have HOE := hid HN2.out.srtE
    go_wp2_with fail
    have E5 := hid (E4.out.alloc (Nat.le_refl _) (.cells #[.int .i64 a, .int .i64 c, .int .i64 k] 87))
    have R5 := hid (row_new w4 (.cells #[.int .i64 a, .int .i64 c, .int .i64 k] 87))
    have R15 := hid (row_old (o := .cells #[.int .i64 a, .int .i64 c, .int .i64 k] 87) R1.out)
    obtain ⟨W5, hW5⟩ : ∃ W5, W5 = w4.alloc (.cells #[.int .i64 a, .int .i64 c, .int .i64 k] 87) := ⟨_, rfl⟩
    have z6 : w4.heap.size + 1 = W5.heap.size := by rw [hW5, World.size_alloc]
    have Z6 := hid z6
    have z7 : w4.heap.size + 1 ≤ W5.heap.size := Nat.le_of_eq z6
    rw [← hW5] at E5 R5 R15 ⊢
    have HW5 := hid hW5
    have HO0 : Hid (outT (a, c, k) (E.take 0) = []) := hid rfl
    have HA0 : Hid (anyT (a, c, k) (E.take 0) = false) := hid rfl
    clear hW5 z6 c0 c1 d0 d1 f0 f1
    have HROW := hid (fun wq (hB : Below W5.heap.size W5 wq) => ⟨row_cell (row_below R15.out hB (by omega)) 0, row_cell (row_below R15.out hB (by omega)) 1, row_cell (row_below R5.out hB (by omega)) 0, row_cell (row_below R5.out hB (by omega)) 1, row_cell (row_below R5.out hB (by omega)) 2⟩ :
      ∀ wq, Below W5.heap.size W5 wq → wq.cell? ⟨w.heap.size, 0, none⟩ = some (.slice an nn cn) ∧ wq.cell? ⟨w.heap.size, 1, none⟩ = some (.slice ae m ce) ∧ wq.cell? ⟨w4.heap.size, 0, none⟩ = some (.int .i64 a) ∧ wq.cell? ⟨w4.heap.size, 1, none⟩ = some (.int .i64 c) ∧ wq.cell? ⟨w4.heap.size, 2, none⟩ = some (.int .i64 k))
    go_loopw [10, 11, 12] (fun v p i wq => ∃ j : Nat, j ≤ m ∧ i = .int .i64 j ∧ p = .bool (anyT (a, c, k) (E.take j)) ∧ OwnF trC 87 3 wq W5.heap.size v (outT (a, c, k) (E.take j)) ∧ Below W5.heap.size W5 wq) (fun _ _ i _ => m - (intOf i).toNat)
    case atStart => exact ⟨0, by omega, by go_num, by rw [HA0.out], by rw [HO0.out]; exact OwnF.nil _ _, Below.refl _ _⟩
    case round =>
      obtain ⟨j, hj, rfl, rfl, hO, hB⟩ := hrel
      obtain ⟨ao, co, rfl, hom⟩ := hO.sl.ex
      have hol : (outT (a, c, k) (E.take j)).length ≤ 900001 := by
        have h1 := outT_len (a, c, k) (E.take j)
        rw [List.length_take] at h1
        omega
      have O6 := hid hO
      have B6 := hid hB
      have zb := hB.size
      obtain ⟨c0, c1, x0, x1, x2⟩ := HROW.out wr hB
      clear hO hB
      by_cases hlt : j < m
      · obtain ⟨b, off, x, rfl, hb, hx, y0, y1, y2⟩ := (E5.out.below (B6.out.mono (by omega))).trs hlt HM.out
        have HT := hid (take_step hx)
        have hx2 := hid hx
        have hss : SrtT (E.take j ++ [x]) := by rw [← HT.out]; exact List.Pairwise.sublist (List.take_sublist _ _) HOE.out
        have HSS := hid hss
        have HXJ := hid (fun h => HX.out (List.mem_of_mem_take h) : (a, c, k) ∉ E.take j)
        clear hx hss
        generalize E.take j = Ej at *
        cases ha : anyT (a, c, k) Ej with
        | true =>
          have HA := hid ha
          have HO2 := hid (outT_done HSS.out ha)
          have HA2 := hid (show anyT (a, c, k) (Ej ++ [x]) = true by rw [anyT_snoc, ha]; rfl)
          clear ha
          generalize outT (a, c, k) Ej = Oj at *
          go_wp2
          refine wp_region_x [0, 0, 0, 1, 0, 1, 0, 0, 1, 2, 0] [0, 1, 2, 3, 4, 5, 6, 7, 8, 9, 10] (by kernel_rfl) (by kernel_rfl) rfl (by kernel_rfl) ?_
          simp only [selX, guardAt, List.getElem?_cons_zero, List.getElem?_cons_succ, List.getD_cons_zero, List.getD_cons_succ, Option.bind_some]
          repeat (first
            | (refine wpL_p (fun K hK => ?_); go_simp; refine hK _ _ ?_; clear hK K)
            | (refine wpL_r (fun K hK => ?_); apply Exists.intro; refine ⟨fun w2 hw2 => ?_, hK _ _ ?_⟩; (have hk1 := hw2.cell; have hk3 := hw2.heap; clear hw2; go_simp; with_reducible rfl); clear hK K; simp only [Act.put, List.setIfInBounds_toArray, List.set_cons_zero, List.set_cons_succ])
            | (refine wpL_yes rfl rfl ?_)
            | (refine wpL_no rfl rfl (fun K hK => ?_); simp only [Act.put, List.setIfInBounds_toArray, List.set_cons_zero, List.set_cons_succ]; refine hK _ _ ?_; clear hK K)
            | (refine wpL_nil ?_))
          have O7 := hid (show OwnF trC 87 3 wr.drew W5.heap.size _ _ from O6.out.drew)
          have B7 := hid B6.out.drew
          have zb7 : W5.heap.size ≤ wr.drew.heap.size := zb
          clear O6 B6
          go_wp2_with (at_builtin; refine wpList_appF rfl _ _ _ rfl _ 24 Try.underlying61 infoH rfl O7.out x zb7 (by rfl) (by rfl) (by first | rfl | simp) rfl (tr_one _) (by first | omega | (simp only [List.length_append, List.length_cons, List.length_nil, List.length_replicate]; omega)) (by first | omega | (simp only [List.length_append, List.length_cons, List.length_nil, List.length_replicate]; omega)) ?_; refine Stop.halt ?_)
          refine Stop.go ?_
          intro gn cn wn hn Gn
          have O9 := hid hn
          have B9 := hid (B7.out.trans (Gn.below zb7 fun q h => (O7.out.lt q h).1))
          clear hn Gn O7 B7
          go_wp2_with fail
          go_roundw
          case rel => exact ⟨j + 1, by omega, by go_num, by rw [HT.out, HA2.out], by rw [HT.out, HO2.out]; simpa using O9.out, B9.out⟩
          case measure => simp [intOf]; omega
        | false =>
          have HA := hid ha
          by_cases he : tlt (a, c, k) x
          · have hd : decide (tlt (a, c, k) x) = true := by simpa using he
            have HO2 := hid (outT_here HSS.out HXJ.out ha he)
            have HA2 := hid (show anyT (a, c, k) (Ej ++ [x]) = true by rw [anyT_snoc, hd, Bool.or_true])
            have HOE2 : Hid (outT (a, c, k) Ej = Ej) := hid (by unfold outT; rw [ha]; rfl)
            rw [HOE2.out] at O6 hol hom ⊢
            clear ha he
            go_wp2
            refine wp_region_x [0, 0, 0, 1, 0, 1, 0, 0, 1, 2, 0] [0, 1, 2, 3, 4, 5, 6, 7, 8, 9, 10] (by kernel_rfl) (by kernel_rfl) rfl (by kernel_rfl) ?_
            simp only [selX, guardAt, List.getElem?_cons_zero, List.getElem?_cons_succ, List.getD_cons_zero, List.getD_cons_succ, Option.bind_some]
            repeat (first
              | (refine wpL_p (fun K hK => ?_); go_simp; refine hK _ _ ?_; clear hK K)
              | (refine wpL_r (fun K hK => ?_); apply Exists.intro; refine ⟨fun w2 hw2 => ?_, hK _ _ ?_⟩; (have hk1 := hw2.cell; have hk3 := hw2.heap; clear hw2; go_simp; with_reducible rfl); clear hK K; simp only [Act.put, List.setIfInBounds_toArray, List.set_cons_zero, List.set_cons_succ])
              | (refine wpL_yes rfl rfl ?_)
              | (refine wpL_no rfl rfl (fun K hK => ?_); simp only [Act.put, List.setIfInBounds_toArray, List.set_cons_zero, List.set_cons_succ]; refine hK _ _ ?_; clear hK K)
              | (refine wpL_nil ?_))
            refine wpL_e (fun K hK => ?_)
            go_simp
            refine (rg_less (a, c, k) x _).mono ?_
            rintro e w7 ⟨rfl, b7⟩
            rw [hd]
            refine hK _ _ ?_
            clear hK K
            have B7 := hid (B6.out.drew.trans (b7.mono zb))
            have O7 := hid (show OwnF trC 87 3 w7 W5.heap.size _ _ from OwnF.below (w := wr.drew) O6.out.drew b7)
            have zb7 : W5.heap.size ≤ w7.heap.size := B7.out.size
            clear b7 O6 B6 c0 c1 x0 x1 x2 y0 y1 y2
            obtain ⟨c0, c1, x0, x1, x2⟩ := HROW.out w7 B7.out
            obtain ⟨b', off', x', e', hb', hx', y0, y1, y2⟩ := (E5.out.below (B7.out.mono (by omega))).trs hlt HM.out
            simp only [Option.some.injEq, Addr.mk.injEq, and_true] at e'
            obtain ⟨rfl, rfl⟩ := e'
            rw [hx2.out] at hx'
            obtain rfl := Option.some.inj hx'
            clear hx'
            repeat (first
              | (refine wpL_p (fun K hK => ?_); go_simp; refine hK _ _ ?_; clear hK K)
              | (refine wpL_r (fun K hK => ?_); apply Exists.intro; refine ⟨fun w2 hw2 => ?_, hK _ _ ?_⟩; (have hk1 := hw2.cell; have hk3 := hw2.heap; clear hw2; go_simp; with_reducible rfl); clear hK K; simp only [Act.put, List.setIfInBounds_toArray, List.set_cons_zero, List.set_cons_succ])
              | (refine wpL_yes rfl rfl ?_)
              | (refine wpL_no rfl rfl (fun K hK => ?_); simp only [Act.put, List.setIfInBounds_toArray, List.set_cons_zero, List.set_cons_succ]; refine hK _ _ ?_; clear hK K)
              | (refine wpL_nil ?_))
            clear hd
            go_wp2_with (at_builtin; refine wpList_appF rfl _ _ _ rfl _ 24 Try.underlying61 infoH rfl O7.out (a, c, k) zb7 (by rfl) (by rfl) (by first | rfl | simp) rfl (tr_one _) (by first | omega | (simp only [List.length_append, List.length_cons, List.length_nil, List.length_replicate]; omega)) (by first | omega | (simp only [List.length_append, List.length_cons, List.length_nil, List.length_replicate]; omega)) ?_; refine Stop.halt ?_)
            refine Stop.go ?_
            intro gm cm wm hm' Gm
            have O8 := hid (show OwnF trC 87 3 wm W5.heap.size (.slice (some ⟨gm, 0, none⟩) (Ej.length + 1) cm) (Ej ++ [(a, c, k)]) from hm')
            have B8 := hid (B7.out.trans (Gm.below zb7 fun q h => (O7.out.lt q h).1))
            have zb8 : W5.heap.size ≤ wm.heap.size := B8.out.size
            clear hm' Gm O7 B7 c0 c1 x0 x1 x2 y0 y1 y2
            obtain ⟨c0, c1, x0, x1, x2⟩ := HROW.out wm B8.out
            obtain ⟨b'', off'', x'', e'', hb'', hx'', y0, y1, y2⟩ := (E5.out.below (B8.out.mono (by omega))).trs hlt HM.out
            simp only [Option.some.injEq, Addr.mk.injEq, and_true] at e''
            obtain ⟨rfl, rfl⟩ := e''
            rw [hx2.out] at hx''
            obtain rfl := Option.some.inj hx''
            clear hx''
            go_wp2_with (at_builtin; refine wpList_appF rfl _ _ _ rfl _ 24 Try.underlying61 infoH rfl O8.out x zb8 (by rfl) (by rfl) (by first | rfl | simp) rfl (tr_one _) (by first | omega | (simp only [List.length_append, List.length_cons, List.length_nil, List.length_replicate]; omega)) (by first | omega | (simp only [List.length_append, List.length_cons, List.length_nil, List.length_replicate]; omega)) ?_; refine Stop.halt ?_)
            refine Stop.go ?_
            intro gn cn wn hn Gn
            have O9 := hid hn
            have B9 := hid (B8.out.trans (Gn.below zb8 fun q h => (O8.out.lt q h).1))
            clear hn Gn O8 B8
            go_wp2_with fail
            go_roundw
            case rel => exact ⟨j + 1, by omega, by go_num, by rw [HT.out, HA2.out], by rw [HT.out, HO2.out]; simpa using O9.out, B9.out⟩
            case measure => simp [intOf]; omega
          · have hd : decide (tlt (a, c, k) x) = false := by simpa using he
            have HO2 := hid (outT_later ha he)
            have HA2 := hid (show anyT (a, c, k) (Ej ++ [x]) = false by rw [anyT_snoc, hd, ha]; rfl)
            clear ha he
            generalize outT (a, c, k) Ej = Oj at *
            go_wp2
            refine wp_region_x [0, 0, 0, 1, 0, 1, 0, 0, 1, 2, 0] [0, 1, 2, 3, 4, 5, 6, 7, 8, 9, 10] (by kernel_rfl) (by kernel_rfl) rfl (by kernel_rfl) ?_
            simp only [selX, guardAt, List.getElem?_cons_zero, List.getElem?_cons_succ, List.getD_cons_zero, List.getD_cons_succ, Option.bind_some]
            repeat (first
              | (refine wpL_p (fun K hK => ?_); go_simp; refine hK _ _ ?_; clear hK K)
              | (refine wpL_r (fun K hK => ?_); apply Exists.intro; refine ⟨fun w2 hw2 => ?_, hK _ _ ?_⟩; (have hk1 := hw2.cell; have hk3 := hw2.heap; clear hw2; go_simp; with_reducible rfl); clear hK K; simp only [Act.put, List.setIfInBounds_toArray, List.set_cons_zero, List.set_cons_succ])
              | (refine wpL_yes rfl rfl ?_)
              | (refine wpL_no rfl rfl (fun K hK => ?_); simp only [Act.put, List.setIfInBounds_toArray, List.set_cons_zero, List.set_cons_succ]; refine hK _ _ ?_; clear hK K)
              | (refine wpL_nil ?_))
            refine wpL_e (fun K hK => ?_)
            go_simp
            refine (rg_less (a, c, k) x _).mono ?_
            rintro e w7 ⟨rfl, b7⟩
            rw [hd]
            refine hK _ _ ?_
            clear hK K
            have B7 := hid (B6.out.drew.trans (b7.mono zb))
            have O7 := hid (show OwnF trC 87 3 w7 W5.heap.size _ _ from OwnF.below (w := wr.drew) O6.out.drew b7)
            have zb7 : W5.heap.size ≤ w7.heap.size := B7.out.size
            clear b7 O6 B6 c0 c1 x0 x1 x2 y0 y1 y2
            obtain ⟨c0, c1, x0, x1, x2⟩ := HROW.out w7 B7.out
            obtain ⟨b', off', x', e', hb', hx', y0, y1, y2⟩ := (E5.out.below (B7.out.mono (by omega))).trs hlt HM.out
            simp only [Option.some.injEq, Addr.mk.injEq, and_true] at e'
            obtain ⟨rfl, rfl⟩ := e'
            rw [hx2.out] at hx'
            obtain rfl := Option.some.inj hx'
            clear hx'
            repeat (first
              | (refine wpL_p (fun K hK => ?_); go_simp; refine hK _ _ ?_; clear hK K)
              | (refine wpL_r (fun K hK => ?_); apply Exists.intro; refine ⟨fun w2 hw2 => ?_, hK _ _ ?_⟩; (have hk1 := hw2.cell; have hk3 := hw2.heap; clear hw2; go_simp; with_reducible rfl); clear hK K; simp only [Act.put, List.setIfInBounds_toArray, List.set_cons_zero, List.set_cons_succ])
              | (refine wpL_yes rfl rfl ?_)
              | (refine wpL_no rfl rfl (fun K hK => ?_); simp only [Act.put, List.setIfInBounds_toArray, List.set_cons_zero, List.set_cons_succ]; refine hK _ _ ?_; clear hK K)
              | (refine wpL_nil ?_))
            clear hd
            go_wp2_with (at_builtin; refine wpList_appF rfl _ _ _ rfl _ 24 Try.underlying61 infoH rfl O7.out x zb7 (by rfl) (by rfl) (by first | rfl | simp) rfl (tr_one _) (by first | omega | (simp only [List.length_append, List.length_cons, List.length_nil, List.length_replicate]; omega)) (by first | omega | (simp only [List.length_append, List.length_cons, List.length_nil, List.length_replicate]; omega)) ?_; refine Stop.halt ?_)
            refine Stop.go ?_
            intro gn cn wn hn Gn
            have O9 := hid hn
            have B9 := hid (B7.out.trans (Gn.below zb7 fun q h => (O7.out.lt q h).1))
            clear hn Gn O7 B7
            go_wp2_with fail
            go_roundw
            case rel => exact ⟨j + 1, by omega, by go_num, by rw [HT.out, HA2.out], by rw [HT.out, HO2.out]; simpa using O9.out, B9.out⟩
            case measure => simp [intOf]; omega
      · obtain rfl : j = m := by omega
        have hte : E.take j = E := by rw [← HM.out, List.take_length]
        rw [hte] at O6 hol hom ⊢
        have HALL := hid (outT_all HOE.out HX.out)
        have N6 := hid (((G4.out.n.alloc (Nat.le_refl _) (.cells #[.int .i64 a, .int .i64 c, .int .i64 k] 87))))
        rw [← HW5.out] at N6
        clear hte
        have R25 := hid (row_old (o := .cells #[.int .i64 a, .int .i64 c, .int .i64 k] 87) R2.out)
        rw [← HW5.out] at R25
        have HN6 : Hid (Sl W5 w4.heap.size 1 (.slice an nn cn) nn (N2.flatMap intC)) := hid (by rw [← HNN.out]; have := N6.out; rw [← HNN.out] at this; exact this)
        have N6 := HN6
        clear c0 c1 x0 x1 x2
        cases ha : anyT (a, c, k) E with
        | true =>
          rw [ha] at HALL
          simp only [if_true] at HALL
          clear ha
          generalize outT (a, c, k) E = Oj at *
          have BF := B6
          have OF := O6
          have r1F := row_below R15.out BF.out (by omega)
          have r2F := row_below R25.out BF.out (by omega)
          have c0 : wr.cell? ⟨w.heap.size, 0, none⟩ = some (.slice an nn cn) := row_cell r1F 0
          have c1 : wr.cell? ⟨w.heap.size, 1, none⟩ = some (.slice ae j ce) := row_cell r1F 1
          have d0 : wr.cell? ⟨w.heap.size + 1, 0, none⟩ = some (.slice none 0 0) := row_cell r2F 0
          have d1 : wr.cell? ⟨w.heap.size + 1, 1, none⟩ = some (.slice none 0 0) := row_cell r2F 1
          have f0 : ∀ j, wr.frozen? ⟨w.heap.size, j, none⟩ = false := fun j => row_free r1F j
          have f1 : ∀ j, wr.frozen? ⟨w.heap.size + 1, j, none⟩ = false := fun j => row_free r2F j
          have R2F := hid r2F
          clear r1F r2F
          go_wp2
          have d0' : (wr.setCell ⟨w.heap.size, 1, none⟩ (.slice ao Oj.length co)).cell? ⟨w.heap.size + 1, 0, none⟩ = some (.slice none 0 0) := (World.cell?_setCell_other _ _ _ _ (by simp)).trans d0
          have d1' : ((wr.setCell ⟨w.heap.size, 1, none⟩ (.slice ao Oj.length co)).setCell ⟨w.heap.size + 1, 0, none⟩ (.slice an nn cn)).cell? ⟨w.heap.size + 1, 1, none⟩ = some (.slice none 0 0) := (World.cell?_setCell_other _ _ _ _ (by simp)).trans ((World.cell?_setCell_other _ _ _ _ (by simp)).trans d1)
          have NF := hid (((((N6.out.below (BF.out.mono (by omega))).setOther (ints_int N2) c1 (.slice ao Oj.length co)).setOther (ints_int N2) d0' (.slice an nn cn)).setOther (ints_int N2) d1' (.slice ao Oj.length co)).more (B' := (((wr.setCell ⟨w.heap.size, 1, none⟩ (.slice ao Oj.length co)).setCell ⟨w.heap.size + 1, 0, none⟩ (.slice an nn cn)).setCell ⟨w.heap.size + 1, 1, none⟩ (.slice ao Oj.length co)).heap.size) (by have := BF.out.size; simp; omega))
          have EF := hid (((OF.out.set (g := w.heap.size) (j := 1) (u := (.slice ao Oj.length co)) (by omega)).set (g := w.heap.size + 1) (j := 0) (u := .slice an nn cn) (by omega)).set (g := w.heap.size + 1) (j := 1) (u := (.slice ao Oj.length co)) (by omega)).sl
          have BW := hid ((((B5.out.trans (((Below.refl w4.heap.size w4).alloc (Nat.le_refl _) (.cells #[.int .i64 a, .int .i64 c, .int .i64 k] 87)).mono (by omega))).trans ((show Below W5.heap.size (w4.alloc (.cells #[.int .i64 a, .int .i64 c, .int .i64 k] 87)) wr by rw [← HW5.out]; exact BF.out).mono (by omega))).setCell (p := ⟨w.heap.size, 1, none⟩) (by show _ ≤ w.heap.size; omega) (.slice ao Oj.length co)).setCell (p := ⟨w.heap.size + 1, 0, none⟩) (by show _ ≤ w.heap.size + 1; omega) (.slice an nn cn) |>.setCell (p := ⟨w.heap.size + 1, 1, none⟩) (by show _ ≤ w.heap.size + 1; omega) (.slice ao Oj.length co))
          have q2 := row_set (row_set (row_other R2F.out (g' := w.heap.size) (j := 1) (v := (.slice ao Oj.length co)) (by omega)) 0 (.slice an nn cn)) 1 (.slice ao Oj.length co)
          have cc0 := row_cell q2 0
          have cc1 := row_cell q2 1
          clear q2 c0 c1 d0 d1 d0' d1' f0 f1
          generalize ((wr.setCell ⟨w.heap.size, 1, none⟩ (.slice ao Oj.length co)).setCell ⟨w.heap.size + 1, 0, none⟩ (.slice an nn cn)).setCell ⟨w.heap.size + 1, 1, none⟩ (.slice ao Oj.length co) = WF at *
          simp at cc0 cc1
          refine bodyPost_ret (v := .agg #[.slice an nn cn, (.slice ao Oj.length co)]) (by simp [results, Try.results59, go_sem, cc0, cc1]) rfl ⟨_, _, rfl, ⟨?_, ?_⟩, BW.out⟩
          · rw [HN2e.out]
            exact LI.ofN HNN.out NF.out (Nat.le_refl _)
          · rw [HALL.out]
            exact EF.out
        | false =>
          rw [ha] at HALL
          simp only [Bool.false_eq_true, if_false] at HALL
          clear ha
          generalize outT (a, c, k) E = Oj at *
          obtain ⟨c0, c1, x0, x1, x2⟩ := HROW.out wr B6.out
          go_wp2_with (at_builtin; refine wpList_appF rfl _ _ _ rfl _ 24 Try.underlying61 infoH rfl O6.out (a, c, k) zb (by rfl) (by rfl) (by first | rfl | simp) rfl (tr_one _) (by first | omega | (simp only [List.length_append, List.length_cons, List.length_nil, List.length_replicate]; omega)) (by first | omega | (simp only [List.length_append, List.length_cons, List.length_nil, List.length_replicate]; omega)) ?_; refine Stop.halt ?_)
          refine Stop.go ?_
          intro gm cm wm hm' Gm
          have OF := hid (show OwnF trC 87 3 wm W5.heap.size (.slice (some ⟨gm, 0, none⟩) (Oj.length + 1) cm) (Oj ++ [(a, c, k)]) from hm')
          have BF := hid (B6.out.trans (Gm.below zb fun q h => (O6.out.lt q h).1))
          clear hm' Gm O6 B6 c0 c1 x0 x1 x2
          have r1F := row_below R15.out BF.out (by omega)
          have r2F := row_below R25.out BF.out (by omega)
          have c0 : wm.cell? ⟨w.heap.size, 0, none⟩ = some (.slice an nn cn) := row_cell r1F 0
          have c1 : wm.cell? ⟨w.heap.size, 1, none⟩ = some (.slice ae j ce) := row_cell r1F 1
          have d0 : wm.cell? ⟨w.heap.size + 1, 0, none⟩ = some (.slice none 0 0) := row_cell r2F 0
          have d1 : wm.cell? ⟨w.heap.size + 1, 1, none⟩ = some (.slice none 0 0) := row_cell r2F 1
          have f0 : ∀ j, wm.frozen? ⟨w.heap.size, j, none⟩ = false := fun j => row_free r1F j
          have f1 : ∀ j, wm.frozen? ⟨w.heap.size + 1, j, none⟩ = false := fun j => row_free r2F j
          have R2F := hid r2F
          clear r1F r2F
          go_wp2
          have d0' : (wm.setCell ⟨w.heap.size, 1, none⟩ (.slice (some ⟨gm, 0, none⟩) (Oj.length + 1) cm)).cell? ⟨w.heap.size + 1, 0, none⟩ = some (.slice none 0 0) := (World.cell?_setCell_other _ _ _ _ (by simp)).trans d0
          have d1' : ((wm.setCell ⟨w.heap.size, 1, none⟩ (.slice (some ⟨gm, 0, none⟩) (Oj.length + 1) cm)).setCell ⟨w.heap.size + 1, 0, none⟩ (.slice an nn cn)).cell? ⟨w.heap.size + 1, 1, none⟩ = some (.slice none 0 0) := (World.cell?_setCell_other _ _ _ _ (by simp)).trans ((World.cell?_setCell_other _ _ _ _ (by simp)).trans d1)
          have NF := hid (((((N6.out.below (BF.out.mono (by omega))).setOther (ints_int N2) c1 (.slice (some ⟨gm, 0, none⟩) (Oj.length + 1) cm)).setOther (ints_int N2) d0' (.slice an nn cn)).setOther (ints_int N2) d1' (.slice (some ⟨gm, 0, none⟩) (Oj.length + 1) cm)).more (B' := (((wm.setCell ⟨w.heap.size, 1, none⟩ (.slice (some ⟨gm, 0, none⟩) (Oj.length + 1) cm)).setCell ⟨w.heap.size + 1, 0, none⟩ (.slice an nn cn)).setCell ⟨w.heap.size + 1, 1, none⟩ (.slice (some ⟨gm, 0, none⟩) (Oj.length + 1) cm)).heap.size) (by have := BF.out.size; simp; omega))
          have EF := hid (((OF.out.set (g := w.heap.size) (j := 1) (u := (.slice (some ⟨gm, 0, none⟩) (Oj.length + 1) cm)) (by omega)).set (g := w.heap.size + 1) (j := 0) (u := .slice an nn cn) (by omega)).set (g := w.heap.size + 1) (j := 1) (u := (.slice (some ⟨gm, 0, none⟩) (Oj.length + 1) cm)) (by omega)).sl
          have BW := hid ((((B5.out.trans (((Below.refl w4.heap.size w4).alloc (Nat.le_refl _) (.cells #[.int .i64 a, .int .i64 c, .int .i64 k] 87)).mono (by omega))).trans ((show Below W5.heap.size (w4.alloc (.cells #[.int .i64 a, .int .i64 c, .int .i64 k] 87)) wm by rw [← HW5.out]; exact BF.out).mono (by omega))).setCell (p := ⟨w.heap.size, 1, none⟩) (by show _ ≤ w.heap.size; omega) (.slice (some ⟨gm, 0, none⟩) (Oj.length + 1) cm)).setCell (p := ⟨w.heap.size + 1, 0, none⟩) (by show _ ≤ w.heap.size + 1; omega) (.slice an nn cn) |>.setCell (p := ⟨w.heap.size + 1, 1, none⟩) (by show _ ≤ w.heap.size + 1; omega) (.slice (some ⟨gm, 0, none⟩) (Oj.length + 1) cm))
          have q2 := row_set (row_set (row_other R2F.out (g' := w.heap.size) (j := 1) (v := (.slice (some ⟨gm, 0, none⟩) (Oj.length + 1) cm)) (by omega)) 0 (.slice an nn cn)) 1 (.slice (some ⟨gm, 0, none⟩) (Oj.length + 1) cm)
          have cc0 := row_cell q2 0
          have cc1 := row_cell q2 1
          clear q2 c0 c1 d0 d1 d0' d1' f0 f1
          generalize ((wm.setCell ⟨w.heap.size, 1, none⟩ (.slice (some ⟨gm, 0, none⟩) (Oj.length + 1) cm)).setCell ⟨w.heap.size + 1, 0, none⟩ (.slice an nn cn)).setCell ⟨w.heap.size + 1, 1, none⟩ (.slice (some ⟨gm, 0, none⟩) (Oj.length + 1) cm) = WF at *
          simp at cc0 cc1
          refine bodyPost_ret (v := .agg #[.slice an nn cn, (.slice (some ⟨gm, 0, none⟩) (Oj.length + 1) cm)]) (by simp [results, Try.results59, go_sem, cc0, cc1]) rfl ⟨_, _, rfl, ⟨?_, ?_⟩, BW.out⟩
          · rw [HN2e.out]
            exact LI.ofN HNN.out NF.out (Nat.le_refl _)
          · rw [HALL.out]
            exact EF.out
end
end Go.Proofs.Ytlmeblhcipkgmaa
