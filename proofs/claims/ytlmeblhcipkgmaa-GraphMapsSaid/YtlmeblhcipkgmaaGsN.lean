/- The document's graphs once more: their nodes lie in memory of the call's own. Conditions: those of each theorem, as typed. -/
import Derived.Test.YtlmeblhcipkgmaaGrL
namespace Go.Proofs.Ytlmeblhcipkgmaa
open Go.RowKit Go.Maps
set_option linter.unusedVariables false
set_option linter.unusedSimpArgs false
attribute [local irreducible] wpL
/-- It lies in memory of the call's own. -/
def Frs (B : Nat) (v : Value) : Prop := ∀ k, v.ownBlock = some k → B ≤ k
theorem Frs.nil (B : Nat) : Frs B (.slice none 0 0) := fun _ h => by cases h
section
variable {w : World} {vn ve : Value} {N : List Int} {E : List Tr}
theorem rg_nodeF (h : RG w vn ve N E) (hs : SrtI N) (hN : N.length ≤ 1000000) (a : Int) : Calls Try.prog 62 #[.agg #[vn, ve], .int .i64 a] w fun e w' => ∃ vn', e = .returned (.agg #[vn', ve]) ∧ RG w' vn' ve (insI a N) E ∧ (∀ B, B ≤ w.heap.size → Frs B vn → Frs B vn') ∧ Below w.heap.size w w' := by
  have H := hid h
  obtain ⟨al, cl, n, rfl, hn, hm, -⟩ := h.n.open
  obtain ⟨ae, ce, m, rfl, hm2, hmm, -⟩ := h.e.open
  clear h hn hm2
  go_enter Try.func62, Try.ntmps62
  go_wp2_with fail
  have B1 := hid (((Below.refl w.heap.size w).alloc (Nat.le_refl _) (.cells #[.slice al n cl, .slice ae m ce] 63)).alloc (by simp) (.cells #[.slice none 0 0, .slice none 0 0] 63))
  refine (ref_putInt (v := .slice al n cl) (H.out.below B1.out).n hs hN a).mono ?_
  rintro e w1 ⟨v', rfl, h1, ho, b1⟩
  have r1 : w1.heap[w.heap.size]? = _ := row_below (row_old (o := .cells #[.slice none 0 0, .slice none 0 0] 63) (row_new w (.cells #[.slice al n cl, .slice ae m ce] 63))) b1 (by simp; omega)
  have r2 : w1.heap[w.heap.size + 1]? = _ := row_below (row_new' (w := w.alloc (.cells #[.slice al n cl, .slice ae m ce] 63)) (o := .cells #[.slice none 0 0, .slice none 0 0] 63) (by simp)) b1 (by simp)
  have c0 : w1.cell? ⟨w.heap.size, 0, none⟩ = some (.slice al n cl) := row_cell r1 0
  have c1 : w1.cell? ⟨w.heap.size, 1, none⟩ = some (.slice ae m ce) := row_cell r1 1
  have d0 : w1.cell? ⟨w.heap.size + 1, 0, none⟩ = some (.slice none 0 0) := row_cell r2 0
  have d1 : w1.cell? ⟨w.heap.size + 1, 1, none⟩ = some (.slice none 0 0) := row_cell r2 1
  have f0 : ∀ j, w1.frozen? ⟨w.heap.size, j, none⟩ = false := fun j => row_free r1 j
  have f1 : ∀ j, w1.frozen? ⟨w.heap.size + 1, j, none⟩ = false := fun j => row_free r2 j
  have hz : w.heap.size + 2 ≤ w1.heap.size := by have := b1.size; simpa using this
  obtain ⟨a', c', hv', hm'⟩ := Sl.ex h1
  subst hv'
  have HO := hid ho
  have HFR := hid (fun B (hB : B ≤ w.heap.size) (hF : Frs B (.slice al n cl)) => (by
    rcases ho with he | ho
    · rw [he]; exact hF
    · exact fun k hk => by
        have h1 := (ho.lt k hk).1
        simp only [World.size_alloc] at h1
        omega : Frs B (.slice a' (insI a N).length c')))
  have B2 := hid (B1.out.trans (b1.mono (by simp; omega)))
  have R1 := hid r1
  have R2 := hid r2
  clear h1 b1 r1 r2 ho
  go_wp2
  have q2 := row_set (row_set (row_other R2.out (g' := w.heap.size) (j := 0) (v := .slice a' (insI a N).length c') (by omega)) 0 (.slice a' (insI a N).length c')) 1 (.slice ae m ce)
  have BF := hid (((B2.out.setCell (p := ⟨w.heap.size, 0, none⟩) (by show _ ≤ w.heap.size; omega) (.slice a' (insI a N).length c')).setCell (p := ⟨w.heap.size + 1, 0, none⟩) (by show _ ≤ w.heap.size + 1; omega) (.slice a' (insI a N).length c')).setCell (p := ⟨w.heap.size + 1, 1, none⟩) (by show _ ≤ w.heap.size + 1; omega) (.slice ae m ce))
  have NF : LI (((w1.setCell ⟨w.heap.size, 0, none⟩ (.slice a' (insI a N).length c')).setCell ⟨w.heap.size + 1, 0, none⟩ (.slice a' (insI a N).length c')).setCell ⟨w.heap.size + 1, 1, none⟩ (.slice ae m ce)) (.slice a' (insI a N).length c') (insI a N) := by
    rcases HO.out with he | ho
    · have hln := H.out.n.ex
      obtain ⟨_, _, e2, -⟩ := hln
      rw [he] at BF ⊢
      simp only [Value.slice.injEq] at he e2
      have ha : a ∈ N := Classical.byContradiction fun hn => by
        have := length_insI_new hn
        omega
      rw [insI_of_mem hs ha]
      exact (H.out.n.below BF.out).more BF.out.size
    · have hne : ∀ g, g < w.heap.size + 2 → (Value.slice a' (insI a N).length c').ownBlock ≠ some g := fun g hg e => by
        have := (ho.lt g e).1
        simp only [World.size_alloc] at this
        omega
      exact (((ho.other (hne _ (by omega)) _).other (hne _ (by omega)) _).other (hne _ (by omega)) _).sl
  have EF := hid ((H.out.e.below BF.out).more BF.out.size)
  have NF2 := hid NF
  have cc0 := row_cell q2 0
  have cc1 := row_cell q2 1
  clear NF q2 HO
  generalize ((w1.setCell ⟨w.heap.size, 0, none⟩ (.slice a' (insI a N).length c')).setCell ⟨w.heap.size + 1, 0, none⟩ (.slice a' (insI a N).length c')).setCell ⟨w.heap.size + 1, 1, none⟩ (.slice ae m ce) = W at *
  simp at cc0 cc1
  refine bodyPost_ret (v := .agg #[.slice a' (insI a N).length c', .slice ae m ce]) (by simp [results, Try.results62, go_sem, cc0, cc1]) rfl ⟨_, rfl, ⟨NF2.out, EF.out⟩, HFR.out, BF.out⟩
set_option maxRecDepth 100000 in
set_option maxHeartbeats 2000000 in
theorem rg_edgeF (h : RG w vn ve N E) (hok : GrOk N E) (hN : N.length ≤ 900000) (hE : E.length ≤ 900000) (a c k : Int) : Calls Try.prog 59 #[.agg #[vn, ve], .int .i64 a, .int .i64 c, .int .i64 k] w fun e w' =>
    ∃ vn' ve', e = .returned (.agg #[vn', ve']) ∧ RG w' vn' ve' (insI c (insI a N)) (insT (a, c, k) E) ∧ (∀ B, B ≤ w.heap.size → Frs B vn → Frs B vn') ∧ Below w.heap.size w w' := by
  obtain ⟨al, cl, n, rfl, hn, hm, -⟩ := h.n.open
  obtain ⟨ae, ce, m, rfl, hm2, hmm, -⟩ := h.e.open
  have H := hid h
  have HM := hid hm2
  clear h hn hm2
  have hm9 : m ≤ 900000 := by have := HM.out; omega
  go_enter Try.func59, Try.ntmps59
  have B1 := hid (((Below.refl w.heap.size w).alloc (Nat.le_refl _) (.cells #[.slice al n cl, .slice ae m ce] 63)).alloc (by simp) (.cells #[.slice none 0 0, .slice none 0 0] 63))
  have R1 := hid (row_old (o := .cells #[.slice none 0 0, .slice none 0 0] 63) (row_new w (.cells #[.slice al n cl, .slice ae m ce] 63)))
  have R2 := hid (row_new' (g := w.heap.size + 1) (w := w.alloc (.cells #[.slice al n cl, .slice ae m ce] 63)) (o := .cells #[.slice none 0 0, .slice none 0 0] 63) (by simp))
  have G1 := hid (H.out.below B1.out)
  have z1 : w.heap.size + 2 ≤ ((w.alloc (.cells #[.slice al n cl, .slice ae m ce] 63)).alloc (.cells #[.slice none 0 0, .slice none 0 0] 63)).heap.size := by simp
  go_wp2_with fail
  refine (rg_nodeF G1.out hok.srtN (by omega) a).mono ?_
  rintro e w2 ⟨v2, rfl, g2, fr2, b2⟩
  have G2 := hid g2
  have R12 := hid (row_below R1.out b2 (by simp; omega))
  have R22 := hid (row_below R2.out b2 (by simp))
  have B2 := hid (B1.out.trans (b2.mono (by simp; omega)))
  have z2 : w.heap.size + 2 ≤ w2.heap.size := Nat.le_trans z1 b2.size
  have hl2 := length_insI (n := a) (l := N)
  clear g2 b2 G1 R1 R2 B1 z1
  go_wp2_with fail
  refine (rg_nodeF G2.out (srt_insI hok.srtN) (by omega) c).mono ?_
  rintro e w3 ⟨v3, rfl, g3, fr3, b3⟩
  obtain ⟨an, cn, rfl, hm3⟩ := Sl.ex g3.n
  have HFR := hid (fun B (hB : B ≤ w.heap.size) (hF : Frs B (.slice al n cl)) => fr3 B (by omega) (fr2 B (by simp only [World.size_alloc]; omega) hF) : ∀ B, B ≤ w.heap.size → Frs B (.slice al n cl) → Frs B (.slice an (insI c (insI a N)).length cn))
  clear fr2 fr3
  have r13 := row_below R12.out b3 (by omega)
  have r23 := row_below R22.out b3 (by omega)
  have B3 := hid (B2.out.trans (b3.mono (by omega)))
  have z3 : w.heap.size + 2 ≤ w3.heap.size := Nat.le_trans z2 b3.size
  have c0 : w3.cell? ⟨w.heap.size, 0, none⟩ = some (.slice al n cl) := row_cell r13 0
  have c1 : w3.cell? ⟨w.heap.size, 1, none⟩ = some (.slice ae m ce) := row_cell r13 1
  have f0 : ∀ j, w3.frozen? ⟨w.heap.size, j, none⟩ = false := fun j => row_free r13 j
  have c1' : (w3.setCell ⟨w.heap.size, 0, none⟩ (.slice an (insI c (insI a N)).length cn)).cell? ⟨w.heap.size, 1, none⟩ = some (.slice ae m ce) := (World.cell?_setCell_other _ _ _ _ (by simp)).trans c1
  have G3 := hid ((g3.set c0 (.slice an (insI c (insI a N)).length cn)).set c1' (.slice ae m ce))
  have R13 := hid (row_set (row_set r13 0 (.slice an (insI c (insI a N)).length cn)) 1 (.slice ae m ce))
  have R23 := hid (row_other (row_other r23 (g' := w.heap.size) (j := 0) (v := .slice an (insI c (insI a N)).length cn) (by omega)) (g' := w.heap.size) (j := 1) (v := .slice ae m ce) (by omega))
  have B4 := hid ((B3.out.setCell (p := ⟨w.heap.size, 0, none⟩) (by show _ ≤ w.heap.size; omega) (.slice an (insI c (insI a N)).length cn)).setCell (p := ⟨w.heap.size, 1, none⟩) (by show _ ≤ w.heap.size; omega) (.slice ae m ce))
  have z4 : w.heap.size + 2 ≤ ((w3.setCell ⟨w.heap.size, 0, none⟩ (.slice an (insI c (insI a N)).length cn)).setCell ⟨w.heap.size, 1, none⟩ (.slice ae m ce)).heap.size := by simpa using z3
  clear g3 b3 G2 R12 R22 B2 z2 r13 r23 hl2 B3
  go_wp2_with fail
  have HN2 : Hid (GrOk (insI c (insI a N)) E) := hid ((hok.node a).node c)
  have hl2 : (insI c (insI a N)).length ≤ 900002 := by
    have h1 := length_insI (n := a) (l := N)
    have h2 := length_insI (n := c) (l := insI a N)
    omega
  generalize hN2e : insI c (insI a N) = N2 at *
  have HN2e := hid hN2e
  clear hN2e
  obtain ⟨nn, hnn⟩ : ∃ nn, nn = N2.length := ⟨_, rfl⟩
  rw [← hnn] at hm3 hl2 ⊢
  simp only [← hnn] at G3 R13 R23 B4 z4 HFR
  have HNN := hid hnn.symm
  clear c1' c0 c1 f0 z3 hnn
  generalize (w3.setCell ⟨w.heap.size, 0, none⟩ (.slice an nn cn)).setCell ⟨w.heap.size, 1, none⟩ (.slice ae m ce) = W at *
  have r1 : W.heap[w.heap.size]? = some (.cells #[.slice an nn cn, .slice ae m ce] 63 (0, 0)) := R13.out
  have r2 : W.heap[w.heap.size + 1]? = some (.cells #[.slice none 0 0, .slice none 0 0] 63 (0, 0)) := R23.out
  have R1 := hid r1
  have R2 := hid r2
  clear r1 r2 R13 R23
  refine (rg_has (vn := .slice an nn cn) G3.out.e a c k).mono ?_
  rintro e w4 ⟨rfl, b4⟩
  have r1 := row_below R1.out b4 (by omega)
  have r2 := row_below R2.out b4 (by omega)
  have G4 := hid (G3.out.below b4)
  have B5 := hid (B4.out.trans (b4.mono (by omega)))
  have z5 : w.heap.size + 2 ≤ w4.heap.size := Nat.le_trans z4 b4.size
  have c0 : w4.cell? ⟨w.heap.size, 0, none⟩ = some (.slice an nn cn) := row_cell r1 0
  have c1 : w4.cell? ⟨w.heap.size, 1, none⟩ = some (.slice ae m ce) := row_cell r1 1
  have d0 : w4.cell? ⟨w.heap.size + 1, 0, none⟩ = some (.slice none 0 0) := row_cell r2 0
  have d1 : w4.cell? ⟨w.heap.size + 1, 1, none⟩ = some (.slice none 0 0) := row_cell r2 1
  have f0 : ∀ j, w4.frozen? ⟨w.heap.size, j, none⟩ = false := fun j => row_free r1 j
  have f1 : ∀ j, w4.frozen? ⟨w.heap.size + 1, j, none⟩ = false := fun j => row_free r2 j
  have R1 := hid r1
  have R2 := hid r2
  clear b4 r1 r2 G3 B4 z4
  by_cases hin : (a, c, k) ∈ E
  · have hd : decide ((a, c, k) ∈ E) = true := by simpa using hin
    have HI := hid (insT_of_mem HN2.out.srtE hin)
    rw [hd]
    clear hd hin
    go_wp2
    have d1' : (w4.setCell ⟨w.heap.size + 1, 0, none⟩ (.slice an nn cn)).cell? ⟨w.heap.size + 1, 1, none⟩ = some (.slice none 0 0) := (World.cell?_setCell_other _ _ _ _ (by simp)).trans d1
    have GF := hid ((G4.out.set d0 (.slice an nn cn)).set d1' (.slice ae m ce))
    have BF := hid ((B5.out.setCell (p := ⟨w.heap.size + 1, 0, none⟩) (by show _ ≤ w.heap.size + 1; omega) (.slice an nn cn)).setCell (p := ⟨w.heap.size + 1, 1, none⟩) (by show _ ≤ w.heap.size + 1; omega) (.slice ae m ce))
    have q2 := row_set (row_set R2.out 0 (.slice an nn cn)) 1 (.slice ae m ce)
    have cc0 := row_cell q2 0
    have cc1 := row_cell q2 1
    clear q2 c0 c1 d0 d1 d1' f0 f1 G4 B5
    generalize (w4.setCell ⟨w.heap.size + 1, 0, none⟩ (.slice an nn cn)).setCell ⟨w.heap.size + 1, 1, none⟩ (.slice ae m ce) = WF at *
    simp at cc0 cc1
    refine bodyPost_ret (v := .agg #[.slice an nn cn, .slice ae m ce]) (by simp [results, Try.results59, go_sem, cc0, cc1]) rfl ⟨_, _, rfl, ?_, HFR.out, BF.out⟩
    rw [HI.out, HN2e.out]
    exact GF.out
  · have hd : decide ((a, c, k) ∈ E) = false := by simpa using hin
    have HX := hid hin
    rw [hd]
    clear hd hin
    have E4 := hid (show Sl w4 w4.heap.size 3 (.slice ae m ce) m (E.flatMap trC) by
      have this : Sl w4 w4.heap.size 3 (.slice ae m ce) E.length (E.flatMap trC) := G4.out.e
      rwa [HM.out] at this)
    have HOE := hid HN2.out.srtE
    go_wp2_with fail
    have E5 := hid (E4.out.alloc (Nat.le_refl _) (.cells #[.int .i64 a, .int .i64 c, .int .i64 k] 87))
    have R5 := hid (row_new w4 (.cells #[.int .i64 a, .int .i64 c, .int .i64 k] 87))
    have R15 := hid (row_old (o := .cells #[.int .i64 a, .int .i64 c, .int .i64 k] 87) R1.out)
    obtain ⟨W5, hW5⟩ : ∃ W5, W5 = w4.alloc (.cells #[.int .i64 a, .int .i64 c, .int .i64 k] 87) := ⟨_, rfl⟩
    have z6 : w4.heap.size + 1 = W5.heap.size := by rw [hW5, World.size_alloc]
    have Z6 := hid z6
    have z7 : w4.heap.size + 1 ≤ W5.heap.size := Nat.le_of_eq z6
    rw [← hW5] at E5 R5 R15 ⊢
    have HW5 := hid hW5
    have HO0 : Hid (outT (a, c, k) (E.take 0) = []) := hid rfl
    have HA0 : Hid (anyT (a, c, k) (E.take 0) = false) := hid rfl
    clear hW5 z6 c0 c1 d0 d1 f0 f1
    have HROW := hid (fun wq (hB : Below W5.heap.size W5 wq) => ⟨row_cell (row_below R15.out hB (by omega)) 0, row_cell (row_below R15.out hB (by omega)) 1, row_cell (row_below R5.out hB (by omega)) 0, row_cell (row_below R5.out hB (by omega)) 1, row_cell (row_below R5.out hB (by omega)) 2⟩ :
      ∀ wq, Below W5.heap.size W5 wq → wq.cell? ⟨w.heap.size, 0, none⟩ = some (.slice an nn cn) ∧ wq.cell? ⟨w.heap.size, 1, none⟩ = some (.slice ae m ce) ∧ wq.cell? ⟨w4.heap.size, 0, none⟩ = some (.int .i64 a) ∧ wq.cell? ⟨w4.heap.size, 1, none⟩ = some (.int .i64 c) ∧ wq.cell? ⟨w4.heap.size, 2, none⟩ = some (.int .i64 k))
    go_loopw [10, 11, 12] (fun v p i wq => ∃ j : Nat, j ≤ m ∧ i = .int .i64 j ∧ p = .bool (anyT (a, c, k) (E.take j)) ∧ OwnF trC 87 3 wq W5.heap.size v (outT (a, c, k) (E.take j)) ∧ Below W5.heap.size W5 wq) (fun _ _ i _ => m - (intOf i).toNat)
    case atStart => exact ⟨0, by omega, by go_num, by rw [HA0.out], by rw [HO0.out]; exact OwnF.nil _ _, Below.refl _ _⟩
    case round =>
      obtain ⟨j, hj, rfl, rfl, hO, hB⟩ := hrel
      obtain ⟨ao, co, rfl, hom⟩ := hO.sl.ex
      have hol : (outT (a, c, k) (E.take j)).length ≤ 900001 := by
        have h1 := outT_len (a, c, k) (E.take j)
        rw [List.length_take] at h1
        omega
      have O6 := hid hO
      have B6 := hid hB
      have zb := hB.size
      obtain ⟨c0, c1, x0, x1, x2⟩ := HROW.out wr hB
      clear hO hB
      by_cases hlt : j < m
      · obtain ⟨b, off, x, rfl, hb, hx, y0, y1, y2⟩ := (E5.out.below (B6.out.mono (by omega))).trs hlt HM.out
        have HT := hid (take_step hx)
        have hx2 := hid hx
        have hss : SrtT (E.take j ++ [x]) := by rw [← HT.out]; exact List.Pairwise.sublist (List.take_sublist _ _) HOE.out
        have HSS := hid hss
        have HXJ := hid (fun h => HX.out (List.mem_of_mem_take h) : (a, c, k) ∉ E.take j)
        clear hx hss
        generalize E.take j = Ej at *
        cases ha : anyT (a, c, k) Ej with
        | true =>
          have HA := hid ha
          have HO2 := hid (outT_done HSS.out ha)
          have HA2 := hid (show anyT (a, c, k) (Ej ++ [x]) = true by rw [anyT_snoc, ha]; rfl)
          clear ha
          generalize outT (a, c, k) Ej = Oj at *
          go_wp2
          refine wp_region_x [0, 0, 0, 1, 0, 1, 0, 0, 1, 2, 0] [0, 1, 2, 3, 4, 5, 6, 7, 8, 9, 10] (by kernel_rfl) (by kernel_rfl) rfl (by kernel_rfl) ?_
          simp only [selX, guardAt, List.getElem?_cons_zero, List.getElem?_cons_succ, List.getD_cons_zero, List.getD_cons_succ, Option.bind_some]
          repeat (first
            | (refine wpL_p (fun K hK => ?_); go_simp; refine hK _ _ ?_; clear hK K)
            | (refine wpL_r (fun K hK => ?_); apply Exists.intro; refine ⟨fun w2 hw2 => ?_, hK _ _ ?_⟩; (have hk1 := hw2.cell; have hk3 := hw2.heap; clear hw2; go_simp; with_reducible rfl); clear hK K; simp only [Act.put, List.setIfInBounds_toArray, List.set_cons_zero, List.set_cons_succ])
            | (refine wpL_yes rfl rfl ?_)
            | (refine wpL_no rfl rfl (fun K hK => ?_); simp only [Act.put, List.setIfInBounds_toArray, List.set_cons_zero, List.set_cons_succ]; refine hK _ _ ?_; clear hK K)
            | (refine wpL_nil ?_))
          have O7 := hid (show OwnF trC 87 3 wr.drew W5.heap.size _ _ from O6.out.drew)
          have B7 := hid B6.out.drew
          have zb7 : W5.heap.size ≤ wr.drew.heap.size := zb
          clear O6 B6
          go_wp2_with (at_builtin; refine wpList_appF rfl _ _ _ rfl _ 24 Try.underlying61 infoH rfl O7.out x zb7 (by rfl) (by rfl) (by first | rfl | simp) rfl (tr_one _) (by first | omega | (simp only [List.length_append, List.length_cons, List.length_nil, List.length_replicate]; omega)) (by first | omega | (simp only [List.length_append, List.length_cons, List.length_nil, List.length_replicate]; omega)) ?_; refine Stop.halt ?_)
          refine Stop.go ?_
          intro gn cn wn hn Gn
          have O9 := hid hn
          have B9 := hid (B7.out.trans (Gn.below zb7 fun q h => (O7.out.lt q h).1))
          clear hn Gn O7 B7
          go_wp2_with fail
          go_roundw
          case rel => exact ⟨j + 1, by omega, by go_num, by rw [HT.out, HA2.out], by rw [HT.out, HO2.out]; simpa using O9.out, B9.out⟩
          case measure => simp [intOf]; omega
        | false =>
          have HA := hid ha
          by_cases he : tlt (a, c, k) x
          · have hd : decide (tlt (a, c, k) x) = true := by simpa using he
            have HO2 := hid (outT_here HSS.out HXJ.out ha he)
            have HA2 := hid (show anyT (a, c, k) (Ej ++ [x]) = true by rw [anyT_snoc, hd, Bool.or_true])
            have HOE2 : Hid (outT (a, c, k) Ej = Ej) := hid (by unfold outT; rw [ha]; rfl)
            rw [HOE2.out] at O6 hol hom ⊢
            clear ha he
            go_wp2
            refine wp_region_x [0, 0, 0, 1, 0, 1, 0, 0, 1, 2, 0] [0, 1, 2, 3, 4, 5, 6, 7, 8, 9, 10] (by kernel_rfl) (by kernel_rfl) rfl (by kernel_rfl) ?_
            simp only [selX, guardAt, List.getElem?_cons_zero, List.getElem?_cons_succ, List.getD_cons_zero, List.getD_cons_succ, Option.bind_some]
            repeat (first
              | (refine wpL_p (fun K hK => ?_); go_simp; refine hK _ _ ?_; clear hK K)
              | (refine wpL_r (fun K hK => ?_); apply Exists.intro; refine ⟨fun w2 hw2 => ?_, hK _ _ ?_⟩; (have hk1 := hw2.cell; have hk3 := hw2.heap; clear hw2; go_simp; with_reducible rfl); clear hK K; simp only [Act.put, List.setIfInBounds_toArray, List.set_cons_zero, List.set_cons_succ])
              | (refine wpL_yes rfl rfl ?_)
              | (refine wpL_no rfl rfl (fun K hK => ?_); simp only [Act.put, List.setIfInBounds_toArray, List.set_cons_zero, List.set_cons_succ]; refine hK _ _ ?_; clear hK K)
              | (refine wpL_nil ?_))
            refine wpL_e (fun K hK => ?_)
            go_simp
            refine (rg_less (a, c, k) x _).mono ?_
            rintro e w7 ⟨rfl, b7⟩
            rw [hd]
            refine hK _ _ ?_
            clear hK K
            have B7 := hid (B6.out.drew.trans (b7.mono zb))
            have O7 := hid (show OwnF trC 87 3 w7 W5.heap.size _ _ from OwnF.below (w := wr.drew) O6.out.drew b7)
            have zb7 : W5.heap.size ≤ w7.heap.size := B7.out.size
            clear b7 O6 B6 c0 c1 x0 x1 x2 y0 y1 y2
            obtain ⟨c0, c1, x0, x1, x2⟩ := HROW.out w7 B7.out
            obtain ⟨b', off', x', e', hb', hx', y0, y1, y2⟩ := (E5.out.below (B7.out.mono (by omega))).trs hlt HM.out
            simp only [Option.some.injEq, Addr.mk.injEq, and_true] at e'
            obtain ⟨rfl, rfl⟩ := e'
            rw [hx2.out] at hx'
            obtain rfl := Option.some.inj hx'
            clear hx'
            repeat (first
              | (refine wpL_p (fun K hK => ?_); go_simp; refine hK _ _ ?_; clear hK K)
              | (refine wpL_r (fun K hK => ?_); apply Exists.intro; refine ⟨fun w2 hw2 => ?_, hK _ _ ?_⟩; (have hk1 := hw2.cell; have hk3 := hw2.heap; clear hw2; go_simp; with_reducible rfl); clear hK K; simp only [Act.put, List.setIfInBounds_toArray, List.set_cons_zero, List.set_cons_succ])
              | (refine wpL_yes rfl rfl ?_)
              | (refine wpL_no rfl rfl (fun K hK => ?_); simp only [Act.put, List.setIfInBounds_toArray, List.set_cons_zero, List.set_cons_succ]; refine hK _ _ ?_; clear hK K)
              | (refine wpL_nil ?_))
            clear hd
            go_wp2_with (at_builtin; refine wpList_appF rfl _ _ _ rfl _ 24 Try.underlying61 infoH rfl O7.out (a, c, k) zb7 (by rfl) (by rfl) (by first | rfl | simp) rfl (tr_one _) (by first | omega | (simp only [List.length_append, List.length_cons, List.length_nil, List.length_replicate]; omega)) (by first | omega | (simp only [List.length_append, List.length_cons, List.length_nil, List.length_replicate]; omega)) ?_; refine Stop.halt ?_)
            refine Stop.go ?_
            intro gm cm wm hm' Gm
            have O8 := hid (show OwnF trC 87 3 wm W5.heap.size (.slice (some ⟨gm, 0, none⟩) (Ej.length + 1) cm) (Ej ++ [(a, c, k)]) from hm')
            have B8 := hid (B7.out.trans (Gm.below zb7 fun q h => (O7.out.lt q h).1))
            have zb8 : W5.heap.size ≤ wm.heap.size := B8.out.size
            clear hm' Gm O7 B7 c0 c1 x0 x1 x2 y0 y1 y2
            obtain ⟨c0, c1, x0, x1, x2⟩ := HROW.out wm B8.out
            obtain ⟨b'', off'', x'', e'', hb'', hx'', y0, y1, y2⟩ := (E5.out.below (B8.out.mono (by omega))).trs hlt HM.out
            simp only [Option.some.injEq, Addr.mk.injEq, and_true] at e''
            obtain ⟨rfl, rfl⟩ := e''
            rw [hx2.out] at hx''
            obtain rfl := Option.some.inj hx''
            clear hx''
            go_wp2_with (at_builtin; refine wpList_appF rfl _ _ _ rfl _ 24 Try.underlying61 infoH rfl O8.out x zb8 (by rfl) (by rfl) (by first | rfl | simp) rfl (tr_one _) (by first | omega | (simp only [List.length_append, List.length_cons, List.length_nil, List.length_replicate]; omega)) (by first | omega | (simp only [List.length_append, List.length_cons, List.length_nil, List.length_replicate]; omega)) ?_; refine Stop.halt ?_)
            refine Stop.go ?_
            intro gn cn wn hn Gn
            have O9 := hid hn
            have B9 := hid (B8.out.trans (Gn.below zb8 fun q h => (O8.out.lt q h).1))
            clear hn Gn O8 B8
            go_wp2_with fail
            go_roundw
            case rel => exact ⟨j + 1, by omega, by go_num, by rw [HT.out, HA2.out], by rw [HT.out, HO2.out]; simpa using O9.out, B9.out⟩
            case measure => simp [intOf]; omega
          · have hd : decide (tlt (a, c, k) x) = false := by simpa using he
            have HO2 := hid (outT_later ha he)
            have HA2 := hid (show anyT (a, c, k) (Ej ++ [x]) = false by rw [anyT_snoc, hd, ha]; rfl)
            clear ha he
            generalize outT (a, c, k) Ej = Oj at *
            go_wp2
            refine wp_region_x [0, 0, 0, 1, 0, 1, 0, 0, 1, 2, 0] [0, 1, 2, 3, 4, 5, 6, 7, 8, 9, 10] (by kernel_rfl) (by kernel_rfl) rfl (by kernel_rfl) ?_
            simp only [selX, guardAt, List.getElem?_cons_zero, List.getElem?_cons_succ, List.getD_cons_zero, List.getD_cons_succ, Option.bind_some]
            repeat (first
              | (refine wpL_p (fun K hK => ?_); go_simp; refine hK _ _ ?_; clear hK K)
              | (refine wpL_r (fun K hK => ?_); apply Exists.intro; refine ⟨fun w2 hw2 => ?_, hK _ _ ?_⟩; (have hk1 := hw2.cell; have hk3 := hw2.heap; clear hw2; go_simp; with_reducible rfl); clear hK K; simp only [Act.put, List.setIfInBounds_toArray, List.set_cons_zero, List.set_cons_succ])
              | (refine wpL_yes rfl rfl ?_)
              | (refine wpL_no rfl rfl (fun K hK => ?_); simp only [Act.put, List.setIfInBounds_toArray, List.set_cons_zero, List.set_cons_succ]; refine hK _ _ ?_; clear hK K)
              | (refine wpL_nil ?_))
            refine wpL_e (fun K hK => ?_)
            go_simp
            refine (rg_less (a, c, k) x _).mono ?_
            rintro e w7 ⟨rfl, b7⟩
            rw [hd]
            refine hK _ _ ?_
            clear hK K
            have B7 := hid (B6.out.drew.trans (b7.mono zb))
            have O7 := hid (show OwnF trC 87 3 w7 W5.heap.size _ _ from OwnF.below (w := wr.drew) O6.out.drew b7)
            have zb7 : W5.heap.size ≤ w7.heap.size := B7.out.size
            clear b7 O6 B6 c0 c1 x0 x1 x2 y0 y1 y2
            obtain ⟨c0, c1, x0, x1, x2⟩ := HROW.out w7 B7.out
            obtain ⟨b', off', x', e', hb', hx', y0, y1, y2⟩ := (E5.out.below (B7.out.mono (by omega))).trs hlt HM.out
            simp only [Option.some.injEq, Addr.mk.injEq, and_true] at e'
            obtain ⟨rfl, rfl⟩ := e'
            rw [hx2.out] at hx'
            obtain rfl := Option.some.inj hx'
            clear hx'
            repeat (first
              | (refine wpL_p (fun K hK => ?_); go_simp; refine hK _ _ ?_; clear hK K)
              | (refine wpL_r (fun K hK => ?_); apply Exists.intro; refine ⟨fun w2 hw2 => ?_, hK _ _ ?_⟩; (have hk1 := hw2.cell; have hk3 := hw2.heap; clear hw2; go_simp; with_reducible rfl); clear hK K; simp only [Act.put, List.setIfInBounds_toArray, List.set_cons_zero, List.set_cons_succ])
              | (refine wpL_yes rfl rfl ?_)
              | (refine wpL_no rfl rfl (fun K hK => ?_); simp only [Act.put, List.setIfInBounds_toArray, List.set_cons_zero, List.set_cons_succ]; refine hK _ _ ?_; clear hK K)
              | (refine wpL_nil ?_))
            clear hd
            go_wp2_with (at_builtin; refine wpList_appF rfl _ _ _ rfl _ 24 Try.underlying61 infoH rfl O7.out x zb7 (by rfl) (by rfl) (by first | rfl | simp) rfl (tr_one _) (by first | omega | (simp only [List.length_append, List.length_cons, List.length_nil, List.length_replicate]; omega)) (by first | omega | (simp only [List.length_append, List.length_cons, List.length_nil, List.length_replicate]; omega)) ?_; refine Stop.halt ?_)
            refine Stop.go ?_
            intro gn cn wn hn Gn
            have O9 := hid hn
            have B9 := hid (B7.out.trans (Gn.below zb7 fun q h => (O7.out.lt q h).1))
            clear hn Gn O7 B7
            go_wp2_with fail
            go_roundw
            case rel => exact ⟨j + 1, by omega, by go_num, by rw [HT.out, HA2.out], by rw [HT.out, HO2.out]; simpa using O9.out, B9.out⟩
            case measure => simp [intOf]; omega
      · obtain rfl : j = m := by omega
        have hte : E.take j = E := by rw [← HM.out, List.take_length]
        rw [hte] at O6 hol hom ⊢
        have HALL := hid (outT_all HOE.out HX.out)
        have N6 := hid (((G4.out.n.alloc (Nat.le_refl _) (.cells #[.int .i64 a, .int .i64 c, .int .i64 k] 87))))
        rw [← HW5.out] at N6
        clear hte
        have R25 := hid (row_old (o := .cells #[.int .i64 a, .int .i64 c, .int .i64 k] 87) R2.out)
        rw [← HW5.out] at R25
        have HN6 : Hid (Sl W5 w4.heap.size 1 (.slice an nn cn) nn (N2.flatMap intC)) := hid (by rw [← HNN.out]; have := N6.out; rw [← HNN.out] at this; exact this)
        have N6 := HN6
        clear c0 c1 x0 x1 x2
        cases ha : anyT (a, c, k) E with
        | true =>
          rw [ha] at HALL
          simp only [if_true] at HALL
          clear ha
          generalize outT (a, c, k) E = Oj at *
          have BF := B6
          have OF := O6
          have r1F := row_below R15.out BF.out (by omega)
          have r2F := row_below R25.out BF.out (by omega)
          have c0 : wr.cell? ⟨w.heap.size, 0, none⟩ = some (.slice an nn cn) := row_cell r1F 0
          have c1 : wr.cell? ⟨w.heap.size, 1, none⟩ = some (.slice ae j ce) := row_cell r1F 1
          have d0 : wr.cell? ⟨w.heap.size + 1, 0, none⟩ = some (.slice none 0 0) := row_cell r2F 0
          have d1 : wr.cell? ⟨w.heap.size + 1, 1, none⟩ = some (.slice none 0 0) := row_cell r2F 1
          have f0 : ∀ j, wr.frozen? ⟨w.heap.size, j, none⟩ = false := fun j => row_free r1F j
          have f1 : ∀ j, wr.frozen? ⟨w.heap.size + 1, j, none⟩ = false := fun j => row_free r2F j
          have R2F := hid r2F
          clear r1F r2F
          go_wp2
          have d0' : (wr.setCell ⟨w.heap.size, 1, none⟩ (.slice ao Oj.length co)).cell? ⟨w.heap.size + 1, 0, none⟩ = some (.slice none 0 0) := (World.cell?_setCell_other _ _ _ _ (by simp)).trans d0
          have d1' : ((wr.setCell ⟨w.heap.size, 1, none⟩ (.slice ao Oj.length co)).setCell ⟨w.heap.size + 1, 0, none⟩ (.slice an nn cn)).cell? ⟨w.heap.size + 1, 1, none⟩ = some (.slice none 0 0) := (World.cell?_setCell_other _ _ _ _ (by simp)).trans ((World.cell?_setCell_other _ _ _ _ (by simp)).trans d1)
          have NF := hid (((((N6.out.below (BF.out.mono (by omega))).setOther (ints_int N2) c1 (.slice ao Oj.length co)).setOther (ints_int N2) d0' (.slice an nn cn)).setOther (ints_int N2) d1' (.slice ao Oj.length co)).more (B' := (((wr.setCell ⟨w.heap.size, 1, none⟩ (.slice ao Oj.length co)).setCell ⟨w.heap.size + 1, 0, none⟩ (.slice an nn cn)).setCell ⟨w.heap.size + 1, 1, none⟩ (.slice ao Oj.length co)).heap.size) (by have := BF.out.size; simp; omega))
          have EF := hid (((OF.out.set (g := w.heap.size) (j := 1) (u := (.slice ao Oj.length co)) (by omega)).set (g := w.heap.size + 1) (j := 0) (u := .slice an nn cn) (by omega)).set (g := w.heap.size + 1) (j := 1) (u := (.slice ao Oj.length co)) (by omega)).sl
          have BW := hid ((((B5.out.trans (((Below.refl w4.heap.size w4).alloc (Nat.le_refl _) (.cells #[.int .i64 a, .int .i64 c, .int .i64 k] 87)).mono (by omega))).trans ((show Below W5.heap.size (w4.alloc (.cells #[.int .i64 a, .int .i64 c, .int .i64 k] 87)) wr by rw [← HW5.out]; exact BF.out).mono (by omega))).setCell (p := ⟨w.heap.size, 1, none⟩) (by show _ ≤ w.heap.size; omega) (.slice ao Oj.length co)).setCell (p := ⟨w.heap.size + 1, 0, none⟩) (by show _ ≤ w.heap.size + 1; omega) (.slice an nn cn) |>.setCell (p := ⟨w.heap.size + 1, 1, none⟩) (by show _ ≤ w.heap.size + 1; omega) (.slice ao Oj.length co))
          have q2 := row_set (row_set (row_other R2F.out (g' := w.heap.size) (j := 1) (v := (.slice ao Oj.length co)) (by omega)) 0 (.slice an nn cn)) 1 (.slice ao Oj.length co)
          have cc0 := row_cell q2 0
          have cc1 := row_cell q2 1
          clear q2 c0 c1 d0 d1 d0' d1' f0 f1
          generalize ((wr.setCell ⟨w.heap.size, 1, none⟩ (.slice ao Oj.length co)).setCell ⟨w.heap.size + 1, 0, none⟩ (.slice an nn cn)).setCell ⟨w.heap.size + 1, 1, none⟩ (.slice ao Oj.length co) = WF at *
          simp at cc0 cc1
          refine bodyPost_ret (v := .agg #[.slice an nn cn, (.slice ao Oj.length co)]) (by simp [results, Try.results59, go_sem, cc0, cc1]) rfl ⟨_, _, rfl, ⟨?_, ?_⟩, HFR.out, BW.out⟩
          · rw [HN2e.out]
            exact LI.ofN HNN.out NF.out (Nat.le_refl _)
          · rw [HALL.out]
            exact EF.out
        | false =>
          rw [ha] at HALL
          simp only [Bool.false_eq_true, if_false] at HALL
          clear ha
          generalize outT (a, c, k) E = Oj at *
          obtain ⟨c0, c1, x0, x1, x2⟩ := HROW.out wr B6.out
          go_wp2_with (at_builtin; refine wpList_appF rfl _ _ _ rfl _ 24 Try.underlying61 infoH rfl O6.out (a, c, k) zb (by rfl) (by rfl) (by first | rfl | simp) rfl (tr_one _) (by first | omega | (simp only [List.length_append, List.length_cons, List.length_nil, List.length_replicate]; omega)) (by first | omega | (simp only [List.length_append, List.length_cons, List.length_nil, List.length_replicate]; omega)) ?_; refine Stop.halt ?_)
          refine Stop.go ?_
          intro gm cm wm hm' Gm
          have OF := hid (show OwnF trC 87 3 wm W5.heap.size (.slice (some ⟨gm, 0, none⟩) (Oj.length + 1) cm) (Oj ++ [(a, c, k)]) from hm')
          have BF := hid (B6.out.trans (Gm.below zb fun q h => (O6.out.lt q h).1))
          clear hm' Gm O6 B6 c0 c1 x0 x1 x2
          have r1F := row_below R15.out BF.out (by omega)
          have r2F := row_below R25.out BF.out (by omega)
          have c0 : wm.cell? ⟨w.heap.size, 0, none⟩ = some (.slice an nn cn) := row_cell r1F 0
          have c1 : wm.cell? ⟨w.heap.size, 1, none⟩ = some (.slice ae j ce) := row_cell r1F 1
          have d0 : wm.cell? ⟨w.heap.size + 1, 0, none⟩ = some (.slice none 0 0) := row_cell r2F 0
          have d1 : wm.cell? ⟨w.heap.size + 1, 1, none⟩ = some (.slice none 0 0) := row_cell r2F 1
          have f0 : ∀ j, wm.frozen? ⟨w.heap.size, j, none⟩ = false := fun j => row_free r1F j
          have f1 : ∀ j, wm.frozen? ⟨w.heap.size + 1, j, none⟩ = false := fun j => row_free r2F j
          have R2F := hid r2F
          clear r1F r2F
          go_wp2
          have d0' : (wm.setCell ⟨w.heap.size, 1, none⟩ (.slice (some ⟨gm, 0, none⟩) (Oj.length + 1) cm)).cell? ⟨w.heap.size + 1, 0, none⟩ = some (.slice none 0 0) := (World.cell?_setCell_other _ _ _ _ (by simp)).trans d0
          have d1' : ((wm.setCell ⟨w.heap.size, 1, none⟩ (.slice (some ⟨gm, 0, none⟩) (Oj.length + 1) cm)).setCell ⟨w.heap.size + 1, 0, none⟩ (.slice an nn cn)).cell? ⟨w.heap.size + 1, 1, none⟩ = some (.slice none 0 0) := (World.cell?_setCell_other _ _ _ _ (by simp)).trans ((World.cell?_setCell_other _ _ _ _ (by simp)).trans d1)
          have NF := hid (((((N6.out.below (BF.out.mono (by omega))).setOther (ints_int N2) c1 (.slice (some ⟨gm, 0, none⟩) (Oj.length + 1) cm)).setOther (ints_int N2) d0' (.slice an nn cn)).setOther (ints_int N2) d1' (.slice (some ⟨gm, 0, none⟩) (Oj.length + 1) cm)).more (B' := (((wm.setCell ⟨w.heap.size, 1, none⟩ (.slice (some ⟨gm, 0, none⟩) (Oj.length + 1) cm)).setCell ⟨w.heap.size + 1, 0, none⟩ (.slice an nn cn)).setCell ⟨w.heap.size + 1, 1, none⟩ (.slice (some ⟨gm, 0, none⟩) (Oj.length + 1) cm)).heap.size) (by have := BF.out.size; simp; omega))
          have EF := hid (((OF.out.set (g := w.heap.size) (j := 1) (u := (.slice (some ⟨gm, 0, none⟩) (Oj.length + 1) cm)) (by omega)).set (g := w.heap.size + 1) (j := 0) (u := .slice an nn cn) (by omega)).set (g := w.heap.size + 1) (j := 1) (u := (.slice (some ⟨gm, 0, none⟩) (Oj.length + 1) cm)) (by omega)).sl
          have BW := hid ((((B5.out.trans (((Below.refl w4.heap.size w4).alloc (Nat.le_refl _) (.cells #[.int .i64 a, .int .i64 c, .int .i64 k] 87)).mono (by omega))).trans ((show Below W5.heap.size (w4.alloc (.cells #[.int .i64 a, .int .i64 c, .int .i64 k] 87)) wm by rw [← HW5.out]; exact BF.out).mono (by omega))).setCell (p := ⟨w.heap.size, 1, none⟩) (by show _ ≤ w.heap.size; omega) (.slice (some ⟨gm, 0, none⟩) (Oj.length + 1) cm)).setCell (p := ⟨w.heap.size + 1, 0, none⟩) (by show _ ≤ w.heap.size + 1; omega) (.slice an nn cn) |>.setCell (p := ⟨w.heap.size + 1, 1, none⟩) (by show _ ≤ w.heap.size + 1; omega) (.slice (some ⟨gm, 0, none⟩) (Oj.length + 1) cm))
          have q2 := row_set (row_set (row_other R2F.out (g' := w.heap.size) (j := 1) (v := (.slice (some ⟨gm, 0, none⟩) (Oj.length + 1) cm)) (by omega)) 0 (.slice an nn cn)) 1 (.slice (some ⟨gm, 0, none⟩) (Oj.length + 1) cm)
          have cc0 := row_cell q2 0
          have cc1 := row_cell q2 1
          clear q2 c0 c1 d0 d1 d0' d1' f0 f1
          generalize ((wm.setCell ⟨w.heap.size, 1, none⟩ (.slice (some ⟨gm, 0, none⟩) (Oj.length + 1) cm)).setCell ⟨w.heap.size + 1, 0, none⟩ (.slice an nn cn)).setCell ⟨w.heap.size + 1, 1, none⟩ (.slice (some ⟨gm, 0, none⟩) (Oj.length + 1) cm) = WF at *
          simp at cc0 cc1
          refine bodyPost_ret (v := .agg #[.slice an nn cn, (.slice (some ⟨gm, 0, none⟩) (Oj.length + 1) cm)]) (by simp [results, Try.results59, go_sem, cc0, cc1]) rfl ⟨_, _, rfl, ⟨?_, ?_⟩, HFR.out, BW.out⟩
          · rw [HN2e.out]
            exact LI.ofN HNN.out NF.out (Nat.le_refl _)
          · rw [HALL.out]
            exact EF.out
end
section
variable {w : World} {vd vi : Value}
set_option maxRecDepth 100000 in
set_option maxHeartbeats 2000000 in
theorem gr_madeF {l : List Tr} {nd : List Int} {n m B : Nat} (h : Sl w B 3 vd n (l.flatMap trC)) (hn : l.length = n) (hB : B ≤ w.heap.size) (hi : Sl w B 1 vi m (nd.flatMap intC)) (hm : nd.length = m) (hd : ∀ x ∈ l, dI x.1 ∧ dI x.2.1 ∧ dI x.2.2) (hdi : ∀ x ∈ nd, dI x) (hn1 : n ≤ 1000) (hm1 : m ≤ 1000) :
    Calls Try.prog 45 #[vd, vi] w fun e w' => ∃ p vn ve, e = .returned (.tuple #[.pointer (some ⟨p, 0, none⟩), .agg #[vn, ve]]) ∧ GrAt w' w.heap.size w'.heap.size p (gN (gE l).1 nd) (gE l).2 ∧ RG w' vn ve (gN (gE l).1 nd) (gE l).2 ∧ Frs w.heap.size vn ∧ Below w.heap.size w w' := by
  obtain ⟨al, cl, rfl, hal⟩ := h.ex
  obtain ⟨ai, ci, rfl, hai⟩ := hi.ex
  have H := hid h
  have HI := hid hi
  have HN := hid hn
  have HM := hid hm
  have HD := hid hd
  have HDI := hid hdi
  clear h hi hn hm hd hdi
  go_enter Try.func45, Try.ntmps45
  go_wp2_with fail
  refine (gr_new _).mono ?_
  rintro e w1 ⟨p, rfl, g1, b1⟩
  have r1 := row_below (row_new w (.cells #[.slice none 0 0, .slice none 0 0] 63)) b1 (by simp)
  have B1 := hid (((Below.refl w.heap.size w).alloc (Nat.le_refl _) (.cells #[.slice none 0 0, .slice none 0 0] 63)).trans (b1.mono (by simp)))
  have z1 : w.heap.size + 1 ≤ w1.heap.size := by have := b1.size; simpa using this
  have G1 := hid ((g1.lower (lo' := w.heap.size + 1) (by simp)).below ((Below.refl w1.heap.size w1).alloc (Nat.le_refl _) (.cells #[.slice none 0 0, .slice none 0 0] 63)) (Nat.le_refl _))
  have R1 := hid (row_old (o := .cells #[.slice none 0 0, .slice none 0 0] 63) r1)
  have R2 := hid (row_new w1 (.cells #[.slice none 0 0, .slice none 0 0] 63))
  have B2 := hid (B1.out.alloc B1.out.size (.cells #[.slice none 0 0, .slice none 0 0] 63))
  clear g1 b1 r1 B1
  go_wp2_with fail
  obtain ⟨w2, hw2⟩ : ∃ w2, w2 = w1.alloc (.cells #[.slice none 0 0, .slice none 0 0] 63) := ⟨_, rfl⟩
  have z2 : w1.heap.size + 1 ≤ w2.heap.size := by rw [hw2, World.size_alloc]; exact Nat.le_refl _
  rw [← hw2] at G1 R1 R2 B2 ⊢
  have G2 := hid (G1.out.raise (hi' := w2.heap.size) (by omega))
  obtain ⟨hv, hhv⟩ : ∃ hv, hv = w1.heap.size := ⟨_, rfl⟩
  rw [← hhv] at R2 z2 ⊢
  have hvz : w.heap.size + 1 ≤ hv := by omega
  have P0 := hid (RG.nil w2)
  clear hw2 hhv G1
  go_loopw [8] (fun i wr => ∃ (k : Nat) (vn ve : Value), k ≤ n ∧ i = .int .i64 k ∧ wr.heap[hv]? = some (.cells #[vn, ve] 63 (0, 0)) ∧ wr.heap[w.heap.size]? = some (.cells #[.slice none 0 0, .slice none 0 0] 63 (0, 0)) ∧
    GrAt wr (w.heap.size + 1) wr.heap.size p (gE (l.take k)).1 (gE (l.take k)).2 ∧ RG wr vn ve (gE (l.take k)).1 (gE (l.take k)).2 ∧ Frs w.heap.size vn ∧ Below w.heap.size w wr) (fun i _ => n - (intOf i).toNat)
  case atStart => exact ⟨0, .slice none 0 0, .slice none 0 0, by omega, by go_num, R2.out, R1.out, G2.out, P0.out, Frs.nil _, B2.out⟩
  case round =>
    obtain ⟨k, vn, ve, hk, rfl, hr2, hr1, hG, hP, hFr, hB2⟩ := hrel
    have FR := hid hFr
    obtain ⟨an, cn, nn, rfl, hnn, hnm, -⟩ := hP.n.open
    obtain ⟨ae, ce, ne, rfl, hne, hem, -⟩ := hP.e.open
    have hL1 := gE_len (l.take k)
    have hkl : (l.take k).length ≤ 1000 := by rw [List.length_take]; omega
    have HSN := hid (gE_snoc (l.take k))
    have HALL := hid (fun h : n ≤ k => show l.take k = l from List.take_of_length_le (by rw [HN.out]; exact h))
    have HOK := hid (gE_ok (l.take k))
    generalize hGG : gE (l.take k) = GG at *
    obtain ⟨N, E⟩ := GG
    have HGG0 := hid hGG
    simp only at hL1 hG hP hnn hne
    clear hGG
    have hN9 : N.length ≤ 2000 := by omega
    have hE9 : E.length ≤ 1000 := by omega
    have R1 := hid hr1
    have R2 := hid hr2
    have G3 := hid hG
    have P3 := hid hP
    have B3 := hid hB2
    have hz := hB2.size
    have hvl := row_lt hr2
    clear hr1 hr2 hG hP hFr hB2 hL1 hnn hne G2 P0 B2
    by_cases hlt : k < n
    · obtain ⟨b, off, x, rfl, hb, hx, c1, c2, c3⟩ := (H.out.below (B3.out.mono hB)).trs hlt HN.out
      have hxd := HD.out x (List.mem_of_getElem? hx)
      have HT := hid (take_step hx)
      clear hx
      go_wp2
      refine wp_region_x [0, 0, 0, 0, 0, 1, 0, 0, 0, 0, 1, 0, 0, 0, 0, 1, 2] [0, 1, 2, 3, 4, 5, 6, 7, 8, 9, 10, 11, 12, 13, 14, 15, 16] (by kernel_rfl) (by kernel_rfl) rfl (by kernel_rfl) ?_
      simp only [selX, guardAt, List.getElem?_cons_zero, List.getElem?_cons_succ, List.getD_cons_zero, List.getD_cons_succ]
      repeat (first
        | (refine wpL_p (fun K hK => ?_); go_simp; refine hK _ _ ?_; clear hK K)
        | (refine wpL_r (fun K hK => ?_); apply Exists.intro; refine ⟨fun w2 hw2 => ?_, hK _ _ ?_⟩; (have hk1 := hw2.cell; have hk3 := hw2.heap; clear hw2; go_simp; with_reducible rfl); clear hK K; simp only [Act.put, List.setIfInBounds_toArray, List.set_cons_zero, List.set_cons_succ])
        | (refine wpL_yes rfl rfl ?_)
        | (refine wpL_no rfl rfl (fun K hK => ?_); simp only [Act.put, List.setIfInBounds_toArray, List.set_cons_zero, List.set_cons_succ]; refine hK _ _ ?_; clear hK K)
        | (refine wpL_nil ?_))
      refine wpL_e (fun K hK => ?_)
      go_simp
      refine (gr_edge (G3.out.below (Below.refl wr.heap.size wr).drew (Nat.le_refl _)) (Nat.le_refl _) (by omega) (by omega) x.1 x.2.1 x.2.2 hxd.1 hxd.2.1 hxd.2.2).mono ?_
      rintro e w4 ⟨rfl, g4, k4, b4⟩
      refine hK _ _ ?_
      clear hK K
      have G4 := hid g4
      have R14 := hid (k4.cells (show wr.drew.heap[w.heap.size]? = _ from R1.out))
      have r24 := k4.cells (show wr.drew.heap[hv]? = _ from R2.out)
      have R24 := hid r24
      have P4 := hid ((show RG wr.drew _ _ N E from ⟨P3.out.n, P3.out.e⟩).keep k4)
      have B4 := hid (B3.out.drew.trans (b4.mono (by omega)))
      have z4 : wr.heap.size ≤ w4.heap.size := k4.size
      have c1' := cell_keep k4 (show wr.drew.cell? _ = _ from c1)
      have c2' := cell_keep k4 (show wr.drew.cell? _ = _ from c2)
      have c3' := cell_keep k4 (show wr.drew.cell? _ = _ from c3)
      have d0 : w4.cell? ⟨hv, 0, none⟩ = some (.slice an nn cn) := row_cell r24 0
      have d1 : w4.cell? ⟨hv, 1, none⟩ = some (.slice ae ne ce) := row_cell r24 1
      clear g4 k4 b4 r24 c1 c2 c3 G3 P3 B3 R1 R2
      repeat (first
        | (refine wpL_p (fun K hK => ?_); go_simp; refine hK _ _ ?_; clear hK K)
        | (refine wpL_r (fun K hK => ?_); apply Exists.intro; refine ⟨fun w2 hw2 => ?_, hK _ _ ?_⟩; (have hk1 := hw2.cell; have hk3 := hw2.heap; clear hw2; go_simp; with_reducible rfl); clear hK K; simp only [Act.put, List.setIfInBounds_toArray, List.set_cons_zero, List.set_cons_succ])
        | (refine wpL_yes rfl rfl ?_)
        | (refine wpL_no rfl rfl (fun K hK => ?_); simp only [Act.put, List.setIfInBounds_toArray, List.set_cons_zero, List.set_cons_succ]; refine hK _ _ ?_; clear hK K)
        | (refine wpL_nil ?_))
      go_wp2
      refine wp_region_x [1, 0, 0, 0, 0, 1, 0, 0, 0, 0, 1, 0, 0, 0, 0, 1, 2, 2] [0, 1, 2, 3, 4, 5, 6, 7, 8, 9, 10, 11, 12, 13, 14, 15, 16, 17] (by kernel_rfl) (by kernel_rfl) rfl (by kernel_rfl) ?_
      simp only [selX, guardAt, List.getElem?_cons_zero, List.getElem?_cons_succ, List.getD_cons_zero, List.getD_cons_succ]
      repeat (first
        | (refine wpL_p (fun K hK => ?_); go_simp; refine hK _ _ ?_; clear hK K)
        | (refine wpL_r (fun K hK => ?_); apply Exists.intro; refine ⟨fun w2 hw2 => ?_, hK _ _ ?_⟩; (have hk1 := hw2.cell; have hk3 := hw2.heap; clear hw2; go_simp; with_reducible rfl); clear hK K; simp only [Act.put, List.setIfInBounds_toArray, List.set_cons_zero, List.set_cons_succ])
        | (refine wpL_yes rfl rfl ?_)
        | (refine wpL_no rfl rfl (fun K hK => ?_); simp only [Act.put, List.setIfInBounds_toArray, List.set_cons_zero, List.set_cons_succ]; refine hK _ _ ?_; clear hK K)
        | (refine wpL_nil ?_))
      refine wpL_e (fun K hK => ?_)
      go_simp
      refine (rg_edgeF (show RG w4.drew _ _ N E from ⟨P4.out.n, P4.out.e⟩) HOK.out (by omega) (by omega) x.1 x.2.1 x.2.2).mono ?_
      rintro e w5 ⟨vn5, ve5, rfl, g5, fr5, b5⟩
      refine hK _ _ ?_
      clear hK K
      obtain ⟨a5, c5, rfl, hm5⟩ := Sl.ex g5.n
      obtain ⟨a6, c6, rfl, hm6⟩ := Sl.ex g5.e
      have FR5 := hid (fr5 w.heap.size (by show _ ≤ w4.heap.size; omega) FR.out)
      clear fr5
      have r15 := row_below (show w4.drew.heap[w.heap.size]? = _ from R14.out) b5 (by show _ < w4.heap.size; omega)
      have r25 := row_below (show w4.drew.heap[hv]? = _ from R24.out) b5 (by show _ < w4.heap.size; omega)
      have e0 : w5.cell? ⟨hv, 0, none⟩ = some (.slice an nn cn) := row_cell r25 0
      have e1 : w5.cell? ⟨hv, 1, none⟩ = some (.slice ae ne ce) := row_cell r25 1
      have f1 : ∀ j, w5.frozen? ⟨hv, j, none⟩ = false := fun j => row_free r25 j
      have e1' : (w5.setCell ⟨hv, 0, none⟩ (.slice a5 (insI x.2.1 (insI x.1 N)).length c5)).cell? ⟨hv, 1, none⟩ = some (.slice ae ne ce) := (World.cell?_setCell_other _ _ _ _ (by simp)).trans e1
      have P6 := hid ((g5.set e0 (.slice a5 (insI x.2.1 (insI x.1 N)).length c5)).set e1' (.slice a6 (insT (x.1, x.2.1, x.2.2) E).length c6))
      have G6 := hid ((((G4.out.below ((Below.refl w4.heap.size w4).drew.trans b5) (Nat.le_refl _)).raise (hi' := w5.heap.size) b5.size).setC r25 (by decide) (.slice a5 (insI x.2.1 (insI x.1 N)).length c5) (j := 0)).setC (row_set r25 0 (.slice a5 (insI x.2.1 (insI x.1 N)).length c5)) (by decide) (.slice a6 (insT (x.1, x.2.1, x.2.2) E).length c6) (j := 1))
      have R26 := hid (row_set (row_set r25 0 (.slice a5 (insI x.2.1 (insI x.1 N)).length c5)) 1 (.slice a6 (insT (x.1, x.2.1, x.2.2) E).length c6))
      have R16 := hid (row_other (row_other r15 (g' := hv) (j := 0) (v := (.slice a5 (insI x.2.1 (insI x.1 N)).length c5)) (by omega)) (g' := hv) (j := 1) (v := (.slice a6 (insT (x.1, x.2.1, x.2.2) E).length c6)) (by omega))
      have B6 := hid (((B4.out.drew.trans (b5.mono (by show _ ≤ w4.heap.size; omega))).setCell (p := ⟨hv, 0, none⟩) (by show _ ≤ hv; omega) (.slice a5 (insI x.2.1 (insI x.1 N)).length c5)).setCell (p := ⟨hv, 1, none⟩) (by show _ ≤ hv; omega) (.slice a6 (insT (x.1, x.2.1, x.2.2) E).length c6))
      have z6 : w4.heap.size ≤ w5.heap.size := b5.size
      clear g5 b5 r15 r25 e1' G4 R14 R24 P4 B4
      repeat (first
        | (refine wpL_p (fun K hK => ?_); go_simp; refine hK _ _ ?_; clear hK K)
        | (refine wpL_r (fun K hK => ?_); apply Exists.intro; refine ⟨fun w2 hw2 => ?_, hK _ _ ?_⟩; (have hk1 := hw2.cell; have hk3 := hw2.heap; clear hw2; go_simp; with_reducible rfl); clear hK K; simp only [Act.put, List.setIfInBounds_toArray, List.set_cons_zero, List.set_cons_succ])
        | (refine wpL_yes rfl rfl ?_)
        | (refine wpL_no rfl rfl (fun K hK => ?_); simp only [Act.put, List.setIfInBounds_toArray, List.set_cons_zero, List.set_cons_succ]; refine hK _ _ ?_; clear hK K)
        | (refine wpL_nil ?_))
      refine wpL_e (fun K hK => ?_)
      go_simp
      refine hK _ _ ?_
      clear hK K e0 e1 f1 c1' c2' c3'
      repeat (first
        | (refine wpL_p (fun K hK => ?_); go_simp; refine hK _ _ ?_; clear hK K)
        | (refine wpL_r (fun K hK => ?_); apply Exists.intro; refine ⟨fun w2 hw2 => ?_, hK _ _ ?_⟩; (have hk1 := hw2.cell; have hk3 := hw2.heap; clear hw2; go_simp; with_reducible rfl); clear hK K; simp only [Act.put, List.setIfInBounds_toArray, List.set_cons_zero, List.set_cons_succ])
        | (refine wpL_yes rfl rfl ?_)
        | (refine wpL_no rfl rfl (fun K hK => ?_); simp only [Act.put, List.setIfInBounds_toArray, List.set_cons_zero, List.set_cons_succ]; refine hK _ _ ?_; clear hK K)
        | (refine wpL_nil ?_))
      go_wp2_with fail
      go_roundw
      case rel => exact ⟨k + 1, _, _, by omega, by go_num, R26.out, R16.out, by rw [HT.out, HSN.out]; simpa using G6.out, by rw [HT.out, HSN.out]; exact P6.out, FR5.out, B6.out⟩
      case measure => simp [intOf]; omega
    · obtain rfl : k = n := by omega
      have HE := hid (HALL.out (Nat.le_refl _))
      have HGG : Hid (gE l = (N, E)) := hid (by rw [← HE.out]; exact HGG0.out)
      clear HSN HALL HE HGG0
      go_wp2_with fail
      go_loopw [9] (fun i wr => ∃ (j : Nat) (vn ve : Value), j ≤ m ∧ i = .int .i64 j ∧ wr.heap[hv]? = some (.cells #[vn, ve] 63 (0, 0)) ∧ wr.heap[w.heap.size]? = some (.cells #[.slice none 0 0, .slice none 0 0] 63 (0, 0)) ∧
        GrAt wr (w.heap.size + 1) wr.heap.size p (gN N (nd.take j)) E ∧ RG wr vn ve (gN N (nd.take j)) E ∧ Frs w.heap.size vn ∧ Below w.heap.size w wr) (fun i _ => m - (intOf i).toNat)
      case atStart => exact ⟨0, _, _, by omega, by go_num, R2.out, R1.out, G3.out, P3.out, FR.out, B3.out⟩
      case round =>
        obtain ⟨j, vn, ve, hj, rfl, hr2, hr1, hG, hP, hFr, hB2⟩ := hrel
        have FR := hid hFr
        obtain ⟨an, cn, nn, rfl, hnn, hnm, -⟩ := hP.n.open
        obtain ⟨ae, ce, ne, rfl, hne, hem, -⟩ := hP.e.open
        have hL1 := gN_len N (nd.take j)
        have hkl : (nd.take j).length ≤ 1000 := by rw [List.length_take]; omega
        have HSN := hid (gN_snoc N (nd.take j))
        have HALL := hid (fun h : m ≤ j => show nd.take j = nd from List.take_of_length_le (by rw [HM.out]; exact h))
        have HOK2 := hid (gN_ok (nd.take j) HOK.out)
        have HNE0 : Hid (gN N (nd.take j) = gN N (nd.take j)) := hid rfl
        generalize hNj : gN N (nd.take j) = Nj at *
        have HNJ := hid hNj
        have hN10 : Nj.length ≤ 3000 := by omega
        have R1 := hid hr1
        have R2 := hid hr2
        have G3 := hid hG
        have P3 := hid hP
        have B3 := hid hB2
        have hz := hB2.size
        have hvl := row_lt hr2
        clear hr1 hr2 hG hP hFr hB2 hL1 hnn hne hNj HNE0
        by_cases hlj : j < m
        · obtain ⟨b, off, x, rfl, hb, hx, c1⟩ := (HI.out.below (B3.out.mono hB)).ints hlj HM.out
          have hxd := HDI.out x (List.mem_of_getElem? hx)
          have HT := hid (take_step hx)
          clear hx
          go_wp2_with fail
          refine (gr_node G3.out (Nat.le_refl _) (by omega) x hxd).mono ?_
          rintro e w4 ⟨rfl, g4, k4, b4⟩
          have G4 := hid g4
          have R14 := hid (k4.cells R1.out)
          have r24 := k4.cells R2.out
          have R24 := hid r24
          have P4 := hid (P3.out.keep k4)
          have B4 := hid (B3.out.trans (b4.mono (by omega)))
          have z4 : wr.heap.size ≤ w4.heap.size := k4.size
          have c1' := cell_keep k4 c1
          have d0 : w4.cell? ⟨hv, 0, none⟩ = some (.slice an nn cn) := row_cell r24 0
          have d1 : w4.cell? ⟨hv, 1, none⟩ = some (.slice ae ne ce) := row_cell r24 1
          clear g4 k4 b4 r24 c1 G3 P3 B3 R1 R2
          go_wp2
          refine wp_region_x [1, 0, 0, 0, 1, 2, 2] [0, 1, 2, 3, 4, 5, 6] (by kernel_rfl) (by kernel_rfl) rfl (by kernel_rfl) ?_
          simp only [selX, guardAt, List.getElem?_cons_zero, List.getElem?_cons_succ, List.getD_cons_zero, List.getD_cons_succ]
          repeat (first
            | (refine wpL_p (fun K hK => ?_); go_simp; refine hK _ _ ?_; clear hK K)
            | (refine wpL_r (fun K hK => ?_); apply Exists.intro; refine ⟨fun w2 hw2 => ?_, hK _ _ ?_⟩; (have hk1 := hw2.cell; have hk3 := hw2.heap; clear hw2; go_simp; with_reducible rfl); clear hK K; simp only [Act.put, List.setIfInBounds_toArray, List.set_cons_zero, List.set_cons_succ])
            | (refine wpL_yes rfl rfl ?_)
            | (refine wpL_no rfl rfl (fun K hK => ?_); simp only [Act.put, List.setIfInBounds_toArray, List.set_cons_zero, List.set_cons_succ]; refine hK _ _ ?_; clear hK K)
            | (refine wpL_nil ?_))
          refine wpL_e (fun K hK => ?_)
          go_simp
          refine (rg_nodeF (show RG w4.drew _ _ Nj E from ⟨P4.out.n, P4.out.e⟩) HOK2.out.srtN (by omega) x).mono ?_
          rintro e w5 ⟨vn5, rfl, g5, fr5, b5⟩
          refine hK _ _ ?_
          clear hK K
          obtain ⟨a5, c5, rfl, hm5⟩ := Sl.ex g5.n
          have FR5 := hid (fr5 w.heap.size (by show _ ≤ w4.heap.size; omega) FR.out)
          clear fr5
          have r15 := row_below (show w4.drew.heap[w.heap.size]? = _ from R14.out) b5 (by show _ < w4.heap.size; omega)
          have r25 := row_below (show w4.drew.heap[hv]? = _ from R24.out) b5 (by show _ < w4.heap.size; omega)
          have e0 : w5.cell? ⟨hv, 0, none⟩ = some (.slice an nn cn) := row_cell r25 0
          have e1 : w5.cell? ⟨hv, 1, none⟩ = some (.slice ae ne ce) := row_cell r25 1
          have f1 : ∀ j, w5.frozen? ⟨hv, j, none⟩ = false := fun j => row_free r25 j
          have e1' : (w5.setCell ⟨hv, 0, none⟩ (.slice a5 (insI x Nj).length c5)).cell? ⟨hv, 1, none⟩ = some (.slice ae ne ce) := (World.cell?_setCell_other _ _ _ _ (by simp)).trans e1
          have P6 := hid ((g5.set e0 (.slice a5 (insI x Nj).length c5)).set e1' (.slice ae ne ce))
          have G6 := hid ((((G4.out.below ((Below.refl w4.heap.size w4).drew.trans b5) (Nat.le_refl _)).raise (hi' := w5.heap.size) b5.size).setC r25 (by decide) (.slice a5 (insI x Nj).length c5) (j := 0)).setC (row_set r25 0 (.slice a5 (insI x Nj).length c5)) (by decide) (.slice ae ne ce) (j := 1))
          have R26 := hid (row_set (row_set r25 0 (.slice a5 (insI x Nj).length c5)) 1 (.slice ae ne ce))
          have R16 := hid (row_other (row_other r15 (g' := hv) (j := 0) (v := (.slice a5 (insI x Nj).length c5)) (by omega)) (g' := hv) (j := 1) (v := (.slice ae ne ce)) (by omega))
          have B6 := hid (((B4.out.drew.trans (b5.mono (by show _ ≤ w4.heap.size; omega))).setCell (p := ⟨hv, 0, none⟩) (by show _ ≤ hv; omega) (.slice a5 (insI x Nj).length c5)).setCell (p := ⟨hv, 1, none⟩) (by show _ ≤ hv; omega) (.slice ae ne ce))
          have z6 : w4.heap.size ≤ w5.heap.size := b5.size
          clear g5 b5 r15 r25 e1' G4 R14 R24 P4 B4
          repeat (first
            | (refine wpL_p (fun K hK => ?_); go_simp; refine hK _ _ ?_; clear hK K)
            | (refine wpL_r (fun K hK => ?_); apply Exists.intro; refine ⟨fun w2 hw2 => ?_, hK _ _ ?_⟩; (have hk1 := hw2.cell; have hk3 := hw2.heap; clear hw2; go_simp; with_reducible rfl); clear hK K; simp only [Act.put, List.setIfInBounds_toArray, List.set_cons_zero, List.set_cons_succ])
            | (refine wpL_yes rfl rfl ?_)
            | (refine wpL_no rfl rfl (fun K hK => ?_); simp only [Act.put, List.setIfInBounds_toArray, List.set_cons_zero, List.set_cons_succ]; refine hK _ _ ?_; clear hK K)
            | (refine wpL_nil ?_))
          refine wpL_e (fun K hK => ?_)
          go_simp
          refine hK _ _ ?_
          clear hK K e0 e1 f1 c1'
          repeat (first
            | (refine wpL_p (fun K hK => ?_); go_simp; refine hK _ _ ?_; clear hK K)
            | (refine wpL_r (fun K hK => ?_); apply Exists.intro; refine ⟨fun w2 hw2 => ?_, hK _ _ ?_⟩; (have hk1 := hw2.cell; have hk3 := hw2.heap; clear hw2; go_simp; with_reducible rfl); clear hK K; simp only [Act.put, List.setIfInBounds_toArray, List.set_cons_zero, List.set_cons_succ])
            | (refine wpL_yes rfl rfl ?_)
            | (refine wpL_no rfl rfl (fun K hK => ?_); simp only [Act.put, List.setIfInBounds_toArray, List.set_cons_zero, List.set_cons_succ]; refine hK _ _ ?_; clear hK K)
            | (refine wpL_nil ?_))
          go_wp2_with fail
          go_roundw
          case rel => exact ⟨j + 1, _, _, by omega, by go_num, R26.out, R16.out, by rw [HT.out, HSN.out]; simpa using G6.out, by rw [HT.out, HSN.out]; exact P6.out, FR5.out, B6.out⟩
          case measure => simp [intOf]; omega
        · obtain rfl : j = m := by omega
          have HE := hid (HALL.out (Nat.le_refl _))
          have HNJ2 : Hid (gN N nd = Nj) := hid (by rw [← HE.out]; exact HNJ.out)
          have d0 : wr.cell? ⟨hv, 0, none⟩ = some (.slice an nn cn) := row_cell R2.out 0
          have d1 : wr.cell? ⟨hv, 1, none⟩ = some (.slice ae ne ce) := row_cell R2.out 1
          have g0 : wr.cell? ⟨w.heap.size, 0, none⟩ = some (.slice none 0 0) := row_cell R1.out 0
          have g1 : wr.cell? ⟨w.heap.size, 1, none⟩ = some (.slice none 0 0) := row_cell R1.out 1
          have f1 : ∀ j, wr.frozen? ⟨w.heap.size, j, none⟩ = false := fun j => row_free R1.out j
          clear HSN HALL HE HNJ
          go_wp2
          refine wp_region_x [0, 1, 0, 2] [0, 1, 2, 3] (by kernel_rfl) (by kernel_rfl) rfl (by kernel_rfl) ?_
          simp only [selX, guardAt, List.getElem?_cons_zero, List.getElem?_cons_succ, List.getD_cons_zero, List.getD_cons_succ]
          repeat (first
            | (refine wpL_p (fun K hK => ?_); go_simp; refine hK _ _ ?_; clear hK K)
            | (refine wpL_r (fun K hK => ?_); apply Exists.intro; refine ⟨fun w2 hw2 => ?_, hK _ _ ?_⟩; (have hk1 := hw2.cell; have hk3 := hw2.heap; clear hw2; go_simp; with_reducible rfl); clear hK K; simp only [Act.put, List.setIfInBounds_toArray, List.set_cons_zero, List.set_cons_succ])
            | (refine wpL_yes rfl rfl ?_)
            | (refine wpL_no rfl rfl (fun K hK => ?_); simp only [Act.put, List.setIfInBounds_toArray, List.set_cons_zero, List.set_cons_succ]; refine hK _ _ ?_; clear hK K)
            | (refine wpL_nil ?_))
          refine wpL_e (fun K hK => ?_)
          go_simp
          refine hK _ _ ?_
          clear hK K
          refine wpL_nil ?_
          go_wp2
          have g1' : (wr.setCell ⟨w.heap.size, 0, none⟩ (.slice an nn cn)).cell? ⟨w.heap.size, 1, none⟩ = some (.slice none 0 0) := (World.cell?_setCell_other _ _ _ _ (by simp)).trans g1
          have PF := hid (show RG ((wr.setCell ⟨w.heap.size, 0, none⟩ (.slice an nn cn)).setCell ⟨w.heap.size, 1, none⟩ (.slice ae ne ce)).drew _ _ Nj E from ⟨((P3.out.set g0 (.slice an nn cn)).set g1' (.slice ae ne ce)).n, ((P3.out.set g0 (.slice an nn cn)).set g1' (.slice ae ne ce)).e⟩)
          have GF := hid (((G3.out.setC R1.out (by decide) (.slice an nn cn) (j := 0)).setC (row_set R1.out 0 (.slice an nn cn)) (by decide) (.slice ae ne ce) (j := 1)).below (K := wr.heap.size) (w' := ((wr.setCell ⟨w.heap.size, 0, none⟩ (.slice an nn cn)).setCell ⟨w.heap.size, 1, none⟩ (.slice ae ne ce)).drew) (by have := (Below.refl ((wr.setCell ⟨w.heap.size, 0, none⟩ (.slice an nn cn)).setCell ⟨w.heap.size, 1, none⟩ (.slice ae ne ce)).heap.size ((wr.setCell ⟨w.heap.size, 0, none⟩ (.slice an nn cn)).setCell ⟨w.heap.size, 1, none⟩ (.slice ae ne ce))).drew; simpa using this) (Nat.le_refl _))
          have BF := hid (((B3.out.setCell (p := ⟨w.heap.size, 0, none⟩) (by show _ ≤ w.heap.size; omega) (.slice an nn cn)).setCell (p := ⟨w.heap.size, 1, none⟩) (by show _ ≤ w.heap.size; omega) (.slice ae ne ce)).drew)
          have q2 : ((wr.setCell ⟨w.heap.size, 0, none⟩ (.slice an nn cn)).setCell ⟨w.heap.size, 1, none⟩ (.slice ae ne ce)).drew.heap[w.heap.size]? = _ := row_set (row_set R1.out 0 (.slice an nn cn)) 1 (.slice ae ne ce)
          have cc0 := row_cell q2 0
          have cc1 := row_cell q2 1
          have hsz : ((wr.setCell ⟨w.heap.size, 0, none⟩ (.slice an nn cn)).setCell ⟨w.heap.size, 1, none⟩ (.slice ae ne ce)).drew.heap.size = wr.heap.size := by simp
          have HSZ := hid hsz
          clear q2 d0 d1 g0 g1 g1' f1 hsz
          generalize ((wr.setCell ⟨w.heap.size, 0, none⟩ (.slice an nn cn)).setCell ⟨w.heap.size, 1, none⟩ (.slice ae ne ce)).drew = WF at *
          simp at cc0 cc1
          refine bodyPost_ret (v := .tuple #[.pointer (some ⟨p, 0, none⟩), .agg #[.slice an nn cn, .slice ae ne ce]]) (by simp [results, Try.results45, go_sem, cc0, cc1]) rfl ⟨p, _, _, rfl, ?_, ?_, FR.out, BF.out⟩
          · rw [HGG.out, HNJ2.out, HSZ.out]
            exact GF.out.lower (by omega)
          · rw [HGG.out, HNJ2.out]
            exact PF.out

end
end Go.Proofs.Ytlmeblhcipkgmaa
