/- The law of an order or a circle. Conditions: those of each theorem, as typed. -/
import Derived.Test.YtlmeblhcipkgmaaPlc
namespace Go.Proofs.Ytlmeblhcipkgmaa
open Go.RowKit Go.Maps
set_option linter.unusedVariables false
set_option linter.unusedSimpArgs false
attribute [local irreducible] wpL

theorem mem_gN {N nd : List Int} {x : Int} (h : x ∈ N) : x ∈ gN N nd := by
  induction nd generalizing N with
  | nil => exact h
  | cons a nd ih => exact ih (mem_insI.2 (.inr h))
theorem edge_in {l : List Tr} {nd : List Int} {x : Tr} (h : x ∈ l) : (x.1, x.2.1) ∈ prs (gE l).2 ∧ x.1 ∈ gN (gE l).1 nd ∧ x.2.1 ∈ gN (gE l).1 nd := by
  have h1 : x ∈ (gE l).2 := mem_gE.2 h
  have h2 := (gE_ok l).sub x h1
  exact ⟨mem_prs.2 ⟨x.2.2, h1⟩, mem_gN h2.1, mem_gN h2.2⟩
theorem OwnV.val {w : World} {B n cap : Nat} {a : Option Addr} {vs : List Value} (h : OwnV w B (.slice a n cap) vs) (hn : vs.length = n) {j : Nat} {u : Value} (hu : vs[j]? = some u) : ∃ g, a = some ⟨g, 0, none⟩ ∧ g < w.heap.size ∧ w.cell? ⟨g, j, none⟩ = some u := by
  have hj : j < n := by rw [← hn]; exact (List.getElem?_eq_some_iff.1 hu).1
  have hs : Sl w w.heap.size 1 (.slice a n cap) n (vs.flatMap valC) := by rw [← hn] at h ⊢; exact h.sl
  rcases h.form with ⟨-, rfl⟩ | ⟨g, cap', e, hB, hg⟩
  · simp at hn; omega
  · simp only [Value.slice.injEq, Option.some.injEq] at e
    obtain ⟨rfl, e2, rfl⟩ := e
    obtain ⟨b, off, x, ha, hb, hx, hc⟩ := Sl.atF valC_len hs hn hj
    simp only [Option.some.injEq, Addr.mk.injEq, and_true] at ha
    obtain ⟨rfl, rfl⟩ := ha
    rw [hu] at hx
    obtain rfl := Option.some.inj hx
    refine ⟨g, rfl, hg, ?_⟩
    simpa [valC] using hc 0 (by omega)
theorem OwnC.one {w : World} {B : Nat} {v : Value} {q : List Int} (h : OwnC w B v q) : ∃ g, v = .slice (some ⟨g, 0, none⟩) q.length q.length ∧ g < w.heap.size ∧ q.length ≤ 1000000 ∧ ∀ j x, q[j]? = some x → w.cell? ⟨g, j, none⟩ = some (.int .i64 x) := by
  obtain ⟨g, cur, rfl, h1, h2, h3, h4, h5⟩ := h
  refine ⟨g, rfl, row_lt h2, h4, fun j x hx => ?_⟩
  have hj := (List.getElem?_eq_some_iff.1 hx).1
  rw [row_cell h2]
  have : (q.map (Value.int .i64))[j]? = some (.int .i64 x) := by rw [List.getElem?_map, hx]; rfl
  rw [← h5, List.getElem?_take_of_lt hj] at this
  simpa using this
section
variable {w : World} {vd vi : Value}
set_option maxRecDepth 100000 in
set_option maxHeartbeats 4000000 in
theorem law_either {l : List Tr} {nd : List Int} {n m B : Nat} (h : Sl w B 3 vd n (l.flatMap trC)) (hn : l.length = n) (hB : B ≤ w.heap.size) (hi : Sl w B 1 vi m (nd.flatMap intC)) (hm : nd.length = m) (hd : ∀ x ∈ l, dI x.1 ∧ dI x.2.1 ∧ dI x.2.2) (hdi : ∀ x ∈ nd, dI x) :
    Calls Try.prog 9 #[vd, vi] w fun e w' => e = .returned (.bool true) ∧ Below w.heap.size w w' := by
  obtain ⟨al, cl, rfl, hal⟩ := h.ex
  obtain ⟨ai, ci, rfl, hai⟩ := hi.ex
  have H := hid h
  have HI := hid hi
  have HN := hid hn
  have HM := hid hm
  have HD := hid hd
  have HDI := hid hdi
  clear h hi hn hm hd hdi
  go_enter Try.func9, Try.ntmps9
  go_wp2_with fail
  refine (gr_first w).mono ?_
  rintro e w0 ⟨rfl, b0⟩
  have B0 := hid b0
  have z0 : w.heap.size ≤ w0.heap.size := b0.size
  have hB0 : B ≤ w0.heap.size := by omega
  clear b0
  by_cases hn1 : n ≤ 40
  · by_cases hm1 : m ≤ 40
    · go_wp2_with fail
      refine (gr_made (H.out.below (B0.out.mono hB)) HN.out hB0 (HI.out.below (B0.out.mono hB)) HM.out HD.out HDI.out (by omega) (by omega)).mono ?_
      rintro e w1 ⟨p, vn, ve, rfl, g1, q1, b1⟩
      have HED := hid (fun x (hx : x ∈ l) => edge_in (nd := nd) hx)
      have HOK := hid (gN_ok nd (gE_ok l))
      have hL1 := gE_len l
      have hL2 := gN_len (gE l).1 nd
      rw [HN.out] at hL1
      rw [HM.out] at hL2
      obtain ⟨an, cn, rfl, -⟩ := Sl.ex q1.n
      obtain ⟨ae, ce, rfl, -⟩ := Sl.ex q1.e
      generalize gN (gE l).1 nd = N at *
      generalize (gE l).2 = E at *
      have hN9 : N.length ≤ 200 := by omega
      have hE9 : E.length ≤ 40 := by omega
      have z1 : w0.heap.size ≤ w1.heap.size := b1.size
      have B2 := hid ((B0.out.trans (b1.mono z0)).alloc (by omega) (.cells #[.slice an N.length cn, .slice ae E.length ce] 63))
      have G2 := hid ((g1.below ((Below.refl w1.heap.size w1).alloc (Nat.le_refl _) (.cells #[.slice an N.length cn, .slice ae E.length ce] 63)) (Nat.le_refl _)).raise (hi' := (w1.alloc (.cells #[.slice an N.length cn, .slice ae E.length ce] 63)).heap.size) (by simp))
      have HDN := hid g1.domN
      clear g1 q1 b1 hL1 hL2 B0
      generalize hnl : N.length = nl at *
      generalize hel : E.length = el at *
      have HNL := hid hnl
      clear hnl
      have hel' : E.length ≤ 40 := by omega
      have hnl' : N.length ≤ 200 := by rw [HNL.out]; omega
      obtain ⟨w2, hw2⟩ : ∃ w2, w2 = w1.alloc (.cells #[.slice an nl cn, .slice ae el ce] 63) := ⟨_, rfl⟩
      rw [← hw2] at G2 B2
      have z2 : w1.heap.size ≤ w2.heap.size := by rw [hw2, World.size_alloc]; omega
      have HW2 := hid hw2
      clear hw2 hel
      go_wp2_with fail
      rw [← HW2.out]
      refine (gr_topo G2.out (Nat.le_refl _) (by omega) (by omega)).mono ?_
      rintro e w3 ⟨v3, o, rfl, h3, ho, b3⟩
      have HTS := hid (topo_some (P := prs E) HOK.out.srtN (fun a b h => (HOK.out.pair h).1))
      have HO := hid (show o = topoF (prs E) N from ho)
      rw [← ho] at HTS
      obtain ⟨ord, hord⟩ : ∃ ord, ord = o.isSome := ⟨_, rfl⟩
      obtain ⟨L, hL⟩ : ∃ L, L = o.getD [] := ⟨_, rfl⟩
      rw [← hord] at HTS ⊢
      rw [← hL] at h3
      have HORD := hid hord
      have HL := hid hL
      clear hord hL ho
      obtain ⟨a3, c3, rfl, hm3⟩ := h3.sl.ex
      generalize hLn : L.length = ln at *
      have HLN := hid hLn
      have L3 := hid (show Sl w3 w3.heap.size 1 (.slice a3 ln c3) ln (L.flatMap intC) by rw [← hLn]; rw [← hLn] at h3; exact h3.sl)
      have G3 := hid (G2.out.below b3 (Nat.le_refl _))
      have B3 := hid (B2.out.trans (b3.mono B2.out.size))
      have z3 : w2.heap.size ≤ w3.heap.size := b3.size
      clear h3 b3 G2 B2 HW2 hLn
      go_wp2_with fail
      refine (gr_cycle (G3.out.raise z3) (Nat.le_refl _) (by omega) (by omega)).mono ?_
      rintro e w4 ⟨v4, c, rfl, h4, hc, b4⟩
      obtain ⟨a4, c4, rfl, hm4⟩ := h4.sl.ex
      have HCY := hid hc.nil_iff
      have L4 := hid (L3.out.below b4)
      have G4 := hid (G3.out.below b4 z3)
      have B4 := hid (B3.out.trans (b4.mono B3.out.size))
      have z4 : w3.heap.size ≤ w4.heap.size := b4.size
      clear h4 b4 hc L3 G3 B3
      generalize hcn : c.length = cn4 at *
      have HC0 := hid (show c = [] ↔ cn4 = 0 by rw [← hcn]; exact List.length_eq_zero_iff.symm)
      clear hcn
      go_wp2_with fail
      refine (gr_parts (G4.out.raise (Nat.le_trans z3 z4)) (Nat.le_refl _) (by omega) (by omega)).mono ?_
      rintro e w5 ⟨v5, vs, Q, rfl, h5, hL5, hQ, b5⟩
      obtain ⟨a5, c5, rfl, hm5⟩ := h5.sl.ex
      generalize hvn : vs.length = qn at *
      have HVN := hid hvn
      have HQN : Hid (Q.length = qn) := hid (by rw [← hvn, hL5.1])
      have HV := hid h5
      have HLS := hid hL5
      have HQ := hid hQ
      have L5 := hid (show Sl w5 w5.heap.size 1 (.slice a3 ln c3) ln (L.flatMap intC) from (L4.out.below (b5.mono z4)).more (Nat.le_trans z4 b5.size))
      have G5 := hid ((G4.out.below b5 (Nat.le_trans z3 z4)).raise (hi' := w5.heap.size) (Nat.le_trans (Nat.le_trans z3 z4) b5.size))
      have B5 := hid (B4.out.trans (b5.mono B4.out.size))
      have z5 : w.heap.size ≤ w5.heap.size := B5.out.size
      clear h5 hL5 hQ b5 L4 G4 B4 hvn z4 z3 z2 z1
      go_wp2_with fail
      go_loopw [12, 13] (fun s i wr => ∃ j : Nat, j ≤ qn ∧ i = .int .i64 j ∧ s = .bool ((Q.take j).all (oneB E)) ∧ Below w5.heap.size w5 wr) (fun _ i _ => qn - (intOf i).toNat)
      case atStart => exact ⟨0, by omega, by go_num, by simp, Below.refl _ _⟩
      case round =>
        obtain ⟨j, hj, rfl, rfl, hB6⟩ := hrel
        have B6 := hid hB6
        have z6 : w5.heap.size ≤ wr.heap.size := hB6.size
        clear hB6
        by_cases hlt : j < qn
        · obtain ⟨q, hq⟩ : ∃ q, Q[j]? = some q := ⟨_, List.getElem?_eq_getElem (by rw [HQN.out]; exact hlt)⟩
          obtain ⟨u, hu⟩ : ∃ u, vs[j]? = some u := ⟨_, List.getElem?_eq_getElem (by rw [HVN.out]; exact hlt)⟩
          have hT : (Q.take (j + 1)).all (oneB E) = ((Q.take j).all (oneB E) && oneB E q) := by rw [List.take_add_one, hq]; simp
          have HT := hid hT
          have hlu := (HLS.out.2 j u q hu hq).keep (Keep.of_below B6.out)
          obtain ⟨g, rfl, hg, hq9, hcell⟩ := hlu.one
          obtain ⟨gv, rfl, hgv, cv⟩ := OwnV.val (OwnF.below HV.out B6.out) HVN.out hu
          have HQE := hid (parts_mem (show q ∈ partsF (prs E) N by rw [← HQ.out]; exact List.mem_of_getElem? hq))
          have HC := hid hcell
          clear hT hlu hcell hu hq
          cases hs : (Q.take j).all (oneB E) with
          | false =>
            go_wp2
            refine wp_region_x [0, 0, 0, 0, 0, 1, 0, 0, 0, 0, 0, 0, 0, 0, 1, 0, 1, 0, 0, 0, 1, 0, 1, 2, 0, 0, 0, 0] [0, 1, 2, 3, 4, 5, 6, 7, 8, 9, 10, 11, 12, 13, 14, 15, 16, 17, 18, 19, 20, 21, 22, 23, 24, 25, 26, 27] (by kernel_rfl) (by kernel_rfl) rfl (by kernel_rfl) ?_
            simp only [selX, guardAt, List.getElem?_cons_zero, List.getElem?_cons_succ, List.getD_cons_zero, List.getD_cons_succ, Option.bind_some]
            repeat (first
              | (refine wpL_p (fun K hK => ?_); go_simp; refine hK _ _ ?_; clear hK K)
              | (refine wpL_r (fun K hK => ?_); apply Exists.intro; refine ⟨fun w2 hw2 => ?_, hK _ _ ?_⟩; (have hk1 := hw2.cell; have hk3 := hw2.heap; clear hw2; go_simp; with_reducible rfl); clear hK K; simp only [Act.put, List.setIfInBounds_toArray, List.set_cons_zero, List.set_cons_succ])
              | (refine wpL_yes rfl rfl ?_)
              | (refine wpL_no rfl rfl (fun K hK => ?_); simp only [Act.put, List.setIfInBounds_toArray, List.set_cons_zero, List.set_cons_succ]; refine hK _ _ ?_; clear hK K)
              | (refine wpL_nil ?_))
            go_wp2_with fail
            go_roundw
            case rel => exact ⟨j + 1, by omega, by go_num, by rw [HT.out, hs]; rfl, B6.out.drew⟩
            case measure => simp [intOf]; omega
          | true =>
            by_cases hql : q.length = 1
            · obtain ⟨z, rfl⟩ := List.length_eq_one_iff.1 hql
              have cz : wr.cell? ⟨g, 0, none⟩ = some (.int .i64 z) := HC.out 0 z rfl
              have hzN : z ∈ N := by
                obtain ⟨a, ha, e⟩ := HQE.out
                have : z ∈ partOf (prs E) N a := by rw [← e]; simp
                exact (mem_partOf.1 this).1
              have hdz := HDN.out z hzN
              clear hzN HQE HC hql
              simp only [List.length_singleton] at cv ⊢
              go_wp2
              refine wp_region_x [0, 0, 0, 0, 0, 1, 0, 0, 0, 0, 0, 0, 0, 0, 1, 0, 1, 0, 0, 0, 1, 0, 1, 2, 0, 0, 0, 0] [0, 1, 2, 3, 4, 5, 6, 7, 8, 9, 10, 11, 12, 13, 14, 15, 16, 17, 18, 19, 20, 21, 22, 23, 24, 25, 26, 27] (by kernel_rfl) (by kernel_rfl) rfl (by kernel_rfl) ?_
              simp only [selX, guardAt, List.getElem?_cons_zero, List.getElem?_cons_succ, List.getD_cons_zero, List.getD_cons_succ, Option.bind_some]
              repeat (first
                | (refine wpL_p (fun K hK => ?_); go_simp; refine hK _ _ ?_; clear hK K)
                | (refine wpL_r (fun K hK => ?_); apply Exists.intro; refine ⟨fun w2 hw2 => ?_, hK _ _ ?_⟩; (have hk1 := hw2.cell; have hk3 := hw2.heap; clear hw2; go_simp; with_reducible rfl); clear hK K; simp only [Act.put, List.setIfInBounds_toArray, List.set_cons_zero, List.set_cons_succ])
                | (refine wpL_yes rfl rfl ?_)
                | (refine wpL_no rfl rfl (fun K hK => ?_); simp only [Act.put, List.setIfInBounds_toArray, List.set_cons_zero, List.set_cons_succ]; refine hK _ _ ?_; clear hK K)
                | (refine wpL_nil ?_))
              refine wpL_e (fun K hK => ?_)
              go_simp
              refine (gr_kinds (G5.out.below B6.out.drew (Nat.le_refl _)) (by omega) z z hdz hdz).mono ?_
              rintro e w7 ⟨v7, rfl, h7, b7⟩
              refine hK _ _ ?_
              clear hK K
              obtain ⟨a7, k7, rfl, hm7⟩ := h7.sl.ex
              have B7 := hid (B6.out.drew.trans (b7.mono z6))
              have HR := hid (show oneB E [z] = ((kindsOf E z z).length == 0) by simp [oneB])
              clear h7 b7
              generalize (kindsOf E z z).length = r at *
              have hre : ((r : Int) == 0) = (r == 0) := by cases r <;> rfl
              repeat (first
                | (refine wpL_p (fun K hK => ?_); go_simp; refine hK _ _ ?_; clear hK K)
                | (refine wpL_r (fun K hK => ?_); apply Exists.intro; refine ⟨fun w2 hw2 => ?_, hK _ _ ?_⟩; (have hk1 := hw2.cell; have hk3 := hw2.heap; clear hw2; go_simp; with_reducible rfl); clear hK K; simp only [Act.put, List.setIfInBounds_toArray, List.set_cons_zero, List.set_cons_succ])
                | (refine wpL_yes rfl rfl ?_)
                | (refine wpL_no rfl rfl (fun K hK => ?_); simp only [Act.put, List.setIfInBounds_toArray, List.set_cons_zero, List.set_cons_succ]; refine hK _ _ ?_; clear hK K)
                | (refine wpL_nil ?_))
              go_wp2_with fail
              go_roundw
              case rel => exact ⟨j + 1, by omega, by go_num, by rw [HT.out, hs, HR.out]; simp [hre], B7.out⟩
              case measure => simp [intOf]; omega
            · have hb1 : ((q.length : Int) == 1) = false := by simp; omega
              have HR := hid (show oneB E q = false by unfold oneB; simp [hql])
              go_wp2
              refine wp_region_x [0, 0, 0, 0, 0, 1, 0, 0, 0, 0, 0, 0, 0, 0, 1, 0, 1, 0, 0, 0, 1, 0, 1, 2, 0, 0, 0, 0] [0, 1, 2, 3, 4, 5, 6, 7, 8, 9, 10, 11, 12, 13, 14, 15, 16, 17, 18, 19, 20, 21, 22, 23, 24, 25, 26, 27] (by kernel_rfl) (by kernel_rfl) rfl (by kernel_rfl) ?_
              simp only [selX, guardAt, List.getElem?_cons_zero, List.getElem?_cons_succ, List.getD_cons_zero, List.getD_cons_succ, Option.bind_some]
              repeat (first
                | (refine wpL_p (fun K hK => ?_); go_simp; refine hK _ _ ?_; clear hK K)
                | (refine wpL_r (fun K hK => ?_); apply Exists.intro; refine ⟨fun w2 hw2 => ?_, hK _ _ ?_⟩; (have hk1 := hw2.cell; have hk3 := hw2.heap; clear hw2; go_simp; with_reducible rfl); clear hK K; simp only [Act.put, List.setIfInBounds_toArray, List.set_cons_zero, List.set_cons_succ])
                | (refine wpL_yes rfl rfl ?_)
                | (refine wpL_no rfl rfl (fun K hK => ?_); simp only [Act.put, List.setIfInBounds_toArray, List.set_cons_zero, List.set_cons_succ]; refine hK _ _ ?_; clear hK K)
                | (refine wpL_nil ?_))
              go_wp2_with fail
              go_roundw
              case rel => exact ⟨j + 1, by omega, by go_num, by rw [HT.out, hs, HR.out]; rfl, B6.out.drew⟩
              case measure => simp [intOf]; omega
        · obtain rfl : j = qn := by omega
          have HSG := hid (show (Q.take j).all (oneB E) = true ↔ ∀ k ∈ N, ¬ Tc (prs E) k k by rw [← HQN.out, List.take_length, HQ.out]; exact single_iff HOK.out)
          generalize (Q.take j).all (oneB E) = sg at *
          by_cases hcyc : ∀ k ∈ N, ¬ Tc (prs E) k k
          · have hs1 : sg = true := HSG.out.2 hcyc
            have hs2 : ord = true := HTS.out.2 hcyc
            have hs3 : cn4 = 0 := HC0.out.1 (HCY.out.2 hcyc)
            subst hs1 hs2 hs3
            obtain ⟨lo, rfl⟩ : ∃ lo, o = some lo := Option.isSome_iff_exists.1 HORD.out.symm
            have HLO : Hid (L = lo) := hid (by rw [HL.out]; rfl)
            have HTI := hid (topoF_is HO.out.symm)
            rw [← HLO.out] at HTI
            have hln : ln = nl := by rw [← HLN.out, HTI.out.1, HNL.out]
            subst hln
            clear hcyc HSG HTS HCY HORD HC0 HL HO HLO HV HLS HQ HQN HVN
            go_wp2_with fail
            refine (gr_nodes (G5.out.below B6.out (Nat.le_refl _)) (by omega)).mono ?_
            rintro e w7 ⟨v7, rfl, h7, b7⟩
            obtain ⟨a7, c7, rfl, hm7⟩ := h7.sl.ex
            rw [HNL.out] at hm7 ⊢
            have A7 := hid (show Sl w7 w7.heap.size 1 (.slice a7 ln c7) ln (N.flatMap intC) by have := h7.sl; rw [HNL.out] at this; exact this)
            have b57 := B6.out.trans (b7.mono z6)
            have z7 : w5.heap.size ≤ w7.heap.size := b57.size
            have L7 := hid ((L5.out.below b57).more z7)
            have G7 := hid ((G5.out.below b57 (Nat.le_refl _)).raise (hi' := w7.heap.size) z7)
            have B7 := hid (B5.out.trans (b57.mono z5))
            have z77 : w.heap.size ≤ w7.heap.size := B7.out.size
            clear h7 b7 b57 B6 L5 G5 B5 z6 z7 z5
            have hll : L.length = ln := HLN.out
            have hnn : N.length = ln := HNL.out
            go_wp2_with fail
            go_loopw [15] (fun i wr => ∃ j : Nat, j ≤ ln ∧ i = .int .i64 j ∧ Below w7.heap.size w7 wr) (fun i _ => ln - (intOf i).toNat)
            case atStart => exact ⟨0, by omega, by go_num, Below.refl _ _⟩
            case round =>
              obtain ⟨j, hj, rfl, hB8⟩ := hrel
              have B8 := hid hB8
              have z8 := hB8.size
              clear hB8
              by_cases hlt : j < ln
              · obtain ⟨b, off, x, rfl, hb, hx, c1⟩ := (A7.out.below B8.out).ints hlt hnn
                have hxL := HTI.out.all x (List.mem_of_getElem? hx)
                clear hx
                go_wp2_with fail
                refine (gr_place (l := L) (LI.ofN hll (L7.out.below B8.out) z8) x).mono ?_
                rintro e w9 ⟨z, rfl, hz, rfl⟩
                have hz0 := hz.pos.2 hxL
                have hzl := hz.low (by omega)
                clear hz hxL
                go_wp2_with fail
                go_loopw [16] (fun i wr => ∃ k : Nat, k ≤ j ∧ i = .int .i64 k ∧ Below w7.heap.size w7 wr) (fun i _ => j - (intOf i).toNat)
                case atStart => exact ⟨0, by omega, by go_num, B8.out⟩
                case round =>
                  obtain ⟨k, hk, rfl, hB9⟩ := hrel
                  have B9 := hid hB9
                  have z9 := hB9.size
                  clear hB9 c1
                  by_cases hkj : k < j
                  · obtain ⟨b3, off3, x3, e3, hb3, hx3, d1⟩ := (L7.out.below B9.out).ints (k := k) (by omega) hll
                    obtain ⟨b4, off4, x4, e4, hb4, hx4, d2⟩ := (L7.out.below B9.out).ints (k := j) hlt hll
                    subst e3
                    simp only [Option.some.injEq, Addr.mk.injEq, and_true] at e4
                    obtain ⟨rfl, rfl⟩ := e4
                    have hkn : k < ln := by omega
                    by_cases hgt : x4 < x3
                    · have HH := hid (HTI.out.held HOK.out.srtN hkj hx3 hx4 hgt)
                      have HX4 := hid hx4
                      clear hx3 hx4
                      go_wp2
                      refine wp_region_x [0, 0, 0, 1, 0, 0, 0, 1, 0, 0, 0, 0, 0, 0, 2, 0, 0] [0, 1, 2, 3, 4, 5, 6, 7, 8, 9, 10, 11, 12, 13, 14, 15, 16] (by kernel_rfl) (by kernel_rfl) rfl (by kernel_rfl) ?_
                      simp only [selX, guardAt, List.getElem?_cons_zero, List.getElem?_cons_succ, List.getD_cons_zero, List.getD_cons_succ, Option.bind_some]
                      repeat (first
                        | (refine wpL_p (fun K hK => ?_); go_simp; refine hK _ _ ?_; clear hK K)
                        | (refine wpL_r (fun K hK => ?_); apply Exists.intro; refine ⟨fun w2 hw2 => ?_, hK _ _ ?_⟩; (have hk1 := hw2.cell; have hk3 := hw2.heap; clear hw2; go_simp; with_reducible rfl); clear hK K; simp only [Act.put, List.setIfInBounds_toArray, List.set_cons_zero, List.set_cons_succ])
                        | (refine wpL_yes rfl rfl ?_)
                        | (refine wpL_no rfl rfl (fun K hK => ?_); simp only [Act.put, List.setIfInBounds_toArray, List.set_cons_zero, List.set_cons_succ]; refine hK _ _ ?_; clear hK K)
                        | (refine wpL_nil ?_))
                      refine wpL_e (fun K hK => ?_)
                      go_simp
                      refine (gr_held (l := L) (G7.out.below B9.out.drew (Nat.le_refl _)) z9 (by omega) (LI.ofN hll (L7.out.below B9.out.drew) z9) (fun x hx => HDN.out x (HTI.out.sub x hx)) (by omega) (by
                        obtain ⟨q, y, h1, h2, h3, h4⟩ := HH.out
                        exact ⟨q, y, x4, h1, h2, h3, HX4.out, h4⟩)).mono ?_
                      rintro e wA ⟨rfl, bA⟩
                      refine hK _ _ ?_
                      clear hK K
                      have BA := hid (B9.out.drew.trans (bA.mono z9))
                      clear bA
                      repeat (first
                        | (refine wpL_p (fun K hK => ?_); go_simp; refine hK _ _ ?_; clear hK K)
                        | (refine wpL_r (fun K hK => ?_); apply Exists.intro; refine ⟨fun w2 hw2 => ?_, hK _ _ ?_⟩; (have hk1 := hw2.cell; have hk3 := hw2.heap; clear hw2; go_simp; with_reducible rfl); clear hK K; simp only [Act.put, List.setIfInBounds_toArray, List.set_cons_zero, List.set_cons_succ])
                        | (refine wpL_yes rfl rfl ?_)
                        | (refine wpL_no rfl rfl (fun K hK => ?_); simp only [Act.put, List.setIfInBounds_toArray, List.set_cons_zero, List.set_cons_succ]; refine hK _ _ ?_; clear hK K)
                        | (refine wpL_nil ?_))
                      go_wp2_with fail
                      go_roundw
                      case rel => exact ⟨k + 1, by omega, by go_num, BA.out⟩
                      case measure => simp [intOf]; omega
                    · have hgt2 : decide (x4 < x3) = false := by simpa using hgt
                      clear hx3 hx4
                      go_wp2
                      refine wp_region_x [0, 0, 0, 1, 0, 0, 0, 1, 0, 0, 0, 0, 0, 0, 2, 0, 0] [0, 1, 2, 3, 4, 5, 6, 7, 8, 9, 10, 11, 12, 13, 14, 15, 16] (by kernel_rfl) (by kernel_rfl) rfl (by kernel_rfl) ?_
                      simp only [selX, guardAt, List.getElem?_cons_zero, List.getElem?_cons_succ, List.getD_cons_zero, List.getD_cons_succ, Option.bind_some]
                      repeat (first
                        | (refine wpL_p (fun K hK => ?_); go_simp; refine hK _ _ ?_; clear hK K)
                        | (refine wpL_r (fun K hK => ?_); apply Exists.intro; refine ⟨fun w2 hw2 => ?_, hK _ _ ?_⟩; (have hk1 := hw2.cell; have hk3 := hw2.heap; clear hw2; go_simp; with_reducible rfl); clear hK K; simp only [Act.put, List.setIfInBounds_toArray, List.set_cons_zero, List.set_cons_succ])
                        | (refine wpL_yes rfl rfl ?_)
                        | (refine wpL_no rfl rfl (fun K hK => ?_); simp only [Act.put, List.setIfInBounds_toArray, List.set_cons_zero, List.set_cons_succ]; refine hK _ _ ?_; clear hK K)
                        | (refine wpL_nil ?_))
                      go_wp2_with fail
                      go_roundw
                      case rel => exact ⟨k + 1, by omega, by go_num, B9.out.drew⟩
                      case measure => simp [intOf]; omega
                  · obtain rfl : k = j := by omega
                    go_wp2_with fail
                    go_roundw
                    case rel => exact ⟨k + 1, by omega, by go_num, B9.out⟩
                    case measure => simp [intOf]; omega
              · obtain rfl : j = ln := by omega
                go_wp2_with fail
                go_loopw [17] (fun i wr => ∃ q : Nat, q ≤ n ∧ i = .int .i64 q ∧ Below w7.heap.size w7 wr) (fun i _ => n - (intOf i).toNat)
                case atStart => exact ⟨0, by omega, by go_num, B8.out⟩
                case round =>
                  obtain ⟨q, hq, rfl, hB9⟩ := hrel
                  have B9 := hid hB9
                  have z9 := hB9.size
                  clear hB9
                  by_cases hlt : q < n
                  · have hBq : Below B w wr := (B7.out.mono hB).trans (B9.out.mono (by omega))
                    obtain ⟨b, off, x, rfl, hb, hx, c1, c2, c3⟩ := (H.out.below hBq).trs hlt HN.out
                    have HE := hid (HED.out x (List.mem_of_getElem? hx))
                    clear hx hBq
                    go_wp2
                    refine wp_region_x [0, 0, 0, 0, 0, 1, 3, 0, 0, 0, 0, 0, 1, 2, 0] [0, 1, 2, 3, 4, 5, 7, 8, 9, 10, 11, 12, 6, 13, 14] (by kernel_rfl) (by kernel_rfl) rfl (by kernel_rfl) ?_
                    simp only [selX, guardAt, List.getElem?_cons_zero, List.getElem?_cons_succ, List.getD_cons_zero, List.getD_cons_succ]
                    repeat (first
                      | (refine wpL_p (fun K hK => ?_); go_simp; refine hK _ _ ?_; clear hK K)
                      | (refine wpL_r (fun K hK => ?_); apply Exists.intro; refine ⟨fun w2 hw2 => ?_, hK _ _ ?_⟩; (have hk1 := hw2.cell; have hk3 := hw2.heap; clear hw2; go_simp; with_reducible rfl); clear hK K; simp only [Act.put, List.setIfInBounds_toArray, List.set_cons_zero, List.set_cons_succ])
                      | (refine wpL_yes rfl rfl ?_)
                      | (refine wpL_no rfl rfl (fun K hK => ?_); simp only [Act.put, List.setIfInBounds_toArray, List.set_cons_zero, List.set_cons_succ]; refine hK _ _ ?_; clear hK K)
                      | (refine wpL_nil ?_))
                    refine wpL_k (fun K hK => ?_)
                    go_simp
                    refine (gr_place (l := L) (LI.ofN hll (L7.out.below B9.out.drew) z9) x.1).mono ?_
                    rintro e wA ⟨zy, rfl, hzy, rfl⟩
                    refine hK _ _ (Keeps.refl _) ?_
                    clear hK K
                    repeat (first
                      | (refine wpL_p (fun K hK => ?_); go_simp; refine hK _ _ ?_; clear hK K)
                      | (refine wpL_r (fun K hK => ?_); apply Exists.intro; refine ⟨fun w2 hw2 => ?_, hK _ _ ?_⟩; (have hk1 := hw2.cell; have hk3 := hw2.heap; clear hw2; go_simp; with_reducible rfl); clear hK K; simp only [Act.put, List.setIfInBounds_toArray, List.set_cons_zero, List.set_cons_succ])
                      | (refine wpL_yes rfl rfl ?_)
                      | (refine wpL_no rfl rfl (fun K hK => ?_); simp only [Act.put, List.setIfInBounds_toArray, List.set_cons_zero, List.set_cons_succ]; refine hK _ _ ?_; clear hK K)
                      | (refine wpL_nil ?_))
                    refine wpL_e (fun K hK => ?_)
                    go_simp
                    refine (gr_place (l := L) (LI.ofN hll (L7.out.below B9.out.drew) z9) x.2.1).mono ?_
                    rintro e wA ⟨zz, rfl, hzz, rfl⟩
                    refine hK _ _ ?_
                    clear hK K
                    have hlead := HTI.out.plc HE.out.2.1 HE.out.2.2 HE.out.1 hzy hzz
                    have hzyl := hzy.low (by omega)
                    have hzzl := hzz.low (by omega)
                    clear hzy hzz c1 c2 c3
                    repeat (first
                      | (refine wpL_p (fun K hK => ?_); go_simp; refine hK _ _ ?_; clear hK K)
                      | (refine wpL_r (fun K hK => ?_); apply Exists.intro; refine ⟨fun w2 hw2 => ?_, hK _ _ ?_⟩; (have hk1 := hw2.cell; have hk3 := hw2.heap; clear hw2; go_simp; with_reducible rfl); clear hK K; simp only [Act.put, List.setIfInBounds_toArray, List.set_cons_zero, List.set_cons_succ])
                      | (refine wpL_yes rfl rfl ?_)
                      | (refine wpL_no rfl rfl (fun K hK => ?_); simp only [Act.put, List.setIfInBounds_toArray, List.set_cons_zero, List.set_cons_succ]; refine hK _ _ ?_; clear hK K)
                      | (refine wpL_nil ?_))
                    go_wp2_with fail
                    go_roundw
                    case rel => exact ⟨q + 1, by omega, by go_num, B9.out.drew⟩
                    case measure => simp [intOf]; omega
                  · obtain rfl : q = n := by omega
                    go_wp2
                    go_ret
                    exact ⟨rfl, B7.out.trans (B9.out.mono z77)⟩
          · have hs1 : sg = false := by rw [← Bool.not_eq_true]; exact fun h => hcyc (HSG.out.1 h)
            have hs2 : ord = false := by rw [← Bool.not_eq_true]; exact fun h => hcyc (HTS.out.1 h)
            have hs3 : cn4 ≠ 0 := fun h => hcyc (HCY.out.1 (HC0.out.2 h))
            have hs4 : ((cn4 : Int) == 0) = false := by simp; omega
            have ho : o = none := by
              have := HORD.out
              rw [hs2] at this
              exact Option.isSome_eq_false_iff.1 this.symm |> Option.isNone_iff_eq_none.1
            have hl0 : ln = 0 := by rw [← HLN.out, HL.out, ho]; rfl
            subst hs1 hs2 hl0
            go_wp2
            go_ret
            exact ⟨rfl, B5.out.trans (B6.out.mono z5)⟩
    · go_wp2
      go_ret
      exact ⟨rfl, B0.out⟩
  · go_wp2
    go_ret
    exact ⟨rfl, B0.out⟩
end
end Go.Proofs.Ytlmeblhcipkgmaa
