/- The document's closure of a relation. Conditions: those of each theorem, as typed. -/
import Derived.Test.YtlmeblhcipkgmaaRefC
import Derived.IntWalk
namespace Go.Proofs.Ytlmeblhcipkgmaa
open Go.RowKit Go.Maps
attribute [local irreducible] wpL

section
variable {w : World} {v : Value}
set_option maxHeartbeats 1000000 in
theorem ref_closure {L : List Pr} (h : LP w v L) (hs : Srt L) (hAr : area L ≤ 1000000) : Calls Try.prog 21 #[v] w fun e w' => ∃ v' C, e = .returned v' ∧ LP w' v' C ∧ IsClo L C ∧ Below w.heap.size w w' := by
  obtain ⟨C, hC⟩ := exists_clo L
  have hCl : C.length ≤ 1000000 := Nat.le_trans (clo_le hC) hAr
  have hL : L.length ≤ 1000000 := Nat.le_trans (length_le_area hs) hAr
  obtain ⟨al, cl, n, rfl, hn, hm, h⟩ := LP.open h
  have H := hid h
  have HN := hid hn
  have HS := hid hs
  have HC := hid hC
  have hL2 : n ≤ 1000000 := by omega
  clear hn hs hC h hAr
  go_enter Try.func21, Try.ntmps21
  go_wp2_with fail
  go_loopw [3, 4] (fun v i wr => ∃ k : Nat, k ≤ n ∧ i = .int .i64 k ∧ OwnD wr w.heap.size v (cloUp L C k) ∧ Below w.heap.size w wr) (fun _ i _ => n - (intOf i).toNat)
  case atStart =>
    have e0 : cloUp L C 0 = [] := cloUp_zero L C
    refine ⟨0, ?_, ?_, ?_, ?_⟩
    · omega
    · go_num
    · rw [e0]; exact OwnF.nil _ _
    · exact Below.refl _ _
  case round =>
    obtain ⟨k, hk, rfl, hO, hB⟩ := hrel
    obtain ⟨ao, co, rfl, -⟩ := hO.sl.ex
    have hAl := cloUp_le (L := L) (C := C) k
    generalize hA : cloUp L C k = A at *
    have HA := hid hA
    have HO := hid hO
    have HB := hid hB
    have hz := hB.size
    clear hO hB hA
    by_cases hlt : k < n
    · obtain ⟨b, off, y, rfl, hb, hx, c1, c2⟩ := (H.out.below HB.out).pairs hlt HN.out
      have HX := hid hx
      clear hx
      cases k with
      | zero =>
        have HNEW := hid (cloUp_new HS.out HC.out.srt HX.out fun _ _ h => by omega)
        simp only [Nat.zero_mul, Nat.add_zero] at c1 c2
        go_wp2
        refine wp_region_x [0, 0, 0, 0, 0, 0, 0, 1, 0, 0, 0, 0, 0, 1, 0, 0] [0, 1, 2, 3, 4, 5, 6, 7, 8, 9, 10, 11, 12, 13, 14, 15] (by kernel_rfl) (by kernel_rfl) rfl (by kernel_rfl) ?_
        simp only [selX, guardAt, List.getElem?_cons_zero, List.getElem?_cons_succ, List.getD_cons_zero, List.getD_cons_succ, Option.bind_some]
        repeat (first
          | (refine wpL_p (fun K hK => ?_); go_simp; refine hK _ _ ?_; clear hK K)
          | (refine wpL_r (fun K hK => ?_); apply Exists.intro; refine ⟨fun w2 hw2 => ?_, hK _ _ ?_⟩; (have hk1 := hw2.cell; have hk3 := hw2.heap; clear hw2; go_simp; with_reducible rfl); clear hK K; simp only [Act.put, List.setIfInBounds_toArray, List.set_cons_zero, List.set_cons_succ])
          | (refine wpL_yes rfl rfl ?_)
          | (refine wpL_no rfl rfl (fun K hK => ?_); simp only [Act.put, List.setIfInBounds_toArray, List.set_cons_zero, List.set_cons_succ]; refine hK _ _ ?_; clear hK K)
          | (refine wpL_nil ?_))
        go_wp2_with fail
        have HLP : LP wr.drew (.slice (some ⟨b, off, none⟩) n cl) L := LP.of ((H.out.below HB.out.drew).more HB.out.size) HN.out
        refine (ref_reach HLP hL y.1).mono ?_
        rintro e w2 ⟨v2, R, rfl, h2, hr, b2⟩
        obtain rfl := hr.row HC.out
        have hRl := length_row C y.1
        generalize hRR : row C y.1 = R at *
        have HRR := hid hRR
        obtain ⟨a2, c2', rfl, -⟩ := h2.sl.ex
        have hdj : ∀ q, (Value.slice a2 R.length c2').ownBlock = some q → (Value.slice ao A.length co).ownBlock ≠ some q := fun q h3 h4 => by
          have := (h2.lt q h3).1
          have := (HO.out.lt q h4).2
          have e9 : wr.drew.heap.size = wr.heap.size := rfl
          omega
        have HO2 := hid (HO.out.drew.below b2)
        have H2 := hid h2
        have HD2 := hid hdj
        have B2 := hid (HB.out.drew.trans (b2.mono HB.out.drew.size))
        have hz2 : w.heap.size ≤ w2.heap.size := B2.out.size
        clear h2 hdj b2 hr hRR HO HB
        generalize hq : R.length = q at *
        have HQ := hid hq
        clear hq
        go_wp2_with fail
        go_loopw [3, 6] (fun v i wq => ∃ j : Nat, j ≤ q ∧ i = .int .i64 j ∧ OwnD wq w.heap.size v (A ++ (R.take j).map fun b => (y.1, b)) ∧ OwnI wq w.heap.size (.slice a2 q c2') R ∧ (∀ q', (Value.slice a2 q c2').ownBlock = some q' → v.ownBlock ≠ some q') ∧ Below w.heap.size w wq) (fun _ i _ => q - (intOf i).toNat)
        case atStart => exact ⟨0, by omega, by go_num, by simpa using HO2.out, H2.out.base hz, HD2.out, B2.out⟩
        case round =>
          obtain ⟨j, hj, rfl, hO, hR, hD, hB⟩ := hrel
          obtain ⟨aq, cq, rfl, -⟩ := hO.sl.ex
          generalize hAq : A ++ (R.take j).map (fun b => (y.1, b)) = Aq at *
          have HA2 := hid hAq
          clear hAq
          have HO := hid hO
          have HR2 := hid hR
          have HD := hid hD
          have HB := hid hB
          have hz := hB.size
          clear hO hR hD hB HO2 H2 HD2 B2
          by_cases hlj : j < q
          · obtain ⟨g2, z, rfl, -, hg2, hy2, hcy⟩ := OwnI.at HR2.out HQ.out hlj
            obtain ⟨b5, o5, y5, e5, hb5, hx5, c5, c6⟩ := (H.out.below HB.out).pairs hlt HN.out
            rw [HX.out] at hx5
            cases hx5
            simp only [Nat.zero_mul, Nat.add_zero] at c5 c6
            first | (subst e5) | (simp only [Option.some.injEq, Addr.mk.injEq, and_true] at e5; obtain ⟨rfl, rfl⟩ := e5)
            have hla : Aq.length ≤ 3000000 := by
              rw [← HA2.out, List.length_append, List.length_map, List.length_take]
              omega
            have HT := hid (take_pairs (a := y.1) hy2)
            clear hy2
            go_wp2
            refine wp_region_x [0, 0, 0, 0, 0, 1, 0, 0, 0, 1, 0, 3, 2, 0] [0, 1, 2, 3, 4, 5, 6, 7, 8, 9, 10, 11, 12, 13] (by kernel_rfl) (by kernel_rfl) rfl (by kernel_rfl) ?_
            simp only [selX, guardAt, List.getElem?_cons_zero, List.getElem?_cons_succ, List.getD_cons_zero, List.getD_cons_succ]
            repeat (first
              | (refine wpL_p (fun K hK => ?_); go_simp; refine hK _ _ ?_; clear hK K)
              | (refine wpL_r (fun K hK => ?_); apply Exists.intro; refine ⟨fun w2 hw2 => ?_, hK _ _ ?_⟩; (have hk1 := hw2.cell; have hk3 := hw2.heap; clear hw2; go_simp; with_reducible rfl); clear hK K; simp only [Act.put, List.setIfInBounds_toArray, List.set_cons_zero, List.set_cons_succ])
              | (refine wpL_yes rfl rfl ?_)
              | (refine wpL_no rfl rfl (fun K hK => ?_); simp only [Act.put, List.setIfInBounds_toArray, List.set_cons_zero, List.set_cons_succ]; refine hK _ _ ?_; clear hK K)
              | (refine wpL_nil ?_))
            refine wpL_k (fun K hK => ?_)
            go_simp
            refine hK _ _ (Keeps.alloc _ _) ?_
            clear hK K
            refine wpL_e (fun K hK => ?_)
            rw [drew_alloc]
            refine wp_appF _ _ _ rfl _ 16 Try.underlying26 infoD rfl HO.out.drew (y.1, z) (by first | omega | (simp <;> omega)) (by rfl) (by rfl) (by first | rfl | simp) rfl (pr_one _) (by first | omega | (simp only [List.length_append, List.length_cons, List.length_nil, List.length_replicate]; omega)) (by first | omega | (simp only [List.length_append, List.length_cons, List.length_nil, List.length_replicate]; omega)) ?_
            intro gn cn wn hn Gn
            have HN2 := hid (fun q' (h3 : (Value.slice (some ⟨g2, 0, none⟩) q c2').ownBlock = some q') (h4 : (Value.slice (some ⟨gn, 0, none⟩) (Aq.length + 1) cn).ownBlock = some q') => by
              rcases Gn.own q' h4 with h5 | h5
              · exact HD.out q' h3 h5
              · have := (HR2.out.lt q' h3).2
                have e9 : wr.drew.heap.size = wr.heap.size := rfl
                omega)
            have HR3 := hid (HR2.out.drew.grw Gn HD.out)
            have HO3 := hid hn
            have HB3 := hid (HB.out.drew.trans (Gn.below (by exact hz) fun q h => (HO.out.lt q h).1))
            clear hn Gn hcy
            refine hK _ _ ?_
            clear hK K
            repeat (first
              | (refine wpL_p (fun K hK => ?_); go_simp; refine hK _ _ ?_; clear hK K)
              | (refine wpL_r (fun K hK => ?_); apply Exists.intro; refine ⟨fun w2 hw2 => ?_, hK _ _ ?_⟩; (have hk1 := hw2.cell; have hk3 := hw2.heap; clear hw2; go_simp; with_reducible rfl); clear hK K; simp only [Act.put, List.setIfInBounds_toArray, List.set_cons_zero, List.set_cons_succ])
              | (refine wpL_yes rfl rfl ?_)
              | (refine wpL_no rfl rfl (fun K hK => ?_); simp only [Act.put, List.setIfInBounds_toArray, List.set_cons_zero, List.set_cons_succ]; refine hK _ _ ?_; clear hK K)
              | (refine wpL_nil ?_))
            go_wp2_with fail
            go_roundw
            case rel => exact ⟨j + 1, by omega, by go_num, by rw [HT.out, ← List.append_assoc, HA2.out]; exact HO3.out, HR3.out, HN2.out, HB3.out⟩
            case measure => simp [intOf]; omega
          · obtain rfl : j = q := by omega
            have HE : Hid (A ++ R.map (fun b => (y.1, b)) = Aq) := hid (by rw [← HA2.out, ← HQ.out, List.take_length])
            go_wp2_with fail
            go_roundw
            case rel => exact ⟨0 + 1, by omega, by go_num, by rw [HNEW.out, HA.out, HE.out]; exact HO.out, HB.out⟩
            case measure => simp [intOf]; omega
      | succ k =>
        obtain ⟨b', off', x, e', hb', hx', c1', c2'⟩ := (H.out.below HB.out).pairs (k := k) (by omega) HN.out
        simp only [Option.some.injEq, Addr.mk.injEq, and_true] at e'
        obtain ⟨rfl, rfl⟩ := e'
        have HX' := hid hx'
        clear hx'
        by_cases e : y.1 = x.1
        · have t1 : (y.1 == x.1) = true := by simpa using e
          have HSM := hid (cloUp_same (C := C) HX'.out HX.out e)
          clear e
          have i1 : (0 : Int) ≤ (k : Int) + 1 := by omega
          have i2 : (k : Int) + 1 < (n : Int) := by omega
          have i3 : ((k : Int) + 1).toNat = k + 1 := by omega
          have i4 : IntKind.i64.wrap (k : Int) = (k : Int) := IntWalk.i64_in _ (by omega)
          have i5 : (k : Int) < (n : Int) := by omega
          have i6 : (0 : Int) ≤ (k : Int) := by omega
          have i7 : decide ((0 : Int) < (k : Int) + 1) = true := by rw [decide_eq_true_eq]; omega
          go_wp2
          refine wp_region_x [0, 0, 0, 0, 0, 0, 0, 1, 0, 0, 0, 0, 0, 1, 0, 0] [0, 1, 2, 3, 4, 5, 6, 7, 8, 9, 10, 11, 12, 13, 14, 15] (by kernel_rfl) (by kernel_rfl) rfl (by kernel_rfl) ?_
          simp only [selX, guardAt, List.getElem?_cons_zero, List.getElem?_cons_succ, List.getD_cons_zero, List.getD_cons_succ, Option.bind_some]
          repeat (first
            | (refine wpL_p (fun K hK => ?_); go_simp; refine hK _ _ ?_; clear hK K)
            | (refine wpL_r (fun K hK => ?_); apply Exists.intro; refine ⟨fun w2 hw2 => ?_, hK _ _ ?_⟩; (have hk1 := hw2.cell; have hk3 := hw2.heap; clear hw2; go_simp; with_reducible rfl); clear hK K; simp only [Act.put, List.setIfInBounds_toArray, List.set_cons_zero, List.set_cons_succ])
            | (refine wpL_yes rfl rfl ?_)
            | (refine wpL_no rfl rfl (fun K hK => ?_); simp only [Act.put, List.setIfInBounds_toArray, List.set_cons_zero, List.set_cons_succ]; refine hK _ _ ?_; clear hK K)
            | (refine wpL_nil ?_))
          go_wp2_with fail
          go_roundw
          case rel => exact ⟨k + 1 + 1, by omega, by go_num, by rw [HSM.out, HA.out]; exact HO.out.drew, HB.out.drew⟩
          case measure => simp [intOf]; omega
        · have t1 : (y.1 == x.1) = false := by simpa using e
          have HNEW := hid (cloUp_new HS.out HC.out.srt HX.out (head_new HS.out HX'.out HX.out e))
          clear e
          have i1 : (0 : Int) ≤ (k : Int) + 1 := by omega
          have i2 : (k : Int) + 1 < (n : Int) := by omega
          have i3 : ((k : Int) + 1).toNat = k + 1 := by omega
          have i4 : IntKind.i64.wrap (k : Int) = (k : Int) := IntWalk.i64_in _ (by omega)
          have i5 : (k : Int) < (n : Int) := by omega
          have i6 : (0 : Int) ≤ (k : Int) := by omega
          have i7 : decide ((0 : Int) < (k : Int) + 1) = true := by rw [decide_eq_true_eq]; omega
          go_wp2
          refine wp_region_x [0, 0, 0, 0, 0, 0, 0, 1, 0, 0, 0, 0, 0, 1, 0, 0] [0, 1, 2, 3, 4, 5, 6, 7, 8, 9, 10, 11, 12, 13, 14, 15] (by kernel_rfl) (by kernel_rfl) rfl (by kernel_rfl) ?_
          simp only [selX, guardAt, List.getElem?_cons_zero, List.getElem?_cons_succ, List.getD_cons_zero, List.getD_cons_succ, Option.bind_some]
          repeat (first
            | (refine wpL_p (fun K hK => ?_); go_simp; refine hK _ _ ?_; clear hK K)
            | (refine wpL_r (fun K hK => ?_); apply Exists.intro; refine ⟨fun w2 hw2 => ?_, hK _ _ ?_⟩; (have hk1 := hw2.cell; have hk3 := hw2.heap; clear hw2; go_simp; with_reducible rfl); clear hK K; simp only [Act.put, List.setIfInBounds_toArray, List.set_cons_zero, List.set_cons_succ])
            | (refine wpL_yes rfl rfl ?_)
            | (refine wpL_no rfl rfl (fun K hK => ?_); simp only [Act.put, List.setIfInBounds_toArray, List.set_cons_zero, List.set_cons_succ]; refine hK _ _ ?_; clear hK K)
            | (refine wpL_nil ?_))
          go_wp2_with fail
          have HLP : LP wr.drew (.slice (some ⟨b, off, none⟩) n cl) L := LP.of ((H.out.below HB.out.drew).more HB.out.size) HN.out
          clear c1' c2' t1 i4 i5 i6 i7
          refine (ref_reach HLP hL y.1).mono ?_
          rintro e w2 ⟨v2, R, rfl, h2, hr, b2⟩
          obtain rfl := hr.row HC.out
          have hRl := length_row C y.1
          generalize hRR : row C y.1 = R at *
          have HRR := hid hRR
          obtain ⟨a2, c2', rfl, -⟩ := h2.sl.ex
          have hdj : ∀ q, (Value.slice a2 R.length c2').ownBlock = some q → (Value.slice ao A.length co).ownBlock ≠ some q := fun q h3 h4 => by
            have := (h2.lt q h3).1
            have := (HO.out.lt q h4).2
            have e9 : wr.drew.heap.size = wr.heap.size := rfl
            omega
          have HO2 := hid (HO.out.drew.below b2)
          have H2 := hid h2
          have HD2 := hid hdj
          have B2 := hid (HB.out.drew.trans (b2.mono HB.out.drew.size))
          have hz2 : w.heap.size ≤ w2.heap.size := B2.out.size
          clear h2 hdj b2 hr hRR HO HB
          generalize hq : R.length = q at *
          have HQ := hid hq
          clear hq
          go_wp2_with fail
          go_loopw [3, 6] (fun v i wq => ∃ j : Nat, j ≤ q ∧ i = .int .i64 j ∧ OwnD wq w.heap.size v (A ++ (R.take j).map fun b => (y.1, b)) ∧ OwnI wq w.heap.size (.slice a2 q c2') R ∧ (∀ q', (Value.slice a2 q c2').ownBlock = some q' → v.ownBlock ≠ some q') ∧ Below w.heap.size w wq) (fun _ i _ => q - (intOf i).toNat)
          case atStart => exact ⟨0, by omega, by go_num, by simpa using HO2.out, H2.out.base hz, HD2.out, B2.out⟩
          case round =>
            obtain ⟨j, hj, rfl, hO, hR, hD, hB⟩ := hrel
            obtain ⟨aq, cq, rfl, -⟩ := hO.sl.ex
            generalize hAq : A ++ (R.take j).map (fun b => (y.1, b)) = Aq at *
            have HA2 := hid hAq
            clear hAq
            have HO := hid hO
            have HR2 := hid hR
            have HD := hid hD
            have HB := hid hB
            have hz := hB.size
            clear hO hR hD hB HO2 H2 HD2 B2
            by_cases hlj : j < q
            · obtain ⟨g2, z, rfl, -, hg2, hy2, hcy⟩ := OwnI.at HR2.out HQ.out hlj
              obtain ⟨b5, o5, y5, e5, hb5, hx5, c5, c6⟩ := (H.out.below HB.out).pairs hlt HN.out
              rw [HX.out] at hx5
              cases hx5
              first | (subst e5) | (simp only [Option.some.injEq, Addr.mk.injEq, and_true] at e5; obtain ⟨rfl, rfl⟩ := e5)
              have hla : Aq.length ≤ 3000000 := by
                rw [← HA2.out, List.length_append, List.length_map, List.length_take]
                omega
              have HT := hid (take_pairs (a := y.1) hy2)
              clear hy2
              go_wp2
              refine wp_region_x [0, 0, 0, 0, 0, 1, 0, 0, 0, 1, 0, 3, 2, 0] [0, 1, 2, 3, 4, 5, 6, 7, 8, 9, 10, 11, 12, 13] (by kernel_rfl) (by kernel_rfl) rfl (by kernel_rfl) ?_
              simp only [selX, guardAt, List.getElem?_cons_zero, List.getElem?_cons_succ, List.getD_cons_zero, List.getD_cons_succ]
              repeat (first
                | (refine wpL_p (fun K hK => ?_); go_simp; refine hK _ _ ?_; clear hK K)
                | (refine wpL_r (fun K hK => ?_); apply Exists.intro; refine ⟨fun w2 hw2 => ?_, hK _ _ ?_⟩; (have hk1 := hw2.cell; have hk3 := hw2.heap; clear hw2; go_simp; with_reducible rfl); clear hK K; simp only [Act.put, List.setIfInBounds_toArray, List.set_cons_zero, List.set_cons_succ])
                | (refine wpL_yes rfl rfl ?_)
                | (refine wpL_no rfl rfl (fun K hK => ?_); simp only [Act.put, List.setIfInBounds_toArray, List.set_cons_zero, List.set_cons_succ]; refine hK _ _ ?_; clear hK K)
                | (refine wpL_nil ?_))
              refine wpL_k (fun K hK => ?_)
              go_simp
              refine hK _ _ (Keeps.alloc _ _) ?_
              clear hK K
              refine wpL_e (fun K hK => ?_)
              rw [drew_alloc]
              refine wp_appF _ _ _ rfl _ 16 Try.underlying26 infoD rfl HO.out.drew (y.1, z) (by first | omega | (simp <;> omega)) (by rfl) (by rfl) (by first | rfl | simp) rfl (pr_one _) (by first | omega | (simp only [List.length_append, List.length_cons, List.length_nil, List.length_replicate]; omega)) (by first | omega | (simp only [List.length_append, List.length_cons, List.length_nil, List.length_replicate]; omega)) ?_
              intro gn cn wn hn Gn
              have HN2 := hid (fun q' (h3 : (Value.slice (some ⟨g2, 0, none⟩) q c2').ownBlock = some q') (h4 : (Value.slice (some ⟨gn, 0, none⟩) (Aq.length + 1) cn).ownBlock = some q') => by
                rcases Gn.own q' h4 with h5 | h5
                · exact HD.out q' h3 h5
                · have := (HR2.out.lt q' h3).2
                  have e9 : wr.drew.heap.size = wr.heap.size := rfl
                  omega)
              have HR3 := hid (HR2.out.drew.grw Gn HD.out)
              have HO3 := hid hn
              have HB3 := hid (HB.out.drew.trans (Gn.below (by exact hz) fun q h => (HO.out.lt q h).1))
              clear hn Gn hcy
              refine hK _ _ ?_
              clear hK K
              repeat (first
                | (refine wpL_p (fun K hK => ?_); go_simp; refine hK _ _ ?_; clear hK K)
                | (refine wpL_r (fun K hK => ?_); apply Exists.intro; refine ⟨fun w2 hw2 => ?_, hK _ _ ?_⟩; (have hk1 := hw2.cell; have hk3 := hw2.heap; clear hw2; go_simp; with_reducible rfl); clear hK K; simp only [Act.put, List.setIfInBounds_toArray, List.set_cons_zero, List.set_cons_succ])
                | (refine wpL_yes rfl rfl ?_)
                | (refine wpL_no rfl rfl (fun K hK => ?_); simp only [Act.put, List.setIfInBounds_toArray, List.set_cons_zero, List.set_cons_succ]; refine hK _ _ ?_; clear hK K)
                | (refine wpL_nil ?_))
              go_wp2_with fail
              go_roundw
              case rel => exact ⟨j + 1, by omega, by go_num, by rw [HT.out, ← List.append_assoc, HA2.out]; exact HO3.out, HR3.out, HN2.out, HB3.out⟩
              case measure => simp [intOf]; omega
            · obtain rfl : j = q := by omega
              have HE : Hid (A ++ R.map (fun b => (y.1, b)) = Aq) := hid (by rw [← HA2.out, ← HQ.out, List.take_length])
              go_wp2_with fail
              go_roundw
              case rel => exact ⟨k + 1 + 1, by omega, by go_num, by rw [HNEW.out, HA.out, HE.out]; exact HO.out, HB.out⟩
              case measure => simp [intOf]; omega
    · obtain rfl : k = n := by omega
      have HE : Hid (A = C) := hid (by rw [← HA.out, ← HN.out]; exact cloUp_all HC.out)
      go_wp2
      go_ret
      exact ⟨_, C, rfl, by rw [← HE.out]; exact HO.out.sl, HC.out, HB.out⟩
end
end Go.Proofs.Ytlmeblhcipkgmaa
