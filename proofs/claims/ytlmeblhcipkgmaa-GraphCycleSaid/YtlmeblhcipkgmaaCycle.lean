/- The law of a graph's circle. Conditions: those of each theorem, as typed. -/
import Derived.Test.YtlmeblhcipkgmaaEither
import Derived.Test.YtlmeblhcipkgmaaGrZ
namespace Go.Proofs.Ytlmeblhcipkgmaa
open Go.RowKit Go.Maps
set_option linter.unusedVariables false
set_option linter.unusedSimpArgs false
attribute [local irreducible] wpL

theorem Met.sub {P : List Pr} {N t : List Int} {k : Int} {n : Nat} (h : Met P k n t) (hk : k ∈ N) (hP : ∀ a b, (a, b) ∈ P → a ∈ N ∧ b ∈ N) : ∀ x ∈ t, x ∈ N := fun x hx => by
  have hw := (h.2 x).1 hx
  cases n with
  | zero =>
    have e : k = x := hw
    rw [← e]; exact hk
  | succ n =>
    obtain ⟨b, -, hp⟩ := wk_snoc_iff.1 hw
    exact (hP _ _ hp).2
theorem Step.sub {P : List Pr} {N T to0 to : List Int} {i j : Nat} {y : Int} (h : Step to0 (row P y) j to) (hp : Part P T i to0) (hP : ∀ a b, (a, b) ∈ P → a ∈ N ∧ b ∈ N) : ∀ x ∈ to, x ∈ N := fun x hx => by
  rcases (h.2 x).1 hx with hx | hx
  · obtain ⟨z, -, hz⟩ := (hp.2 x).1 hx
    exact (hP _ _ hz).2
  · exact (hP _ _ (mem_row.1 (List.mem_of_mem_take hx))).2
/-- What a part holds. -/
theorem part_ring {P : List Pr} {N c r q : List Int} {k : Int} (h : Ring P N c) (hc : c = k :: r) (hq : q ∈ partsF P N) (hk : k ∈ q) : ∀ x ∈ c, x ∈ q := fun x hx => by
  obtain ⟨a, ha, rfl⟩ := parts_mem hq
  exact mem_partOf.2 ⟨h.sub x hx, (mem_partOf.1 hk).2.trans (h.both k r hc x hx)⟩
/-- The first that reaches itself. -/
theorem Ring.first {P : List Pr} {N c r : List Int} {k x : Int} {i : Nat} (h : Ring P N c) (hc : c = k :: r) (hs : SrtI N) (hx : N[i]? = some x) (hn : ∀ y ∈ N.take i, ¬ Tc P y y) (ht : Tc P x x) : x = k := by
  obtain ⟨h1, h2, h3⟩ := h.least k r hc
  rcases Int.lt_trichotomy x k with hl | hl | hl
  · exact absurd ht (h2 x (List.mem_of_getElem? hx) hl)
  · exact hl
  · exfalso
    obtain ⟨j, hj⟩ := List.mem_iff_getElem?.1 h1
    have hji : j < i := by
      apply Classical.byContradiction
      intro hji
      obtain ⟨hj', ej⟩ := List.getElem?_eq_some_iff.1 hj
      obtain ⟨hi', ei⟩ := List.getElem?_eq_some_iff.1 hx
      by_cases e : i = j
      · subst e
        rw [hx] at hj
        have := Option.some.inj hj
        omega
      · have := (List.pairwise_iff_getElem.1 hs) i j hi' hj' (by omega)
        rw [ej, ei] at this
        omega
    exact hn k (List.mem_iff_getElem?.2 ⟨j, by rw [List.getElem?_take_of_lt hji, hj]⟩) (tc_iff_dist.2 ⟨_, h3⟩)
section
variable {w : World} {vd vi : Value}
set_option maxRecDepth 100000 in
set_option maxHeartbeats 4000000 in
theorem law_cycle {l : List Tr} {nd : List Int} {n m B : Nat} (h : Sl w B 3 vd n (l.flatMap trC)) (hn : l.length = n) (hB : B ≤ w.heap.size) (hi : Sl w B 1 vi m (nd.flatMap intC)) (hm : nd.length = m) (hd : ∀ x ∈ l, dI x.1 ∧ dI x.2.1 ∧ dI x.2.2) (hdi : ∀ x ∈ nd, dI x) :
    Calls Try.prog 10 #[vd, vi] w fun e w' => e = .returned (.bool true) ∧ Below w.heap.size w w' := by
  obtain ⟨al, cl, rfl, hal⟩ := h.ex
  obtain ⟨ai, ci, rfl, hai⟩ := hi.ex
  have H := hid h
  have HI := hid hi
  have HN := hid hn
  have HM := hid hm
  have HD := hid hd
  have HDI := hid hdi
  clear h hi hn hm hd hdi
  go_enter Try.func10, Try.ntmps10
  go_wp2_with fail
  refine (gr_first w).mono ?_
  rintro e w0 ⟨rfl, b0⟩
  have B0 := hid b0
  have z0 : w.heap.size ≤ w0.heap.size := b0.size
  have hB0 : B ≤ w0.heap.size := by omega
  clear b0
  by_cases hn1 : n ≤ 40
  · by_cases hm1 : m ≤ 40
    · go_wp2_with fail
      refine (gr_made (H.out.below (B0.out.mono hB)) HN.out hB0 (HI.out.below (B0.out.mono hB)) HM.out HD.out HDI.out (by omega) (by omega)).mono ?_
      rintro e w1 ⟨p, vn, ve, rfl, g1, q1, b1⟩
      have HED := hid (fun x (hx : x ∈ l) => edge_in (nd := nd) hx)
      have HOK := hid (gN_ok nd (gE_ok l))
      have hL1 := gE_len l
      have hL2 := gN_len (gE l).1 nd
      rw [HN.out] at hL1
      rw [HM.out] at hL2
      obtain ⟨an, cn, rfl, -⟩ := Sl.ex q1.n
      obtain ⟨ae, ce, rfl, -⟩ := Sl.ex q1.e
      generalize gN (gE l).1 nd = N at *
      generalize (gE l).2 = E at *
      have hN9 : N.length ≤ 200 := by omega
      have hE9 : E.length ≤ 40 := by omega
      have z1 : w0.heap.size ≤ w1.heap.size := b1.size
      have B2 := hid ((B0.out.trans (b1.mono z0)).alloc (by omega) (.cells #[.slice an N.length cn, .slice ae E.length ce] 63))
      have G2 := hid ((g1.below ((Below.refl w1.heap.size w1).alloc (Nat.le_refl _) (.cells #[.slice an N.length cn, .slice ae E.length ce] 63)) (Nat.le_refl _)).raise (hi' := (w1.alloc (.cells #[.slice an N.length cn, .slice ae E.length ce] 63)).heap.size) (by simp))
      have HDN := hid g1.domN
      clear g1 q1 b1 hL1 hL2 B0
      generalize hnl : N.length = nl at *
      generalize hel : E.length = el at *
      have HNL := hid hnl
      clear hnl
      have hel' : E.length ≤ 40 := by omega
      have hnl' : N.length ≤ 200 := by rw [HNL.out]; omega
      obtain ⟨w2, hw2⟩ : ∃ w2, w2 = w1.alloc (.cells #[.slice an nl cn, .slice ae el ce] 63) := ⟨_, rfl⟩
      rw [← hw2] at G2 B2
      have z2 : w1.heap.size ≤ w2.heap.size := by rw [hw2, World.size_alloc]; omega
      have HW2 := hid hw2
      clear hw2 hel
      go_wp2_with fail
      rw [← HW2.out]
      have HP := hid (fun a b (h : (a, b) ∈ prs E) => HOK.out.pair h)
      refine (gr_cycle G2.out (Nat.le_refl _) (by omega) (by omega)).mono ?_
      rintro e w4 ⟨v4, c, rfl, h4, hc, b4⟩
      obtain ⟨a4, c4, rfl, hm4⟩ := h4.sl.ex
      have HCY := hid hc.nil_iff
      have HRG := hid (hc.ring HP.out)
      generalize hcn : c.length = cn4 at *
      have HCN := hid hcn
      have C4 := hid (show Sl w4 w4.heap.size 1 (.slice a4 cn4 c4) cn4 (c.flatMap intC) by rw [← hcn]; rw [← hcn] at h4; exact h4.sl)
      have G4 := hid ((G2.out.below b4 (Nat.le_refl _)).raise (hi' := w4.heap.size) b4.size)
      have B4 := hid (B2.out.trans (b4.mono B2.out.size))
      have z4 : w2.heap.size ≤ w4.heap.size := b4.size
      clear h4 b4 hc G2 B2 hcn HW2
      go_wp2_with fail
      refine (gr_nodes G4.out (by omega)).mono ?_
      rintro e w5 ⟨v5, rfl, h5, b5⟩
      obtain ⟨a5, c5, rfl, hm5⟩ := h5.sl.ex
      rw [HNL.out] at hm5 ⊢
      have A5 := hid (show Sl w5 w5.heap.size 1 (.slice a5 nl c5) nl (N.flatMap intC) by have := h5.sl; rw [HNL.out] at this; exact this)
      have C5 := hid ((C4.out.below b5).more b5.size)
      have G5 := hid ((G4.out.below b5 (Nat.le_refl _)).raise (hi' := w5.heap.size) b5.size)
      have B5 := hid (B4.out.trans (b5.mono B4.out.size))
      have z5 : w.heap.size ≤ w5.heap.size := B5.out.size
      clear h5 b5 C4 G4 B4 z4 z2 z1
      have hcc : c.length = cn4 := HCN.out
      have hnn : N.length = nl := HNL.out
      go_wp2_with fail
      rcases HRG.out with hc0 | hring
      · have hcn0 : cn4 = 0 := by rw [← hcc, hc0]; rfl
        have HNT := hid (HCY.out.1 hc0)
        subst hcn0
        clear hc0 HCY
        go_loopw [10] (fun i wr => ∃ j : Nat, j ≤ nl ∧ i = .int .i64 j ∧ Below w5.heap.size w5 wr) (fun i _ => nl - (intOf i).toNat)
        case atStart => exact ⟨0, by omega, by go_num, Below.refl _ _⟩
        case round =>
          obtain ⟨j, hj, rfl, hB6⟩ := hrel
          have B6 := hid hB6
          have z6 := hB6.size
          clear hB6
          by_cases hlt : j < nl
          · obtain ⟨b, off, x, rfl, hb, hx, c1⟩ := (A5.out.below B6.out).ints hlt hnn
            have hxN := List.mem_of_getElem? hx
            have hxd := HDN.out x hxN
            have HNX := hid (HNT.out x hxN)
            clear hx hxN
            go_wp2
            refine wp_region_x [0, 0, 0, 0, 1, 3, 0, 0, 0, 1, 2, 0, 0] [0, 1, 2, 3, 4, 6, 7, 8, 9, 5, 10, 11, 12] (by kernel_rfl) (by kernel_rfl) rfl (by kernel_rfl) ?_
            simp only [selX, guardAt, List.getElem?_cons_zero, List.getElem?_cons_succ, List.getD_cons_zero, List.getD_cons_succ]
            repeat (first
              | (refine wpL_p (fun K hK => ?_); go_simp; refine hK _ _ ?_; clear hK K)
              | (refine wpL_r (fun K hK => ?_); apply Exists.intro; refine ⟨fun w2 hw2 => ?_, hK _ _ ?_⟩; (have hk1 := hw2.cell; have hk3 := hw2.heap; clear hw2; go_simp; with_reducible rfl); clear hK K; simp only [Act.put, List.setIfInBounds_toArray, List.set_cons_zero, List.set_cons_succ])
              | (refine wpL_yes rfl rfl ?_)
              | (refine wpL_no rfl rfl (fun K hK => ?_); simp only [Act.put, List.setIfInBounds_toArray, List.set_cons_zero, List.set_cons_succ]; refine hK _ _ ?_; clear hK K)
              | (refine wpL_nil ?_))
            refine wpL_k (fun K hK => ?_)
            go_simp
            refine (gr_reach (G5.out.below B6.out.drew (Nat.le_refl _)) z6 (by omega) x hxd).mono ?_
            rintro e w7 ⟨v7, R, rfl, h7, hR, b7⟩
            refine hK _ _ (Keeps.of_below b7) ?_
            clear hK K
            have B7 := hid (B6.out.drew.trans (b7.mono z6))
            have HL7 := hid (show LI w7 v7 R from h7.sl)
            have hxR : x ∉ R := fun h => HNX.out ((hR.2 x).1 h)
            have z7 : wr.heap.size ≤ w7.heap.size := b7.size
            clear h7 b7
            repeat (first
              | (refine wpL_p (fun K hK => ?_); go_simp; refine hK _ _ ?_; clear hK K)
              | (refine wpL_r (fun K hK => ?_); apply Exists.intro; refine ⟨fun w2 hw2 => ?_, hK _ _ ?_⟩; (have hk1 := hw2.cell; have hk3 := hw2.heap; clear hw2; go_simp; with_reducible rfl); clear hK K; simp only [Act.put, List.setIfInBounds_toArray, List.set_cons_zero, List.set_cons_succ])
              | (refine wpL_yes rfl rfl ?_)
              | (refine wpL_no rfl rfl (fun K hK => ?_); simp only [Act.put, List.setIfInBounds_toArray, List.set_cons_zero, List.set_cons_succ]; refine hK _ _ ?_; clear hK K)
              | (refine wpL_nil ?_))
            refine wpL_e (fun K hK => ?_)
            go_simp
            refine (gr_place HL7.out x).mono ?_
            rintro e w8 ⟨z, rfl, hz, rfl⟩
            refine hK _ _ ?_
            clear hK K
            have hzl : decide (0 ≤ z) = false := by rw [decide_eq_false_iff_not, hz.pos]; exact hxR
            clear hz
            repeat (first
              | (refine wpL_p (fun K hK => ?_); go_simp; refine hK _ _ ?_; clear hK K)
              | (refine wpL_r (fun K hK => ?_); apply Exists.intro; refine ⟨fun w2 hw2 => ?_, hK _ _ ?_⟩; (have hk1 := hw2.cell; have hk3 := hw2.heap; clear hw2; go_simp; with_reducible rfl); clear hK K; simp only [Act.put, List.setIfInBounds_toArray, List.set_cons_zero, List.set_cons_succ])
              | (refine wpL_yes rfl rfl ?_)
              | (refine wpL_no rfl rfl (fun K hK => ?_); simp only [Act.put, List.setIfInBounds_toArray, List.set_cons_zero, List.set_cons_succ]; refine hK _ _ ?_; clear hK K)
              | (refine wpL_nil ?_))
            by_cases hlast : j + 1 = nl
            · go_wp2_with fail
              go_roundw
              case rel => exact ⟨j + 1, by omega, by go_num, B7.out⟩
              case measure => simp [intOf]; omega
            · have hlb : (((j : Int) + 1) == (nl : Int)) = false := by simp; omega
              go_wp2_with fail
              go_roundw
              case rel => exact ⟨j + 1, by omega, by go_num, B7.out⟩
              case measure => simp [intOf]; omega
          · obtain rfl : j = nl := by omega
            go_wp2_with fail
            go_loopw [12] (fun i wr => i = .int .i64 0 ∧ Below w5.heap.size w5 wr) (fun i _ => 0)
            case atStart => exact ⟨by go_num, B6.out⟩
            case round =>
              obtain ⟨rfl, hB7⟩ := hrel
              have B7 := hid hB7
              clear hB7
              go_wp2
              go_ret
              exact ⟨rfl, B5.out.trans (B7.out.mono z5)⟩
      · obtain ⟨k, r, hkr⟩ := hring.head
        have HR := hid hring
        have HKR := hid hkr
        have hk0 : c[0]? = some k := by rw [hkr]; rfl
        have hcp : 0 < cn4 := by rw [← hcc, hkr]; simp
        have hcb : ((cn4 : Int) == 0) = false := by simp; omega
        have hcn5 : cn4 ≤ 200 := by
          have := nodup_le hring.nodup hring.sub
          omega
        obtain ⟨hkN, hkl, hkd⟩ := hring.least k r hkr
        have HKD := hid (tc_iff_dist.2 ⟨_, hkd⟩)
        have HK0 := hid hk0
        have hdk := HDN.out k hkN
        have hkk : (k != k) = false := by simp
        clear hring hkr hkl hkd hk0 HCY
        go_loopw [10] (fun i wr => ∃ j : Nat, j ≤ nl ∧ i = .int .i64 j ∧ (∀ y ∈ N.take j, ¬ Tc (prs E) y y) ∧ Below w5.heap.size w5 wr) (fun i _ => nl - (intOf i).toNat)
        case atStart => exact ⟨0, by omega, by go_num, fun y hy => by simp at hy, Below.refl _ _⟩
        case round =>
          obtain ⟨j, hj, rfl, hNT, hB6⟩ := hrel
          have B6 := hid hB6
          have HNT := hid hNT
          have z6 := hB6.size
          clear hB6 hNT
          have hlt : j < nl := by
            apply Classical.byContradiction
            intro h
            exact HNT.out k (by rw [List.take_of_length_le (by omega)]; exact hkN) HKD.out
          obtain ⟨b, off, x, rfl, hb, hx, c1⟩ := (A5.out.below B6.out).ints hlt hnn
          have hxN := List.mem_of_getElem? hx
          have hxd := HDN.out x hxN
          have HX := hid hx
          clear hx hxN
          go_wp2
          refine wp_region_x [0, 0, 0, 0, 1, 3, 0, 0, 0, 1, 2, 0, 0] [0, 1, 2, 3, 4, 6, 7, 8, 9, 5, 10, 11, 12] (by kernel_rfl) (by kernel_rfl) rfl (by kernel_rfl) ?_
          simp only [selX, guardAt, List.getElem?_cons_zero, List.getElem?_cons_succ, List.getD_cons_zero, List.getD_cons_succ]
          repeat (first
            | (refine wpL_p (fun K hK => ?_); go_simp; refine hK _ _ ?_; clear hK K)
            | (refine wpL_r (fun K hK => ?_); apply Exists.intro; refine ⟨fun w2 hw2 => ?_, hK _ _ ?_⟩; (have hk1 := hw2.cell; have hk3 := hw2.heap; clear hw2; go_simp; with_reducible rfl); clear hK K; simp only [Act.put, List.setIfInBounds_toArray, List.set_cons_zero, List.set_cons_succ])
            | (refine wpL_yes rfl rfl ?_)
            | (refine wpL_no rfl rfl (fun K hK => ?_); simp only [Act.put, List.setIfInBounds_toArray, List.set_cons_zero, List.set_cons_succ]; refine hK _ _ ?_; clear hK K)
            | (refine wpL_nil ?_))
          refine wpL_k (fun K hK => ?_)
          go_simp
          refine (gr_reach (G5.out.below B6.out.drew (Nat.le_refl _)) z6 (by omega) x hxd).mono ?_
          rintro e w7 ⟨v7, R, rfl, h7, hR, b7⟩
          refine hK _ _ (Keeps.of_below b7) ?_
          clear hK K
          have B7 := hid (B6.out.drew.trans (b7.mono z6))
          have z7 : w5.heap.size ≤ w7.heap.size := B7.out.size
          have HL7 := hid (show LI w7 v7 R from h7.sl)
          have HXR := hid (hR.2 x)
          clear h7 b7 hR
          repeat (first
            | (refine wpL_p (fun K hK => ?_); go_simp; refine hK _ _ ?_; clear hK K)
            | (refine wpL_r (fun K hK => ?_); apply Exists.intro; refine ⟨fun w2 hw2 => ?_, hK _ _ ?_⟩; (have hk1 := hw2.cell; have hk3 := hw2.heap; clear hw2; go_simp; with_reducible rfl); clear hK K; simp only [Act.put, List.setIfInBounds_toArray, List.set_cons_zero, List.set_cons_succ])
            | (refine wpL_yes rfl rfl ?_)
            | (refine wpL_no rfl rfl (fun K hK => ?_); simp only [Act.put, List.setIfInBounds_toArray, List.set_cons_zero, List.set_cons_succ]; refine hK _ _ ?_; clear hK K)
            | (refine wpL_nil ?_))
          refine wpL_e (fun K hK => ?_)
          go_simp
          refine (gr_place HL7.out x).mono ?_
          rintro e w8 ⟨z, rfl, hz, rfl⟩
          refine hK _ _ ?_
          clear hK K
          have hzp := hz.pos.trans HXR.out
          clear hz HL7 HXR
          clear c1
          obtain ⟨b, off, x', e', hb, hx', c1⟩ := (A5.out.below B7.out).ints hlt hnn
          simp only [Option.some.injEq, Addr.mk.injEq, and_true] at e'
          obtain ⟨rfl, rfl⟩ := e'
          rw [HX.out] at hx'
          obtain rfl := Option.some.inj hx'
          clear hx'
          by_cases ht : Tc (prs E) x x
          · have hzl : decide (0 ≤ z) = true := by rw [decide_eq_true_eq]; exact hzp.2 ht
            obtain rfl : x = k := HR.out.first HKR.out HOK.out.srtN HX.out HNT.out ht
            obtain ⟨b3, off3, x3, rfl, hb3, hx3, d1⟩ := (C5.out.below B7.out).ints hcp hcc
            rw [HK0.out] at hx3
            obtain rfl := Option.some.inj hx3
            clear hx3 hzp ht
            simp only [Nat.zero_mul, Nat.add_zero] at d1
            repeat (first
              | (refine wpL_p (fun K hK => ?_); go_simp; refine hK _ _ ?_; clear hK K)
              | (refine wpL_r (fun K hK => ?_); apply Exists.intro; refine ⟨fun w2 hw2 => ?_, hK _ _ ?_⟩; (have hk1 := hw2.cell; have hk3 := hw2.heap; clear hw2; go_simp; with_reducible rfl); clear hK K; simp only [Act.put, List.setIfInBounds_toArray, List.set_cons_zero, List.set_cons_succ])
              | (refine wpL_yes rfl rfl ?_)
              | (refine wpL_no rfl rfl (fun K hK => ?_); simp only [Act.put, List.setIfInBounds_toArray, List.set_cons_zero, List.set_cons_succ]; refine hK _ _ ?_; clear hK K)
              | (refine wpL_nil ?_))
            go_wp2
            refine wp_region_x [0, 0, 0, 0, 0, 0, 1, 0, 0, 0, 1, 0, 0] [0, 1, 2, 3, 4, 5, 6, 7, 8, 9, 10, 11, 12] (by kernel_rfl) (by kernel_rfl) rfl (by kernel_rfl) ?_
            simp only [selX, guardAt, List.getElem?_cons_zero, List.getElem?_cons_succ, List.getD_cons_zero, List.getD_cons_succ, Option.bind_some]
            repeat (first
              | (refine wpL_p (fun K hK => ?_); go_simp; refine hK _ _ ?_; clear hK K)
              | (refine wpL_r (fun K hK => ?_); apply Exists.intro; refine ⟨fun w2 hw2 => ?_, hK _ _ ?_⟩; (have hk1 := hw2.cell; have hk3 := hw2.heap; clear hw2; go_simp; with_reducible rfl); clear hK K; simp only [Act.put, List.setIfInBounds_toArray, List.set_cons_zero, List.set_cons_succ])
              | (refine wpL_yes rfl rfl ?_)
              | (refine wpL_no rfl rfl (fun K hK => ?_); simp only [Act.put, List.setIfInBounds_toArray, List.set_cons_zero, List.set_cons_succ]; refine hK _ _ ?_; clear hK K)
              | (refine wpL_nil ?_))
            go_wp2_with fail
            have hcm : cn4 ≤ 200 := hcn5
            clear c1 d1 hzl
            go_loopw [12] (fun i wr => ∃ q : Nat, q ≤ cn4 ∧ i = .int .i64 q ∧ Below w5.heap.size w5 wr) (fun i _ => cn4 - (intOf i).toNat)
            case atStart => exact ⟨0, by omega, by go_num, B7.out.drew⟩
            case round =>
              obtain ⟨q, hq, rfl, hB8⟩ := hrel
              have B8 := hid hB8
              have z8 := hB8.size
              clear hB8
              by_cases hqc : q < cn4
              · have hmod : (q + 1) % cn4 < cn4 := Nat.mod_lt _ hcp
                have hmi : ((q : Int) + 1) % (cn4 : Int) = (((q + 1) % cn4 : Nat) : Int) := by
                  rw [Int.natCast_emod]
                  rfl
                have HNX := hid (fun x y h1 h2 => HR.out.next q x y h1 (by rw [hcc]; exact h2))
                generalize (q + 1) % cn4 = s at *
                obtain ⟨b4, off4, y, e4, hb4, hy, y1⟩ := (C5.out.below B8.out).ints hqc hcc
                obtain ⟨b5, off5, y', e5, hb5, hy', y2⟩ := (C5.out.below B8.out).ints hmod hcc
                simp only [Option.some.injEq, Addr.mk.injEq, and_true] at e4 e5
                obtain ⟨rfl, rfl⟩ := e4
                obtain ⟨rfl, rfl⟩ := e5
                have HY := hid hy
                have HPY := hid (HNX.out y y' hy hy')
                have hdy := HDN.out y (HR.out.sub y (List.mem_of_getElem? hy))
                have hdy' := HDN.out y' (HR.out.sub y' (List.mem_of_getElem? hy'))
                clear hy hy' HNX
                go_wp2_with fail
                refine (gr_kinds (G5.out.below B8.out (Nat.le_refl _)) (by omega) y y' hdy hdy').mono ?_
                rintro e w9 ⟨v9, rfl, h9, b9⟩
                obtain ⟨a9, k9, rfl, hm9⟩ := h9.sl.ex
                have HKN := hid (fun e => kinds_zero.1 e HPY.out)
                generalize (kindsOf E y y').length = kn at *
                have hkn : ((kn : Int) == 0) = false := by have := HKN.out; simp; omega
                have B9 := hid (B8.out.trans (b9.mono z8))
                have z9 := B9.out.size
                clear h9 b9 y1 y2 HKN
                obtain ⟨b4, off4, y4, e4, hb4, hy, y1⟩ := (C5.out.below B9.out).ints hqc hcc
                simp only [Option.some.injEq, Addr.mk.injEq, and_true] at e4
                obtain ⟨rfl, rfl⟩ := e4
                rw [HY.out] at hy
                obtain rfl := Option.some.inj hy
                clear hy
                go_wp2_with fail
                refine (gr_place (LI.ofN hcc (C5.out.below B9.out) z9) y).mono ?_
                rintro e w10 ⟨z10, rfl, hz10, rfl⟩
                obtain rfl := HR.out.place HY.out hz10
                have hqq : ((q : Int) != (q : Int)) = false := by simp
                clear hz10 y1
                go_wp2_with fail
                go_roundw
                case rel => exact ⟨q + 1, by omega, by go_num, B9.out⟩
                case measure => simp [intOf]; omega
              · obtain rfl : q = cn4 := by omega
                obtain ⟨b3, off3, x3, e3, hb3, hx3, d1⟩ := (C5.out.below B8.out).ints hcp hcc
                rw [HK0.out] at hx3
                obtain rfl := Option.some.inj hx3
                simp only [Option.some.injEq, Addr.mk.injEq, and_true] at e3
                obtain ⟨rfl, rfl⟩ := e3
                clear hx3
                simp only [Nat.zero_mul, Nat.add_zero] at d1
                go_wp2_with fail
                obtain ⟨W2, rfl⟩ : ∃ W2, W2 = wr := ⟨_, rfl⟩
                have T0 := hid (OwnF.lit (f := intC) (e := 3) (sz := 1) W2 W2.heap.size (Nat.le_refl _) [x] intC_len (by simp))
                have BT := hid ((Below.refl W2.heap.size W2).alloc (Nat.le_refl _) (.cells #[.int .i64 x] 3))
                clear d1
                go_loopw [14, 15] (fun v i wr => ∃ (u : Nat) (T : List Int), 1 ≤ u ∧ u ≤ q + 1 ∧ i = .int .i64 u ∧ OwnI wr W2.heap.size v T ∧ Met (prs E) x (u - 1) T ∧ Below W2.heap.size W2 wr) (fun _ i _ => q + 1 - (intOf i).toNat)
                case atStart => exact ⟨1, [x], by omega, by omega, by go_num, T0.out, Met.zero _ _, BT.out⟩
                case round =>
                  obtain ⟨u, T, hu1, hu2, rfl, hT, hMet, hB9⟩ := hrel
                  obtain ⟨aT, cT, rfl, hTm⟩ := hT.sl.ex
                  have HMET := hid hMet
                  have HTN := hid (hMet.sub hkN HP.out)
                  have hTl : T.length ≤ 200 := by
                    have := nodup_le hMet.1 (hMet.sub hkN HP.out)
                    omega
                  have T9 := hid hT
                  have B9 := hid hB9
                  have z9 := hB9.size
                  clear hT hMet hB9
                  generalize hTn : T.length = tn at *
                  have HTL := hid hTn
                  clear hTn
                  have B59 := hid (B8.out.trans (B9.out.mono z8))
                  have z59 : w5.heap.size ≤ wr.heap.size := B59.out.size
                  obtain ⟨W3, rfl⟩ : ∃ W3, W3 = wr := ⟨_, rfl⟩
                  by_cases huc : u ≤ q
                  · go_wp2_with fail
                    go_loopw [16, 17] (fun v i wq => ∃ (j : Nat) (TO : List Int), j ≤ tn ∧ i = .int .i64 j ∧ OwnI wq W3.heap.size v TO ∧ Part (prs E) T j TO ∧ Below W3.heap.size W3 wq) (fun _ i _ => tn - (intOf i).toNat)
                    case atStart => exact ⟨0, [], by omega, by go_num, OwnF.nil _ _, Part.zero _ _, Below.refl _ _⟩
                    case round =>
                      obtain ⟨i, TO, hi, rfl, hTO, hPart, hB10⟩ := hrel
                      obtain ⟨ao, co, rfl, hom⟩ := hTO.sl.ex
                      have HPT := hid hPart
                      have O10 := hid hTO
                      have B10 := hid hB10
                      have z10 := hB10.size
                      clear hTO hPart hB10
                      obtain ⟨W4, rfl⟩ : ∃ W4, W4 = wr := ⟨_, rfl⟩
                      by_cases hit : i < tn
                      · obtain ⟨g4, y, rfl, -, hg4, hy, hcy⟩ := OwnI.at (T9.out.below B10.out) HTL.out hit
                        have hdy := HDN.out y (HTN.out y (List.mem_of_getElem? hy))
                        have HY := hid hy
                        clear hy
                        go_wp2_with fail
                        refine (gr_out (G5.out.below (B59.out.trans (B10.out.mono z59)) (Nat.le_refl _)) (by omega) y hdy).mono ?_
                        rintro e w6 ⟨v6, rfl, h6, b6⟩
                        obtain ⟨ar, cr, rfl, hrm⟩ := h6.sl.ex
                        have hne : ∀ s, (Value.slice ar (row (prs E) y).length cr).ownBlock = some s → (Value.slice ao TO.length co).ownBlock ≠ some s := fun s h3 h4 => by
                          have := h6.lt s h3
                          have := O10.out.lt s h4
                          omega
                        have O6 := hid (O10.out.below b6)
                        have R6 := hid h6
                        have HN6 := hid hne
                        have B6' := hid (B10.out.trans (b6.mono z10))
                        clear h6 b6 hne hcy O10 B10
                        generalize hm : (row (prs E) y).length = rn at *
                        have HRN := hid hm
                        clear hm
                        have HS0 := hid (Step.zero HPT.out.1 (row (prs E) y))
                        go_wp2_with fail
                        go_loopw [16, 19] (fun v i wz => ∃ (s : Nat) (TO' : List Int), s ≤ rn ∧ i = .int .i64 s ∧ OwnI wz W3.heap.size v TO' ∧ Step TO (row (prs E) y) s TO' ∧ OwnI wz W4.heap.size (.slice ar rn cr) (row (prs E) y) ∧ (∀ q', (Value.slice ar rn cr).ownBlock = some q' → v.ownBlock ≠ some q') ∧ Below W3.heap.size W3 wz) (fun _ i _ => rn - (intOf i).toNat)
                        case atStart => exact ⟨0, TO, by omega, by go_num, O6.out, HS0.out, R6.out, HN6.out, B6'.out⟩
                        case round =>
                          obtain ⟨s, TO', hs, rfl, hO, hSt, hR, hN, hB⟩ := hrel
                          obtain ⟨aq, cq, rfl, hqm⟩ := hO.sl.ex
                          have hTl' : TO'.length ≤ 200 := by
                            have := nodup_le hSt.1 (hSt.sub HPT.out HP.out)
                            omega
                          have HST := hid hSt
                          have O7 := hid hO
                          have R7 := hid hR
                          have N7 := hid hN
                          have B11 := hid hB
                          have z11 := hB.size
                          clear hO hSt hR hN hB O6 R6 HN6 B6' HS0
                          by_cases hsr : s < rn
                          · obtain ⟨g2, t, rfl, -, hg2, ht, hct⟩ := OwnI.at R7.out HRN.out hsr
                            have HT := hid ht
                            clear ht
                            go_wp2_with fail
                            refine (gr_place (show LI wr _ TO' from O7.out.sl) t).mono ?_
                            rintro e w8 ⟨z2, rfl, hz2, rfl⟩
                            by_cases hmem : t ∈ TO'
                            · have hzn : decide (z2 < 0) = false := by
                                have := hz2.pos.2 hmem
                                simp; omega
                              have HM := hid hmem
                              clear hz2 hmem
                              go_wp2_with fail
                              go_roundw
                              case rel => exact ⟨s + 1, TO', by omega, by go_num, O7.out, HST.out.skip HT.out HM.out, R7.out, N7.out, B11.out⟩
                              case measure => simp [intOf]; omega
                            · have hzn : decide (z2 < 0) = true := by
                                have := mt hz2.pos.1 hmem
                                simp; omega
                              have HM := hid hmem
                              clear hz2 hmem
                              go_wp2_with (at_builtin; refine wpList_appF rfl _ _ _ rfl _ 8 Try.underlying23 infoI rfl O7.out t z11 (by rfl) (by rfl) (by first | rfl | simp) rfl (in_one _) (by first | omega | (simp only [List.length_append, List.length_cons, List.length_nil, List.length_replicate]; omega)) (by first | omega | (simp only [List.length_append, List.length_cons, List.length_nil, List.length_replicate]; omega)) ?_; refine Stop.halt ?_)
                              refine Stop.go ?_
                              intro gn cn wn hn Gn
                              have HN2 := hid (fun q' (h3 : (Value.slice (some ⟨g2, 0, none⟩) rn cr).ownBlock = some q') (h4 : (Value.slice (some ⟨gn, 0, none⟩) (TO'.length + 1) cn).ownBlock = some q') => by
                                rcases Gn.own q' h4 with h5 | h5
                                · exact N7.out q' h3 h5
                                · have := (R7.out.lt q' h3).2; omega)
                              have HR3 := hid (R7.out.grw Gn N7.out)
                              have HO3 := hid hn
                              have HB3 := hid (B11.out.trans (Gn.below z11 fun q h => (O7.out.lt q h).1))
                              clear hn Gn hct
                              go_wp2_with fail
                              go_roundw
                              case rel => exact ⟨s + 1, _, by omega, by go_num, by simpa using HO3.out, HST.out.add HT.out HM.out, HR3.out, HN2.out, HB3.out⟩
                              case measure => simp [intOf]; omega
                          · obtain rfl : s = rn := by omega
                            have HPT2 := hid (Step.done HPT.out HY.out (show Step TO (row (prs E) y) (row (prs E) y).length TO' by rw [HRN.out]; exact HST.out))
                            go_wp2_with fail
                            go_roundw
                            case rel => exact ⟨i + 1, TO', by omega, by go_num, O7.out, HPT2.out, B11.out⟩
                            case measure => simp [intOf]; omega
                      · obtain rfl : i = tn := by omega
                        have HMT := hid (Part.done (show Part (prs E) T T.length TO by rw [HTL.out]; exact HPT.out) HMET.out)
                        rw [show u - 1 + 1 = u by omega] at HMT
                        have HKT := hid (HR.out.met HKR.out HMT.out hu1 (by rw [hcc]; exact huc))
                        have B511 := hid (B59.out.trans (B10.out.mono z59))
                        obtain ⟨b3, off3, x3, e3, hb3, hx3, d1⟩ := (C5.out.below B511.out).ints hcp hcc
                        rw [HK0.out] at hx3
                        obtain rfl := Option.some.inj hx3
                        simp only [Option.some.injEq, Addr.mk.injEq, and_true] at e3
                        obtain ⟨rfl, rfl⟩ := e3
                        clear hx3
                        simp only [Nat.zero_mul, Nat.add_zero] at d1
                        go_wp2_with fail
                        refine (gr_place (show LI W4 _ TO from O10.out.sl) x).mono ?_
                        rintro e w8 ⟨z2, rfl, hz2, rfl⟩
                        have HO3 := hid (O10.out.base (show W2.heap.size ≤ W3.heap.size from z9))
                        have HB3 := hid (B9.out.trans (B10.out.mono z9))
                        by_cases hul : u = q
                        · have hzn : decide (0 ≤ z2) = true := by
                            rw [decide_eq_true_eq, hz2.pos, HKT.out, hcc]; exact hul
                          have hub : ((u : Int) == (q : Int)) = true := by simp; omega
                          clear hz2
                          go_wp2_with fail
                          go_roundw
                          case rel => exact ⟨u + 1, TO, by omega, by omega, by go_num, HO3.out, by rw [show u + 1 - 1 = u by omega]; exact HMT.out, HB3.out⟩
                          case measure => simp [intOf]; omega
                        · have hzn : decide (0 ≤ z2) = false := by
                            rw [decide_eq_false_iff_not, hz2.pos, HKT.out, hcc]; exact hul
                          have hub : ((u : Int) == (q : Int)) = false := by simp; omega
                          clear hz2
                          go_wp2_with fail
                          go_roundw
                          case rel => exact ⟨u + 1, TO, by omega, by omega, by go_num, HO3.out, by rw [show u + 1 - 1 = u by omega]; exact HMT.out, HB3.out⟩
                          case measure => simp [intOf]; omega
                  · obtain rfl : u = q + 1 := by omega
                    clear T9 HMET HTN
                    go_wp2_with fail
                    refine (gr_parts (hi := W3.heap.size) ((G5.out.below B59.out (Nat.le_refl _)).raise z59) (Nat.le_refl _) (by omega) (by omega)).mono ?_
                    rintro e w6 ⟨v6, vs, Q, rfl, h6, hL6, hQ, b6⟩
                    obtain ⟨a6, c6, rfl, hm6⟩ := h6.sl.ex
                    generalize hvn : vs.length = qn at *
                    have HVN := hid hvn
                    have HQN : Hid (Q.length = qn) := hid (by rw [← hvn, hL6.1])
                    have HV := hid h6
                    have HLS := hid hL6
                    have HQ := hid hQ
                    have B56 := hid (B59.out.trans (b6.mono z59))
                    have z56 : w5.heap.size ≤ w6.heap.size := B56.out.size
                    have C6 := hid ((C5.out.below B56.out).more z56)
                    have BW := hid (B5.out.trans (B56.out.mono z5))
                    clear h6 hL6 hQ b6 hvn B59 B9 B8 B7 B6
                    go_wp2_with fail
                    go_loopw [21] (fun i wr => ∃ j : Nat, j ≤ qn ∧ i = .int .i64 j ∧ Below w6.heap.size w6 wr) (fun i _ => qn - (intOf i).toNat)
                    case atStart => exact ⟨0, by omega, by go_num, Below.refl _ _⟩
                    case round =>
                      obtain ⟨j, hj, rfl, hB12⟩ := hrel
                      have B12 := hid hB12
                      have z12 := hB12.size
                      clear hB12
                      by_cases hjq : j < qn
                      · obtain ⟨l6, hl6⟩ : ∃ l6, Q[j]? = some l6 := ⟨_, List.getElem?_eq_getElem (by rw [HQN.out]; exact hjq)⟩
                        obtain ⟨u6, hu6⟩ : ∃ u6, vs[j]? = some u6 := ⟨_, List.getElem?_eq_getElem (by rw [HVN.out]; exact hjq)⟩
                        have HLU := hid (HLS.out.2 j u6 l6 hu6 hl6)
                        obtain ⟨gv, rfl, hgv, cv⟩ := OwnV.val (OwnF.below HV.out B12.out) HVN.out hu6
                        have HQE := hid (show l6 ∈ partsF (prs E) N by rw [← HQ.out]; exact List.mem_of_getElem? hl6)
                        have HU6 := hid hu6
                        clear hu6 hl6
                        obtain ⟨b3, off3, x3, e3, hb3, hx3, d1⟩ := (C6.out.below B12.out).ints hcp hcc
                        rw [HK0.out] at hx3
                        obtain rfl := Option.some.inj hx3
                        simp only [Option.some.injEq, Addr.mk.injEq, and_true] at e3
                        obtain ⟨rfl, rfl⟩ := e3
                        clear hx3
                        simp only [Nat.zero_mul, Nat.add_zero] at d1
                        go_wp2
                        refine wp_region_x [0, 0, 0, 1, 0, 0, 1, 2, 0] [0, 1, 2, 3, 4, 5, 6, 7, 8] (by kernel_rfl) (by kernel_rfl) rfl (by kernel_rfl) ?_
                        simp only [selX, guardAt, List.getElem?_cons_zero, List.getElem?_cons_succ, List.getD_cons_zero, List.getD_cons_succ]
                        repeat (first
                          | (refine wpL_p (fun K hK => ?_); go_simp; refine hK _ _ ?_; clear hK K)
                          | (refine wpL_r (fun K hK => ?_); apply Exists.intro; refine ⟨fun w2 hw2 => ?_, hK _ _ ?_⟩; (have hk1 := hw2.cell; have hk3 := hw2.heap; clear hw2; go_simp; with_reducible rfl); clear hK K; simp only [Act.put, List.setIfInBounds_toArray, List.set_cons_zero, List.set_cons_succ])
                          | (refine wpL_yes rfl rfl ?_)
                          | (refine wpL_no rfl rfl (fun K hK => ?_); simp only [Act.put, List.setIfInBounds_toArray, List.set_cons_zero, List.set_cons_succ]; refine hK _ _ ?_; clear hK K)
                          | (refine wpL_nil ?_))
                        refine wpL_e (fun K hK => ?_)
                        go_simp
                        refine (gr_place (w := wr.drew) (show LI wr.drew _ l6 from (HLU.out.keep (Keep.of_below B12.out)).sl) x).mono ?_
                        rintro e w8 ⟨z2, rfl, hz2, rfl⟩
                        refine hK _ _ ?_
                        clear hK K
                        by_cases hmem : x ∈ l6
                        · have hzn : decide (z2 < 0) = false := by
                            have := hz2.pos.2 hmem
                            simp; omega
                          have HALL := hid (part_ring HR.out HKR.out HQE.out hmem)
                          clear hz2 hmem cv d1
                          repeat (first
                            | (refine wpL_p (fun K hK => ?_); go_simp; refine hK _ _ ?_; clear hK K)
                            | (refine wpL_r (fun K hK => ?_); apply Exists.intro; refine ⟨fun w2 hw2 => ?_, hK _ _ ?_⟩; (have hk1 := hw2.cell; have hk3 := hw2.heap; clear hw2; go_simp; with_reducible rfl); clear hK K; simp only [Act.put, List.setIfInBounds_toArray, List.set_cons_zero, List.set_cons_succ])
                            | (refine wpL_yes rfl rfl ?_)
                            | (refine wpL_no rfl rfl (fun K hK => ?_); simp only [Act.put, List.setIfInBounds_toArray, List.set_cons_zero, List.set_cons_succ]; refine hK _ _ ?_; clear hK K)
                            | (refine wpL_nil ?_))
                          go_wp2_with fail
                          go_loopw [22] (fun i wr => ∃ s : Nat, s ≤ q ∧ i = .int .i64 s ∧ Below w6.heap.size w6 wr) (fun i _ => q - (intOf i).toNat)
                          case atStart => exact ⟨0, by omega, by go_num, B12.out.drew⟩
                          case round =>
                            obtain ⟨s, hs, rfl, hB13⟩ := hrel
                            have B13 := hid hB13
                            have z13 := hB13.size
                            clear hB13
                            by_cases hsq : s < q
                            · obtain ⟨gv2, e6, hgv, cv⟩ := OwnV.val (OwnF.below HV.out B13.out) HVN.out HU6.out
                              simp only [Option.some.injEq, Addr.mk.injEq, and_true] at e6
                              obtain rfl := e6
                              obtain ⟨b3, off3, t, e3, hb3, hx3, d1⟩ := (C6.out.below B13.out).ints hsq hcc
                              simp only [Option.some.injEq, Addr.mk.injEq, and_true] at e3
                              obtain ⟨rfl, rfl⟩ := e3
                              have htm := HALL.out t (List.mem_of_getElem? hx3)
                              clear hx3
                              go_wp2
                              refine wp_region_x [0, 0, 0, 1, 0, 0, 0, 1, 2, 0] [0, 1, 2, 3, 4, 5, 6, 7, 8, 9] (by kernel_rfl) (by kernel_rfl) rfl (by kernel_rfl) ?_
                              simp only [selX, guardAt, List.getElem?_cons_zero, List.getElem?_cons_succ, List.getD_cons_zero, List.getD_cons_succ]
                              repeat (first
                                | (refine wpL_p (fun K hK => ?_); go_simp; refine hK _ _ ?_; clear hK K)
                                | (refine wpL_r (fun K hK => ?_); apply Exists.intro; refine ⟨fun w2 hw2 => ?_, hK _ _ ?_⟩; (have hk1 := hw2.cell; have hk3 := hw2.heap; clear hw2; go_simp; with_reducible rfl); clear hK K; simp only [Act.put, List.setIfInBounds_toArray, List.set_cons_zero, List.set_cons_succ])
                                | (refine wpL_yes rfl rfl ?_)
                                | (refine wpL_no rfl rfl (fun K hK => ?_); simp only [Act.put, List.setIfInBounds_toArray, List.set_cons_zero, List.set_cons_succ]; refine hK _ _ ?_; clear hK K)
                                | (refine wpL_nil ?_))
                              refine wpL_e (fun K hK => ?_)
                              go_simp
                              refine (gr_place (w := wr.drew) (show LI wr.drew _ l6 from (HLU.out.keep (Keep.of_below B13.out)).sl) t).mono ?_
                              rintro e w8 ⟨z2, rfl, hz2, rfl⟩
                              refine hK _ _ ?_
                              clear hK K
                              have hzn2 : decide (z2 < 0) = false := by
                                have := hz2.pos.2 htm
                                simp; omega
                              clear hz2 htm cv d1
                              repeat (first
                                | (refine wpL_p (fun K hK => ?_); go_simp; refine hK _ _ ?_; clear hK K)
                                | (refine wpL_r (fun K hK => ?_); apply Exists.intro; refine ⟨fun w2 hw2 => ?_, hK _ _ ?_⟩; (have hk1 := hw2.cell; have hk3 := hw2.heap; clear hw2; go_simp; with_reducible rfl); clear hK K; simp only [Act.put, List.setIfInBounds_toArray, List.set_cons_zero, List.set_cons_succ])
                                | (refine wpL_yes rfl rfl ?_)
                                | (refine wpL_no rfl rfl (fun K hK => ?_); simp only [Act.put, List.setIfInBounds_toArray, List.set_cons_zero, List.set_cons_succ]; refine hK _ _ ?_; clear hK K)
                                | (refine wpL_nil ?_))
                              go_wp2_with fail
                              go_roundw
                              case rel => exact ⟨s + 1, by omega, by go_num, B13.out.drew⟩
                              case measure => simp [intOf]; omega
                            · obtain rfl : s = q := by omega
                              go_wp2_with fail
                              go_roundw
                              case rel => exact ⟨j + 1, by omega, by go_num, B13.out⟩
                              case measure => simp [intOf]; omega
                        · have hzn : decide (z2 < 0) = true := by
                            have := mt hz2.pos.1 hmem
                            simp; omega
                          clear hz2 hmem cv d1
                          repeat (first
                            | (refine wpL_p (fun K hK => ?_); go_simp; refine hK _ _ ?_; clear hK K)
                            | (refine wpL_r (fun K hK => ?_); apply Exists.intro; refine ⟨fun w2 hw2 => ?_, hK _ _ ?_⟩; (have hk1 := hw2.cell; have hk3 := hw2.heap; clear hw2; go_simp; with_reducible rfl); clear hK K; simp only [Act.put, List.setIfInBounds_toArray, List.set_cons_zero, List.set_cons_succ])
                            | (refine wpL_yes rfl rfl ?_)
                            | (refine wpL_no rfl rfl (fun K hK => ?_); simp only [Act.put, List.setIfInBounds_toArray, List.set_cons_zero, List.set_cons_succ]; refine hK _ _ ?_; clear hK K)
                            | (refine wpL_nil ?_))
                          go_wp2_with fail
                          go_roundw
                          case rel => exact ⟨j + 1, by omega, by go_num, B12.out.drew⟩
                          case measure => simp [intOf]; omega
                      · obtain rfl : j = qn := by omega
                        go_wp2
                        go_ret
                        exact ⟨rfl, BW.out.trans (B12.out.mono (by have := BW.out.size; exact this))⟩
          · have hzl : decide (0 ≤ z) = false := by rw [decide_eq_false_iff_not, hzp]; exact ht
            have hlb : (((j : Int) + 1) == (nl : Int)) = false := by
              have hne : j + 1 ≠ nl := fun h => by
                have hk2 : k ∈ N.take (j + 1) := by rw [List.take_of_length_le (by omega)]; exact hkN
                rcases (mem_take_step HX.out).1 hk2 with h2 | h2
                · exact HNT.out k h2 HKD.out
                · exact ht (by rw [← h2]; exact HKD.out)
              simp
              omega
            repeat (first
              | (refine wpL_p (fun K hK => ?_); go_simp; refine hK _ _ ?_; clear hK K)
              | (refine wpL_r (fun K hK => ?_); apply Exists.intro; refine ⟨fun w2 hw2 => ?_, hK _ _ ?_⟩; (have hk1 := hw2.cell; have hk3 := hw2.heap; clear hw2; go_simp; with_reducible rfl); clear hK K; simp only [Act.put, List.setIfInBounds_toArray, List.set_cons_zero, List.set_cons_succ])
              | (refine wpL_yes rfl rfl ?_)
              | (refine wpL_no rfl rfl (fun K hK => ?_); simp only [Act.put, List.setIfInBounds_toArray, List.set_cons_zero, List.set_cons_succ]; refine hK _ _ ?_; clear hK K)
              | (refine wpL_nil ?_))
            go_wp2_with fail
            go_roundw
            case rel => exact ⟨j + 1, by omega, by go_num, fun y hy => by
              rcases (mem_take_step HX.out).1 hy with h | rfl
              · exact HNT.out y h
              · exact ht, B7.out⟩
            case measure => simp [intOf]; omega
    · go_wp2
      go_ret
      exact ⟨rfl, B0.out⟩
  · go_wp2
    go_ret
    exact ⟨rfl, B0.out⟩
end
end Go.Proofs.Ytlmeblhcipkgmaa
