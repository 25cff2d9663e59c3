/- The law of relations of texts. Conditions: those of each theorem, as typed. -/
import Derived.Test.YtlmeblhcipkgmaaRelN
import Derived.Test.YtlmeblhcipkgmaaRefE
import Derived.Test.YtlmeblhcipkgmaaFits
import Derived.Test.YtlmeblhcipkgmaaBits
import Derived.IntWalk
namespace Go.Proofs.Ytlmeblhcipkgmaa
open Go.RowKit Go.Maps
set_option linter.unusedVariables false
attribute [local irreducible] wpL

theorem ownPN_at {w : World} {B n cap : Nat} {a : Option Addr} {l : List Pr} (h : Tx.OwnPN w B (.slice a n cap) l) (hl : l.length = n) {k : Nat} (hk : k < n) : ∃ g x, a = some ⟨g, 0, none⟩ ∧ B ≤ g ∧ g < w.heap.size ∧ l[k]? = some x ∧ w.cell? ⟨g, k * 2, none⟩ = some (nmV x.1) ∧ w.cell? ⟨g, k * 2 + 1, none⟩ = some (nmV x.2) := by
  have h0 := h.sl
  rcases h.form with ⟨-, rfl⟩ | ⟨g, cap', e, hB, hg⟩
  · simp at hl; omega
  · simp only [Value.slice.injEq] at e
    obtain ⟨rfl, e2, rfl⟩ := e
    subst hl
    obtain ⟨b, off, x, ha, hb, hx, hc, hd⟩ := Tx.sl_pairs h0 hk rfl
    simp only [Option.some.injEq, Addr.mk.injEq, and_true] at ha
    obtain ⟨rfl, rfl⟩ := ha
    exact ⟨g, x, rfl, hB, hg, hx, by simpa using hc, by simpa using hd⟩
section
variable {w : World} {v : Value}
set_option maxRecDepth 100000 in
set_option maxHeartbeats 2000000 in
theorem law_texts {l : List Pr} {n B : Nat} (h : Sl w B 2 v n (l.flatMap pairC)) (hn : l.length = n) (hB : B ≤ w.heap.size) :
    Calls Try.prog 4 #[v] w fun e w' => e = .returned (.bool true) ∧ Below w.heap.size w w' := by
  obtain ⟨al, cl, rfl, hm⟩ := h.ex
  have H := hid h
  have HN := hid hn
  clear h hn
  have hand := fun z => and15 z
  go_enter Try.func4, Try.ntmps4
  go_wp2_with fail
  refine (rel_first w).mono ?_
  rintro e w1 ⟨rfl, b1⟩
  have B1 := hid b1
  have z1 := b1.size
  clear b1
  by_cases hl : n ≤ 60
  · go_wp2_with fail
    refine (Tx.rel_new w1).mono ?_
    rintro e w2 ⟨p, rfl, r2, b2⟩
    have R2 := hid r2
    have B2 := hid (B1.out.trans (b2.mono z1))
    clear r2 b2 B1
    obtain ⟨S, hS⟩ : ∃ S, S = l.map lowP := ⟨_, rfl⟩
    have HS := hid hS
    clear hS
    go_wp2_with fail
    go_loopw [5, 6] (fun v i wr => ∃ k : Nat, k ≤ n ∧ i = .int .i64 k ∧ OwnF pairC 40 2 wr w.heap.size v (S.take k) ∧ Tx.RelAt wr w1.heap.size wr.heap.size p (putAll (S.take k)) ∧ Below w.heap.size w wr) (fun _ i _ => n - (intOf i).toNat)
    case atStart => exact ⟨0, by omega, by go_num, OwnF.nil _ _, R2.out, B2.out⟩
    case round =>
      obtain ⟨k, hk, rfl, hV, hR, hB2⟩ := hrel
      obtain ⟨a5, c5, rfl, hm5⟩ := hV.sl.ex
      have hLl : (putAll (S.take k)).length ≤ 100 := by
        have := length_putAll (S.take k)
        rw [List.length_take] at this
        omega
      have hSk : (S.take k).length ≤ 60 := by rw [List.length_take]; omega
      have hSd : ∀ x ∈ S.take k, (0 ≤ x.1 ∧ x.1 ≤ 15) ∧ 0 ≤ x.2 ∧ x.2 ≤ 15 := fun x hx => by
        have := List.mem_of_mem_take hx
        rw [HS.out] at this
        obtain ⟨y, -, rfl⟩ := List.mem_map.1 this
        exact lowP_in y
      have HSD := hid hSd
      have HR := hid hR
      have HV := hid hV
      have HB := hid hB2
      have hz := hB2.size
      clear hR hV hB2 hSd R2 B2
      by_cases hlt : k < n
      · obtain ⟨b, off, x, rfl, hb, hx, c1, c2⟩ := (H.out.below (HB.out.mono hB)).pairs hlt HN.out
        have hx2 : S[k]? = some (lowP x) := by rw [HS.out, List.getElem?_map, hx]; rfl
        have HSN := hid (@putAll_snoc (S.take k))
        generalize putAll (S.take k) = A at *
        have HT := hid (take_step hx2)
        clear hx hx2
        generalize S.take k = Sk at *
        go_wp2
        refine wp_region_x [0, 0, 0, 0, 1, 0, 0, 0, 0, 0, 1, 0, 0, 3, 2] [0, 1, 2, 3, 4, 5, 6, 7, 8, 9, 10, 11, 12, 13, 14] (by kernel_rfl) (by kernel_rfl) rfl (by kernel_rfl) ?_
        simp only [selX, guardAt, List.getElem?_cons_zero, List.getElem?_cons_succ, List.getD_cons_zero, List.getD_cons_succ]
        repeat (first
          | (refine wpL_p (fun K hK => ?_); go_simp; refine hK _ _ ?_; clear hK K)
          | (refine wpL_r (fun K hK => ?_); apply Exists.intro; refine ⟨fun w2 hw2 => ?_, hK _ _ ?_⟩; (have hk1 := hw2.cell; have hk3 := hw2.heap; clear hw2; go_simp; with_reducible rfl); clear hK K; simp only [Act.put, List.setIfInBounds_toArray, List.set_cons_zero, List.set_cons_succ])
          | (refine wpL_yes rfl rfl ?_)
          | (refine wpL_no rfl rfl (fun K hK => ?_); simp only [Act.put, List.setIfInBounds_toArray, List.set_cons_zero, List.set_cons_succ]; refine hK _ _ ?_; clear hK K)
          | (refine wpL_nil ?_))
        refine wpL_k (fun K hK => ?_)
        go_simp
        refine hK _ _ (Keeps.alloc _ _) ?_
        clear hK K
        refine wpL_e (fun K hK => ?_)
        go_simp
        refine hK _ _ ?_
        clear hK K
        refine wpL_nil ?_
        obtain ⟨⟨q1, q2⟩, q3, q4⟩ := lowP_in x
        have HT2 : Hid (S.take (k + 1) = Sk ++ [(x.1 % 16, x.2 % 16)]) := HT
        simp only [lowP] at q1 q2 q3 q4
        generalize x.1 % 16 = y1 at *
        generalize x.2 % 16 = y2 at *
        clear HT c1 c2
        have hzb : w.heap.size ≤ (wr.drew.alloc (.cells #[.int .i64 y1, .int .i64 y2] 40)).heap.size := by rw [World.size_alloc]; exact Nat.le_succ_of_le hz
        have O2 := hid (HV.out.drew.alloc (.cells #[.int .i64 y1, .int .i64 y2] 40))
        go_wp2_with (at_builtin; refine wpList_appF rfl _ _ _ rfl _ 16 Try.underlying22 infoL rfl O2.out (y1, y2) hzb (by rfl) (by rfl) (by first | rfl | simp) rfl (pr_one _) (by first | omega | (simp only [List.length_append, List.length_cons, List.length_nil, List.length_replicate]; omega)) (by first | omega | (simp only [List.length_append, List.length_cons, List.length_nil, List.length_replicate]; omega)) ?_; refine Stop.halt ?_)
        refine Stop.go ?_
        intro g3 c3 w3 h3 G3
        have zw3 : wr.heap.size ≤ w3.heap.size := Nat.le_of_lt (Nat.lt_of_lt_of_le (by show wr.heap.size < (wr.heap.push _).size; rw [Array.size_push]; exact Nat.lt_succ_self _) G3.size)
        have hr3 : w3.heap[wr.heap.size]? = _ := row_grw (row_new wr.drew (.cells #[.int .i64 y1, .int .i64 y2] 40)) G3 (fun e => by have := (HV.out.lt _ e).2; exact Nat.lt_irrefl _ this)
        have d1 : w3.cell? ⟨wr.heap.size, 0, none⟩ = some (.int .i64 y1) := row_cell hr3 0
        have d2 : w3.cell? ⟨wr.heap.size, 1, none⟩ = some (.int .i64 y2) := row_cell hr3 1
        have R3 := hid (((HR.out.below (((Below.refl wr.heap.size wr).drew).alloc (Nat.le_refl _) (.cells #[.int .i64 y1, .int .i64 y2] 40)) (Nat.le_refl _)).grow G3.grown (fun q hq => by
          obtain ⟨cs, hcs⟩ := (HV.out.drew.alloc (.cells #[.int .i64 y1, .int .i64 y2] 40)).keepObj q hq
          refine ⟨fun e => ?_, _, hcs, fun _ _ e => by cases e⟩
          subst e
          obtain ⟨b', hb'⟩ := (HR.out.below (((Below.refl wr.heap.size wr).drew).alloc (Nat.le_refl _) (.cells #[.int .i64 y1, .int .i64 y2] 40)) (Nat.le_refl _)).ptr
          rw [hb'] at hcs
          simp at hcs)).raise (hi' := w3.heap.size) zw3)
        have H3 := hid h3
        have B3 := hid ((HB.out.drew.alloc hz _).trans (G3.below hzb fun q hq => (HV.out.lt q hq).1))
        clear h3 hr3 G3 HR HV HB
        have k1 : (0 : Int) ≤ y1 + 1 := by omega
        have k2 : y1 + 1 ≤ 16 := by omega
        have k3 : y1 ≤ y1 + 1 := by omega
        have k4 : (0 : Int) ≤ y2 + 1 := by omega
        have k5 : y2 + 1 ≤ 16 := by omega
        have k6 : y2 ≤ y2 + 1 := by omega
        have k9 : ¬ 9223372036854775807 < 1 + ((y1 + 1).toNat - y1.toNat) := by omega
        have k10 : ¬ 9223372036854775807 < 1 + ((y2 + 1).toNat - y2.toNat) := by omega
        have k7 : IntKind.i64.wrap (y1 + 1) = y1 + 1 := IntWalk.i64_in _ (by omega)
        have k8 : IntKind.i64.wrap (y2 + 1) = y2 + 1 := IntWalk.i64_in _ (by omega)
        go_wp2
        refine wp_region_x [0, 0, 1, 0, 1, 0, 0, 0, 0, 1, 0, 1, 0, 0, 0, 2] [0, 1, 2, 3, 4, 5, 6, 7, 8, 9, 10, 11, 12, 13, 14, 15] (by kernel_rfl) (by kernel_rfl) rfl (by kernel_rfl) ?_
        simp only [selX, guardAt, List.getElem?_cons_zero, List.getElem?_cons_succ, List.getD_cons_zero, List.getD_cons_succ]
        repeat (first
          | (refine wpL_p (fun K hK => ?_); go_simp; refine hK _ _ ?_; clear hK K)
          | (refine wpL_r (fun K hK => ?_); apply Exists.intro; refine ⟨fun w2 hw2 => ?_, hK _ _ ?_⟩; (have hk1 := hw2.cell; have hk3 := hw2.heap; clear hw2; go_simp; with_reducible rfl); clear hK K; simp only [Act.put, List.setIfInBounds_toArray, List.set_cons_zero, List.set_cons_succ])
          | (refine wpL_yes rfl rfl ?_)
          | (refine wpL_no rfl rfl (fun K hK => ?_); simp only [Act.put, List.setIfInBounds_toArray, List.set_cons_zero, List.set_cons_succ]; refine hK _ _ ?_; clear hK K)
          | (refine wpL_nil ?_))
        refine wpL_e (fun K hK => ?_)
        go_simp
        rw [name_eq q1 q2, name_eq q3 q4]
        clear k1 k2 k3 k4 k5 k6 k7 k8 k9 k10 d1 d2
        refine (Tx.rel_add (R3.out.below ((Below.refl w3.heap.size w3).drew) (Nat.le_refl _)) (Nat.le_refl _) (by omega) y1 y2 ⟨by omega, q2⟩ ⟨by omega, q4⟩).mono ?_
        rintro e w4 ⟨rfl, r4, k4, b4⟩
        refine hK _ _ ?_
        clear hK K
        have R4 := hid r4
        have H4 := hid ((show OwnF pairC 40 2 w3.drew _ _ _ from H3.out.drew).keepC k4)
        have B4 := hid (B3.out.drew.trans (b4.mono z1))
        clear r4 k4 b4 H3 R3 B3
        repeat (first
          | (refine wpL_p (fun K hK => ?_); go_simp; refine hK _ _ ?_; clear hK K)
          | (refine wpL_r (fun K hK => ?_); apply Exists.intro; refine ⟨fun w2 hw2 => ?_, hK _ _ ?_⟩; (have hk1 := hw2.cell; have hk3 := hw2.heap; clear hw2; go_simp; with_reducible rfl); clear hK K; simp only [Act.put, List.setIfInBounds_toArray, List.set_cons_zero, List.set_cons_succ])
          | (refine wpL_yes rfl rfl ?_)
          | (refine wpL_no rfl rfl (fun K hK => ?_); simp only [Act.put, List.setIfInBounds_toArray, List.set_cons_zero, List.set_cons_succ]; refine hK _ _ ?_; clear hK K)
          | (refine wpL_nil ?_))
        go_wp2_with fail
        go_roundw
        case rel => exact ⟨k + 1, by omega, by go_num, by rw [HT2.out]; simpa using H4.out, by rw [HT2.out, HSN.out]; exact R4.out, B4.out⟩
        case measure => simp [intOf]; omega
      · obtain rfl : k = n := by omega
        generalize S.take k = Sk at *
        have hMA := area_put (l := Sk) rfl hSk
        go_wp2_with fail
        refine (rel_made (l := Sk) HV.out.sl rfl (Nat.le_refl _) (fun x hx => by obtain ⟨⟨h1, h2⟩, h3, h4⟩ := HSD.out x hx; exact ⟨dI_small h1 h2, dI_small h3 h4⟩) (by omega)).mono ?_
        rintro e w5 ⟨p5, v5, rfl, r5, l5, b5⟩
        obtain ⟨a6, c6, m, rfl, hLm, hm2, l5⟩ := LP.open l5
        have HMD := hid (fun x (hx : x ∈ putAll Sk) => HSD.out x (mem_putAll.1 hx))
        generalize putAll Sk = M at *
        have HSR := hid r5.srt
        have V5 := hid l5
        have HLM := hid hLm
        have R5 := hid ((HR.out.below b5 (Nat.le_refl _)).raise b5.size)
        have B5 := hid (HB.out.trans (b5.mono hz))
        clear r5 l5 hLm b5 HR HV HB
        go_wp2_with fail
        refine (Tx.rel_closure R5.out (Nat.le_refl _) hMA).mono ?_
        rintro e w6 ⟨p6, C, rfl, r6, hc6, b6⟩
        have HC := hid hc6
        have hCl : C.length ≤ 1000000 := Nat.le_trans (clo_le hc6) hMA
        have R6 := hid ((R5.out.below b6 (Nat.le_refl _)).raise b6.size)
        have V6 := hid (Sl.up V5.out (Keep.of_below b6))
        have C6 := hid r6
        have B6 := hid (B5.out.trans (b6.mono B5.out.size))
        clear r6 hc6 b6 R5 V5 B5
        go_wp2_with fail
        refine (ref_closure (v := .slice a6 m c6) (LP.of V6.out HLM.out) HSR.out hMA).mono ?_
        rintro e w7 ⟨v7, C7, rfl, l7, hc7, b7⟩
        rw [hc7.uniq HC.out] at l7
        obtain ⟨a7, c7, n7, rfl, hLC, hm7, l7⟩ := LP.open l7
        have W7 := hid l7
        have HLC := hid hLC
        have R7 := hid ((R6.out.below b7 (Nat.le_refl _)).raise b7.size)
        have C7 := hid ((C6.out.below b7 (Nat.le_refl _)).raise b7.size)
        have V7 := hid (Sl.up V6.out (Keep.of_below b7))
        have B7 := hid (B6.out.trans (b7.mono B6.out.size))
        clear hc7 l7 hLC b7 R6 C6 V6 B6
        have hne1 : ((m : Int) != (m : Int)) = false := by simp
        have hne2 : ((n7 : Int) != (n7 : Int)) = false := by simp
        have heq : ((n7 : Int) == (n7 : Int)) = true := by simp
        go_wp2_with fail
        refine (Tx.rel_len R7.out (Nat.le_refl _) (by omega)).mono ?_
        rintro e w8 ⟨rfl, b8⟩
        rw [HLM.out]
        have R8 := hid ((R7.out.below b8 (Nat.le_refl _)).raise b8.size)
        have C8 := hid ((C7.out.below b8 (Nat.le_refl _)).raise b8.size)
        have V8 := hid (Sl.up V7.out (Keep.of_below b8))
        have W8 := hid (Sl.up W7.out (Keep.of_below b8))
        have B8 := hid (B7.out.trans (b8.mono B7.out.size))
        clear b8 R7 C7 V7 W7 B7
        go_wp2_with fail
        refine (Tx.rel_len C8.out (Nat.le_refl _) hCl).mono ?_
        rintro e w9 ⟨rfl, b9⟩
        rw [HLC.out]
        have R9 := hid ((R8.out.below b9 (Nat.le_refl _)).raise b9.size)
        have C9 := hid ((C8.out.below b9 (Nat.le_refl _)).raise b9.size)
        have V9 := hid (Sl.up V8.out (Keep.of_below b9))
        have W9 := hid (Sl.up W8.out (Keep.of_below b9))
        have B9 := hid (B8.out.trans (b9.mono B8.out.size))
        clear b9 R8 C8 V8 W8 B8
        go_wp2_with fail
        refine (Tx.rel_pairs C9.out (Nat.le_refl _) hCl).mono ?_
        rintro e wA ⟨vA, rfl, hA, bA⟩
        obtain ⟨aA, cA, rfl, -⟩ := hA.sl.ex
        rw [HLC.out] at hA ⊢
        have RA := hid ((R9.out.below bA (Nat.le_refl _)).raise bA.size)
        have VA := hid (Sl.up V9.out (Keep.of_below bA))
        have WA := hid (Sl.up W9.out (Keep.of_below bA))
        have PA := hid hA
        have BA := hid (B9.out.trans (bA.mono B9.out.size))
        clear bA hA R9 C9 V9 W9 B9
        have HCD := hid (fun x (hx : x ∈ C) => HC.out.dom (dom := fun x => 0 ≤ x ∧ x ≤ 15) (l := M) HMD.out x hx)
        go_wp2_with fail
        go_loopw [13] (fun i wq => ∃ j : Nat, j ≤ n7 ∧ i = .int .i64 j ∧ Tx.OwnPN wq w9.heap.size (.slice aA n7 cA) C ∧ Sl wq wq.heap.size 2 (.slice a7 n7 c7) n7 (C.flatMap pairC) ∧ Below wA.heap.size wA wq) (fun i _ => n7 - (intOf i).toNat)
        case atStart => exact ⟨0, by omega, by go_num, PA.out, WA.out, Below.refl _ _⟩
        case round =>
          obtain ⟨j, hj, rfl, hP, hW, hB3⟩ := hrel
          have PB := hid hP
          have WB := hid hW
          have BB := hid hB3
          clear hP hW hB3 PA WA
          by_cases hlj : j < n7
          · obtain ⟨g, x, rfl, -, hg, hx, d1, d2⟩ := ownPN_at PB.out HLC.out hlj
            obtain ⟨b, off, y, rfl, hb2, hy, c2, c3⟩ := WB.out.pairs hlj HLC.out
            obtain rfl : x = y := by rw [hx] at hy; exact Option.some.inj hy
            obtain ⟨⟨q1, q2⟩, q3, q4⟩ := HCD.out x (List.mem_of_getElem? hx)
            clear hx hy
            obtain ⟨y1, y2⟩ := x
            simp only at q1 q2 q3 q4 d1 d2 c2 c3
            have hq1 : ((nmB y1).toList == (({ data := #[120] } : ByteArray) ++ ({ data := #[97, 98, 99, 100, 101, 102, 103, 104, 105, 106, 107, 108, 109, 110, 111, 112] } : ByteArray).extract y1.toNat (y1 + 1).toNat).toList) = true := by rw [name_eq q1 q2]; simp
            have hq2 : ((nmB y2).toList == (({ data := #[120] } : ByteArray) ++ ({ data := #[97, 98, 99, 100, 101, 102, 103, 104, 105, 106, 107, 108, 109, 110, 111, 112] } : ByteArray).extract y2.toNat (y2 + 1).toNat).toList) = true := by rw [name_eq q3 q4]; simp
            have k1 : (0 : Int) ≤ y1 + 1 := by omega
            have k2 : y1 + 1 ≤ 16 := by omega
            have k3 : y1 ≤ y1 + 1 := by omega
            have k4 : (0 : Int) ≤ y2 + 1 := by omega
            have k5 : y2 + 1 ≤ 16 := by omega
            have k6 : y2 ≤ y2 + 1 := by omega
            have k9 : ¬ 9223372036854775807 < 1 + ((y1 + 1).toNat - y1.toNat) := by omega
            have k10 : ¬ 9223372036854775807 < 1 + ((y2 + 1).toNat - y2.toNat) := by omega
            have k7 : IntKind.i64.wrap (y1 + 1) = y1 + 1 := IntWalk.i64_in _ (by omega)
            have k8 : IntKind.i64.wrap (y2 + 1) = y2 + 1 := IntWalk.i64_in _ (by omega)
            go_wp2
            refine wp_region_x [0, 0, 0, 0, 1, 0, 0, 0, 0, 1, 0, 0, 0, 0, 1, 0, 0, 0, 0, 0, 0, 0, 0, 0, 1, 0, 0, 0, 0, 1, 0, 0, 0, 0, 1, 0, 0, 0, 0, 0] [0, 1, 2, 3, 4, 5, 6, 7, 8, 9, 10, 11, 12, 13, 14, 15, 16, 17, 18, 19, 20, 21, 22, 23, 24, 25, 26, 27, 28, 29, 30, 31, 32, 33, 34, 35, 36, 37, 38, 39] (by kernel_rfl) (by kernel_rfl) rfl (by kernel_rfl) ?_
            simp only [selX, guardAt, List.getElem?_cons_zero, List.getElem?_cons_succ, List.getD_cons_zero, List.getD_cons_succ, Option.bind_some]
            repeat (first
              | (refine wpL_p (fun K hK => ?_); go_simp; refine hK _ _ ?_; clear hK K)
              | (refine wpL_r (fun K hK => ?_); apply Exists.intro; refine ⟨fun w2 hw2 => ?_, hK _ _ ?_⟩; (have hk1 := hw2.cell; have hk3 := hw2.heap; clear hw2; go_simp; with_reducible rfl); clear hK K; simp only [Act.put, List.setIfInBounds_toArray, List.set_cons_zero, List.set_cons_succ])
              | (refine wpL_yes rfl rfl ?_)
              | (refine wpL_no rfl rfl (fun K hK => ?_); simp only [Act.put, List.setIfInBounds_toArray, List.set_cons_zero, List.set_cons_succ]; refine hK _ _ ?_; clear hK K)
              | (refine wpL_nil ?_))
            clear k1 k2 k3 k4 k5 k6 k7 k8 k9 k10 hq1 hq2
            go_wp2_with fail
            go_roundw
            case rel => exact ⟨j + 1, by omega, by go_num, PB.out.drew, WB.out, BB.out.drew⟩
            case measure => simp [intOf]; omega
          · obtain rfl : j = n7 := by omega
            have hbe : ∀ q : Bool, (q == q) = true := fun q => by cases q <;> rfl
            have hbq := hbe (hasCircle C)
            clear hbe
            go_wp2_with fail
            refine (Tx.rel_circle (RA.out.below BB.out (Nat.le_refl _)) BB.out.size hMA).mono ?_
            rintro e wC ⟨C1, hC1, rfl, bC⟩
            obtain rfl := hC1.uniq HC.out
            have VC := hid (Sl.up (Sl.up VA.out (Keep.of_below BB.out)) (Keep.of_below bC))
            have BC := hid (BB.out.trans (bC.mono BB.out.size))
            clear hC1 bC PB WB BB
            go_wp2_with fail
            refine (ref_circle (v := .slice a6 m c6) (LP.of VC.out HLM.out) HSR.out hMA).mono ?_
            rintro e wD ⟨C2, hC2, rfl, bD⟩
            rw [hC2.uniq HC.out]
            have BD := hid (BA.out.trans ((BC.out.trans (bD.mono BC.out.size)).mono BA.out.size))
            clear hC2 bD BC VC
            go_wp2
            go_ret
            exact ⟨rfl, BD.out⟩
  · go_wp2
    go_ret
    exact ⟨rfl, B1.out⟩
end
end Go.Proofs.Ytlmeblhcipkgmaa
