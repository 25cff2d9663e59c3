/- The law that plays with relations. Conditions: those of each theorem, as typed. -/
import Derived.Test.YtlmeblhcipkgmaaRelN
namespace Go.Proofs.Ytlmeblhcipkgmaa
open Go.RowKit Go.Maps
attribute [local irreducible] wpL

theorem LI.ofS {w : World} {v : Value} {l : List Int} (h : Sl w w.heap.size 1 v l.length (l.flatMap intC)) : LI w v l := h
section
variable {w : World} {v : Value}
set_option maxRecDepth 100000 in
set_option maxHeartbeats 2000000 in
theorem law_plays {l : List Pr} {n B : Nat} (h : Sl w B 2 v n (l.flatMap pairC)) (hn : l.length = n) (hB : B ≤ w.heap.size) (hd : ∀ x ∈ l, dI x.1 ∧ dI x.2) (a c : Int) (ha : dI a) (hc : dI c) :
    Calls Try.prog 7 #[v, .int .i64 a, .int .i64 c] w fun e w' => e = .returned (.bool true) ∧ Below w.heap.size w w' := by
  obtain ⟨al, cl, rfl, hm⟩ := h.ex
  have H := hid h
  have HN := hid hn
  have HD := hid hd
  clear h hn hd
  go_enter Try.func7, Try.ntmps7
  go_wp2_with fail
  refine (rel_first w).mono ?_
  rintro e w1 ⟨rfl, b1⟩
  have B1 := hid b1
  have z1 := b1.size
  clear b1
  by_cases hl : n ≤ 60
  · go_wp2_with fail
    refine (rel_new w1).mono ?_
    rintro e w2 ⟨p, rfl, r2, b2⟩
    have R2 := hid r2
    have B2 := hid (B1.out.trans (b2.mono z1))
    clear r2 b2 B1
    go_wp2_with fail
    go_loopw [9, 10] (fun v i wr => ∃ k : Nat, k ≤ n ∧ i = .int .i64 k ∧ RelAt wr w1.heap.size wr.heap.size p (putAll (l.take k)) ∧ LP wr v (putAll (l.take k)) ∧ Below w.heap.size w wr) (fun _ i _ => n - (intOf i).toNat)
    case atStart => exact ⟨0, by omega, by go_num, R2.out, (OwnF.nil (f := pairC) (e := 51) (sz := 2) w2 0).sl, B2.out⟩
    case round =>
      obtain ⟨k, hk, rfl, hR, hV, hB2⟩ := hrel
      obtain ⟨a5, c5, rfl, -⟩ := Sl.ex hV
      have hLl : (putAll (l.take k)).length ≤ 100 := by
        have := length_putAll (l.take k)
        rw [List.length_take] at this
        omega
      have HSN := hid (@putAll_snoc (l.take k))
      have HSR := hid hR.srt
      generalize putAll (l.take k) = A at *
      have HR := hid hR
      have HV := hid hV
      have HB := hid hB2
      have hz := hB2.size
      clear hR hV hB2 R2 B2
      by_cases hlt : k < n
      · obtain ⟨b, off, x, rfl, hb, hx, c1, c2⟩ := (H.out.below (HB.out.mono hB)).pairs hlt HN.out
        have hxd := HD.out x (List.mem_of_getElem? hx)
        have HT := hid (take_step hx)
        clear hx
        by_cases hin : (x.1, x.2) ∈ A
        · have hd1 : decide ((x.1, x.2) ∈ A) = true := by simpa using hin
          have hd2 : decide ((x.1, x.2) ∉ A) = false := by simpa using hin
          clear hin
          go_wp2
          refine wp_region_x [0, 0, 0, 0, 0, 1, 0, 0, 0, 0, 1, 2, 0, 0] [0, 1, 2, 3, 4, 5, 6, 7, 8, 9, 10, 11, 12, 13] (by kernel_rfl) (by kernel_rfl) rfl (by kernel_rfl) ?_
          simp only [selX, guardAt, List.getElem?_cons_zero, List.getElem?_cons_succ, List.getD_cons_zero, List.getD_cons_succ]
          repeat (first
            | (refine wpL_p (fun K hK => ?_); go_simp; refine hK _ _ ?_; clear hK K)
            | (refine wpL_r (fun K hK => ?_); apply Exists.intro; refine ⟨fun w2 hw2 => ?_, hK _ _ ?_⟩; (have hk1 := hw2.cell; have hk3 := hw2.heap; clear hw2; go_simp; with_reducible rfl); clear hK K; simp only [Act.put, List.setIfInBounds_toArray, List.set_cons_zero, List.set_cons_succ])
            | (refine wpL_yes rfl rfl ?_)
            | (refine wpL_no rfl rfl (fun K hK => ?_); simp only [Act.put, List.setIfInBounds_toArray, List.set_cons_zero, List.set_cons_succ]; refine hK _ _ ?_; clear hK K)
            | (refine wpL_nil ?_))
          refine wpL_e (fun K hK => ?_)
          go_simp
          refine (ref_has (v := .slice a5 A.length c5) (L := A) (show LP wr.drew _ A from HV.out.drew) x.1 x.2).mono ?_
          rintro e w3 ⟨rfl, rfl⟩
          rw [hd1]
          refine hK _ _ ?_
          clear hK K
          repeat (first
            | (refine wpL_p (fun K hK => ?_); go_simp; refine hK _ _ ?_; clear hK K)
            | (refine wpL_r (fun K hK => ?_); apply Exists.intro; refine ⟨fun w2 hw2 => ?_, hK _ _ ?_⟩; (have hk1 := hw2.cell; have hk3 := hw2.heap; clear hw2; go_simp; with_reducible rfl); clear hK K; simp only [Act.put, List.setIfInBounds_toArray, List.set_cons_zero, List.set_cons_succ])
            | (refine wpL_yes rfl rfl ?_)
            | (refine wpL_no rfl rfl (fun K hK => ?_); simp only [Act.put, List.setIfInBounds_toArray, List.set_cons_zero, List.set_cons_succ]; refine hK _ _ ?_; clear hK K)
            | (refine wpL_nil ?_))
          go_wp2
          refine wp_region_x [0, 0, 0, 0, 0, 1, 0, 0, 0, 0, 1, 2, 0, 0, 0, 0, 0, 0, 0, 0, 1, 0, 0, 0, 0, 1, 2, 0, 0, 0] [0, 1, 2, 3, 4, 5, 6, 7, 8, 9, 10, 12, 11, 13, 14, 15, 16, 17, 18, 19, 20, 21, 22, 23, 24, 25, 27, 26, 28, 29] (by kernel_rfl) (by kernel_rfl) rfl (by kernel_rfl) ?_
          simp only [selX, guardAt, List.getElem?_cons_zero, List.getElem?_cons_succ, List.getD_cons_zero, List.getD_cons_succ, Option.bind_some]
          repeat (first
            | (refine wpL_p (fun K hK => ?_); go_simp; refine hK _ _ ?_; clear hK K)
            | (refine wpL_r (fun K hK => ?_); apply Exists.intro; refine ⟨fun w2 hw2 => ?_, hK _ _ ?_⟩; (have hk1 := hw2.cell; have hk3 := hw2.heap; clear hw2; go_simp; with_reducible rfl); clear hK K; simp only [Act.put, List.setIfInBounds_toArray, List.set_cons_zero, List.set_cons_succ])
            | (refine wpL_yes rfl rfl ?_)
            | (refine wpL_no rfl rfl (fun K hK => ?_); simp only [Act.put, List.setIfInBounds_toArray, List.set_cons_zero, List.set_cons_succ]; refine hK _ _ ?_; clear hK K)
            | (refine wpL_nil ?_))
          refine wpL_e (fun K hK => ?_)
          go_simp
          refine (rel_has (HR.out.below ((Below.refl wr.heap.size wr).drew.drew) (Nat.le_refl _)) x.1 x.2 hxd.1 hxd.2).mono ?_
          rintro e w3 ⟨rfl, rfl⟩
          rw [hd1]
          refine hK _ _ ?_
          clear hK K
          repeat (first
            | (refine wpL_p (fun K hK => ?_); go_simp; refine hK _ _ ?_; clear hK K)
            | (refine wpL_r (fun K hK => ?_); apply Exists.intro; refine ⟨fun w2 hw2 => ?_, hK _ _ ?_⟩; (have hk1 := hw2.cell; have hk3 := hw2.heap; clear hw2; go_simp; with_reducible rfl); clear hK K; simp only [Act.put, List.setIfInBounds_toArray, List.set_cons_zero, List.set_cons_succ])
            | (refine wpL_yes rfl rfl ?_)
            | (refine wpL_no rfl rfl (fun K hK => ?_); simp only [Act.put, List.setIfInBounds_toArray, List.set_cons_zero, List.set_cons_succ]; refine hK _ _ ?_; clear hK K)
            | (refine wpL_nil ?_))
          refine wpL_e (fun K hK => ?_)
          go_simp
          refine (rel_add (HR.out.below ((Below.refl wr.heap.size wr).drew.drew) (Nat.le_refl _)) (Nat.le_refl _) (by omega) x.1 x.2 hxd.1 hxd.2).mono ?_
          rintro e w3 ⟨rfl, r3, k3, b3⟩
          rw [hd2]
          refine hK _ _ ?_
          clear hK K
          have R3 := hid r3
          have V3 := hid (Sl.up (show Sl wr.drew.drew wr.drew.drew.heap.size 2 _ _ _ from HV.out.drew.drew) k3)
          have B3 := hid (HB.out.drew.drew.trans (b3.mono z1))
          have z3 : wr.heap.size ≤ w3.heap.size := k3.size
          have c1' := cell_keep k3 (show wr.drew.drew.cell? _ = _ from c1)
          have c2' := cell_keep k3 (show wr.drew.drew.cell? _ = _ from c2)
          clear r3 k3 b3 c1 c2 HR HV HB hd1 hd2
          repeat (first
            | (refine wpL_p (fun K hK => ?_); go_simp; refine hK _ _ ?_; clear hK K)
            | (refine wpL_r (fun K hK => ?_); apply Exists.intro; refine ⟨fun w2 hw2 => ?_, hK _ _ ?_⟩; (have hk1 := hw2.cell; have hk3 := hw2.heap; clear hw2; go_simp; with_reducible rfl); clear hK K; simp only [Act.put, List.setIfInBounds_toArray, List.set_cons_zero, List.set_cons_succ])
            | (refine wpL_yes rfl rfl ?_)
            | (refine wpL_no rfl rfl (fun K hK => ?_); simp only [Act.put, List.setIfInBounds_toArray, List.set_cons_zero, List.set_cons_succ]; refine hK _ _ ?_; clear hK K)
            | (refine wpL_nil ?_))
          go_wp2
          refine wp_region_x [0, 0, 0, 0, 0, 1, 0, 0, 0, 0, 1, 2, 0] [0, 1, 2, 3, 4, 5, 6, 7, 8, 9, 10, 11, 12] (by kernel_rfl) (by kernel_rfl) rfl (by kernel_rfl) ?_
          simp only [selX, guardAt, List.getElem?_cons_zero, List.getElem?_cons_succ, List.getD_cons_zero, List.getD_cons_succ]
          repeat (first
            | (refine wpL_p (fun K hK => ?_); go_simp; refine hK _ _ ?_; clear hK K)
            | (refine wpL_r (fun K hK => ?_); apply Exists.intro; refine ⟨fun w2 hw2 => ?_, hK _ _ ?_⟩; (have hk1 := hw2.cell; have hk3 := hw2.heap; clear hw2; go_simp; with_reducible rfl); clear hK K; simp only [Act.put, List.setIfInBounds_toArray, List.set_cons_zero, List.set_cons_succ])
            | (refine wpL_yes rfl rfl ?_)
            | (refine wpL_no rfl rfl (fun K hK => ?_); simp only [Act.put, List.setIfInBounds_toArray, List.set_cons_zero, List.set_cons_succ]; refine hK _ _ ?_; clear hK K)
            | (refine wpL_nil ?_))
          refine wpL_e (fun K hK => ?_)
          go_simp
          refine (ref_put (v := .slice a5 A.length c5) (l := A) (show LP w3.drew _ A from V3.out.drew) HSR.out (by omega) x.1 x.2).mono ?_
          rintro e w4 ⟨v4, rfl, h4, b4⟩
          refine hK _ _ ?_
          clear hK K
          have H4 := hid h4
          have B4 := hid (B3.out.drew.trans (b4.mono B3.out.size))
          have R4 := hid ((R3.out.below ((Below.refl w3.heap.size w3).drew.trans b4) (Nat.le_refl _)).raise b4.size)
          clear h4 b4 R3 V3 B3 c1' c2'
          repeat (first
            | (refine wpL_p (fun K hK => ?_); go_simp; refine hK _ _ ?_; clear hK K)
            | (refine wpL_r (fun K hK => ?_); apply Exists.intro; refine ⟨fun w2 hw2 => ?_, hK _ _ ?_⟩; (have hk1 := hw2.cell; have hk3 := hw2.heap; clear hw2; go_simp; with_reducible rfl); clear hK K; simp only [Act.put, List.setIfInBounds_toArray, List.set_cons_zero, List.set_cons_succ])
            | (refine wpL_yes rfl rfl ?_)
            | (refine wpL_no rfl rfl (fun K hK => ?_); simp only [Act.put, List.setIfInBounds_toArray, List.set_cons_zero, List.set_cons_succ]; refine hK _ _ ?_; clear hK K)
            | (refine wpL_nil ?_))
          go_wp2_with fail
          go_roundw
          case rel => exact ⟨k + 1, by omega, by go_num, by rw [HT.out, HSN.out]; exact R4.out, by rw [HT.out, HSN.out]; exact H4.out, B4.out⟩
          case measure => simp [intOf]; omega
        · have hd1 : decide ((x.1, x.2) ∈ A) = false := by simpa using hin
          have hd2 : decide ((x.1, x.2) ∉ A) = true := by simpa using hin
          clear hin
          go_wp2
          refine wp_region_x [0, 0, 0, 0, 0, 1, 0, 0, 0, 0, 1, 2, 0, 0] [0, 1, 2, 3, 4, 5, 6, 7, 8, 9, 10, 11, 12, 13] (by kernel_rfl) (by kernel_rfl) rfl (by kernel_rfl) ?_
          simp only [selX, guardAt, List.getElem?_cons_zero, List.getElem?_cons_succ, List.getD_cons_zero, List.getD_cons_succ]
          repeat (first
            | (refine wpL_p (fun K hK => ?_); go_simp; refine hK _ _ ?_; clear hK K)
            | (refine wpL_r (fun K hK => ?_); apply Exists.intro; refine ⟨fun w2 hw2 => ?_, hK _ _ ?_⟩; (have hk1 := hw2.cell; have hk3 := hw2.heap; clear hw2; go_simp; with_reducible rfl); clear hK K; simp only [Act.put, List.setIfInBounds_toArray, List.set_cons_zero, List.set_cons_succ])
            | (refine wpL_yes rfl rfl ?_)
            | (refine wpL_no rfl rfl (fun K hK => ?_); simp only [Act.put, List.setIfInBounds_toArray, List.set_cons_zero, List.set_cons_succ]; refine hK _ _ ?_; clear hK K)
            | (refine wpL_nil ?_))
          refine wpL_e (fun K hK => ?_)
          go_simp
          refine (ref_has (v := .slice a5 A.length c5) (L := A) (show LP wr.drew _ A from HV.out.drew) x.1 x.2).mono ?_
          rintro e w3 ⟨rfl, rfl⟩
          rw [hd1]
          refine hK _ _ ?_
          clear hK K
          repeat (first
            | (refine wpL_p (fun K hK => ?_); go_simp; refine hK _ _ ?_; clear hK K)
            | (refine wpL_r (fun K hK => ?_); apply Exists.intro; refine ⟨fun w2 hw2 => ?_, hK _ _ ?_⟩; (have hk1 := hw2.cell; have hk3 := hw2.heap; clear hw2; go_simp; with_reducible rfl); clear hK K; simp only [Act.put, List.setIfInBounds_toArray, List.set_cons_zero, List.set_cons_succ])
            | (refine wpL_yes rfl rfl ?_)
            | (refine wpL_no rfl rfl (fun K hK => ?_); simp only [Act.put, List.setIfInBounds_toArray, List.set_cons_zero, List.set_cons_succ]; refine hK _ _ ?_; clear hK K)
            | (refine wpL_nil ?_))
          go_wp2
          refine wp_region_x [0, 0, 0, 0, 0, 1, 0, 0, 0, 0, 1, 2, 0, 0, 0, 0, 0, 0, 0, 0, 1, 0, 0, 0, 0, 1, 2, 0, 0, 0] [0, 1, 2, 3, 4, 5, 6, 7, 8, 9, 10, 12, 11, 13, 14, 15, 16, 17, 18, 19, 20, 21, 22, 23, 24, 25, 27, 26, 28, 29] (by kernel_rfl) (by kernel_rfl) rfl (by kernel_rfl) ?_
          simp only [selX, guardAt, List.getElem?_cons_zero, List.getElem?_cons_succ, List.getD_cons_zero, List.getD_cons_succ, Option.bind_some]
          repeat (first
            | (refine wpL_p (fun K hK => ?_); go_simp; refine hK _ _ ?_; clear hK K)
            | (refine wpL_r (fun K hK => ?_); apply Exists.intro; refine ⟨fun w2 hw2 => ?_, hK _ _ ?_⟩; (have hk1 := hw2.cell; have hk3 := hw2.heap; clear hw2; go_simp; with_reducible rfl); clear hK K; simp only [Act.put, List.setIfInBounds_toArray, List.set_cons_zero, List.set_cons_succ])
            | (refine wpL_yes rfl rfl ?_)
            | (refine wpL_no rfl rfl (fun K hK => ?_); simp only [Act.put, List.setIfInBounds_toArray, List.set_cons_zero, List.set_cons_succ]; refine hK _ _ ?_; clear hK K)
            | (refine wpL_nil ?_))
          refine wpL_e (fun K hK => ?_)
          go_simp
          refine (rel_has (HR.out.below ((Below.refl wr.heap.size wr).drew.drew) (Nat.le_refl _)) x.1 x.2 hxd.1 hxd.2).mono ?_
          rintro e w3 ⟨rfl, rfl⟩
          rw [hd1]
          refine hK _ _ ?_
          clear hK K
          repeat (first
            | (refine wpL_p (fun K hK => ?_); go_simp; refine hK _ _ ?_; clear hK K)
            | (refine wpL_r (fun K hK => ?_); apply Exists.intro; refine ⟨fun w2 hw2 => ?_, hK _ _ ?_⟩; (have hk1 := hw2.cell; have hk3 := hw2.heap; clear hw2; go_simp; with_reducible rfl); clear hK K; simp only [Act.put, List.setIfInBounds_toArray, List.set_cons_zero, List.set_cons_succ])
            | (refine wpL_yes rfl rfl ?_)
            | (refine wpL_no rfl rfl (fun K hK => ?_); simp only [Act.put, List.setIfInBounds_toArray, List.set_cons_zero, List.set_cons_succ]; refine hK _ _ ?_; clear hK K)
            | (refine wpL_nil ?_))
          refine wpL_e (fun K hK => ?_)
          go_simp
          refine (rel_add (HR.out.below ((Below.refl wr.heap.size wr).drew.drew) (Nat.le_refl _)) (Nat.le_refl _) (by omega) x.1 x.2 hxd.1 hxd.2).mono ?_
          rintro e w3 ⟨rfl, r3, k3, b3⟩
          rw [hd2]
          refine hK _ _ ?_
          clear hK K
          have R3 := hid r3
          have V3 := hid (Sl.up (show Sl wr.drew.drew wr.drew.drew.heap.size 2 _ _ _ from HV.out.drew.drew) k3)
          have B3 := hid (HB.out.drew.drew.trans (b3.mono z1))
          have z3 : wr.heap.size ≤ w3.heap.size := k3.size
          have c1' := cell_keep k3 (show wr.drew.drew.cell? _ = _ from c1)
          have c2' := cell_keep k3 (show wr.drew.drew.cell? _ = _ from c2)
          clear r3 k3 b3 c1 c2 HR HV HB hd1 hd2
          repeat (first
            | (refine wpL_p (fun K hK => ?_); go_simp; refine hK _ _ ?_; clear hK K)
            | (refine wpL_r (fun K hK => ?_); apply Exists.intro; refine ⟨fun w2 hw2 => ?_, hK _ _ ?_⟩; (have hk1 := hw2.cell; have hk3 := hw2.heap; clear hw2; go_simp; with_reducible rfl); clear hK K; simp only [Act.put, List.setIfInBounds_toArray, List.set_cons_zero, List.set_cons_succ])
            | (refine wpL_yes rfl rfl ?_)
            | (refine wpL_no rfl rfl (fun K hK => ?_); simp only [Act.put, List.setIfInBounds_toArray, List.set_cons_zero, List.set_cons_succ]; refine hK _ _ ?_; clear hK K)
            | (refine wpL_nil ?_))
          go_wp2
          refine wp_region_x [0, 0, 0, 0, 0, 1, 0, 0, 0, 0, 1, 2, 0] [0, 1, 2, 3, 4, 5, 6, 7, 8, 9, 10, 11, 12] (by kernel_rfl) (by kernel_rfl) rfl (by kernel_rfl) ?_
          simp only [selX, guardAt, List.getElem?_cons_zero, List.getElem?_cons_succ, List.getD_cons_zero, List.getD_cons_succ]
          repeat (first
            | (refine wpL_p (fun K hK => ?_); go_simp; refine hK _ _ ?_; clear hK K)
            | (refine wpL_r (fun K hK => ?_); apply Exists.intro; refine ⟨fun w2 hw2 => ?_, hK _ _ ?_⟩; (have hk1 := hw2.cell; have hk3 := hw2.heap; clear hw2; go_simp; with_reducible rfl); clear hK K; simp only [Act.put, List.setIfInBounds_toArray, List.set_cons_zero, List.set_cons_succ])
            | (refine wpL_yes rfl rfl ?_)
            | (refine wpL_no rfl rfl (fun K hK => ?_); simp only [Act.put, List.setIfInBounds_toArray, List.set_cons_zero, List.set_cons_succ]; refine hK _ _ ?_; clear hK K)
            | (refine wpL_nil ?_))
          refine wpL_e (fun K hK => ?_)
          go_simp
          refine (ref_put (v := .slice a5 A.length c5) (l := A) (show LP w3.drew _ A from V3.out.drew) HSR.out (by omega) x.1 x.2).mono ?_
          rintro e w4 ⟨v4, rfl, h4, b4⟩
          refine hK _ _ ?_
          clear hK K
          have H4 := hid h4
          have B4 := hid (B3.out.drew.trans (b4.mono B3.out.size))
          have R4 := hid ((R3.out.below ((Below.refl w3.heap.size w3).drew.trans b4) (Nat.le_refl _)).raise b4.size)
          clear h4 b4 R3 V3 B3 c1' c2'
          repeat (first
            | (refine wpL_p (fun K hK => ?_); go_simp; refine hK _ _ ?_; clear hK K)
            | (refine wpL_r (fun K hK => ?_); apply Exists.intro; refine ⟨fun w2 hw2 => ?_, hK _ _ ?_⟩; (have hk1 := hw2.cell; have hk3 := hw2.heap; clear hw2; go_simp; with_reducible rfl); clear hK K; simp only [Act.put, List.setIfInBounds_toArray, List.set_cons_zero, List.set_cons_succ])
            | (refine wpL_yes rfl rfl ?_)
            | (refine wpL_no rfl rfl (fun K hK => ?_); simp only [Act.put, List.setIfInBounds_toArray, List.set_cons_zero, List.set_cons_succ]; refine hK _ _ ?_; clear hK K)
            | (refine wpL_nil ?_))
          go_wp2_with fail
          go_roundw
          case rel => exact ⟨k + 1, by omega, by go_num, by rw [HT.out, HSN.out]; exact R4.out, by rw [HT.out, HSN.out]; exact H4.out, B4.out⟩
          case measure => simp [intOf]; omega
      · obtain rfl : k = n := by omega
        have hbe : ∀ q : Bool, (q == q) = true := fun q => by cases q <;> rfl
        have hbq := hbe (decide ((a, c) ∈ A))
        have hw1 : w1.heap.size ≤ wr.heap.size := Nat.le_of_lt (Nat.lt_of_le_of_lt HR.out.lt.1 HR.out.lt.2)
        clear hbe
        go_wp2_with fail
        refine (rel_ahead HR.out (Nat.le_refl _) (by omega) c hc).mono ?_
        rintro e w3 ⟨v3, rfl, h3, b3⟩
        have X3 := hid h3.sl
        have K3 := Keep.of_below b3
        have R3 := hid ((HR.out.below b3 (Nat.le_refl _)).raise b3.size)
        have V3 := hid (Sl.up HV.out K3)
        have B3 := hid (HB.out.trans (b3.mono HB.out.size))
        clear h3 b3 K3 HR HV HB
        go_wp2_with fail
        refine (ref_ahead (v := .slice a5 A.length c5) V3.out HSR.out (by omega) c).mono ?_
        rintro e w4 ⟨v4, rfl, h4, b4⟩
        have Y4 := hid h4
        have K4 := Keep.of_below b4
        have X4 := hid (Sl.up X3.out K4)
        have R4 := hid ((R3.out.below b4 (Nat.le_refl _)).raise b4.size)
        have V4 := hid (Sl.up V3.out K4)
        have B4 := hid (B3.out.trans (b4.mono B3.out.size))
        clear h4 b4 K4 X3 R3 V3 B3
        go_wp2_with fail
        refine (same_ints (l := col A c) (LI.ofS X4.out) Y4.out).mono ?_
        rintro e w5 ⟨rfl, b5⟩
        have K5 := Keep.of_below b5
        have R5 := hid ((R4.out.below b5 (Nat.le_refl _)).raise b5.size)
        have V5 := hid (Sl.up V4.out K5)
        have B5 := hid (B4.out.trans (b5.mono B4.out.size))
        clear b5 K5 X4 Y4 R4 V4 B4
        go_wp2_with fail
        refine (rel_behind R5.out (by omega) a ha).mono ?_
        rintro e w6 ⟨v6, rfl, h6, b6⟩
        have X6 := hid h6.sl
        have K6 := Keep.of_below b6
        have R6 := hid ((R5.out.below b6 (Nat.le_refl _)).raise b6.size)
        have V6 := hid (Sl.up V5.out K6)
        have B6 := hid (B5.out.trans (b6.mono B5.out.size))
        clear h6 b6 K6 R5 V5 B5
        go_wp2_with fail
        refine (ref_behind (v := .slice a5 A.length c5) V6.out HSR.out (by omega) a).mono ?_
        rintro e w7 ⟨v7, rfl, h7, b7⟩
        have Y7 := hid h7
        have K7 := Keep.of_below b7
        have X7 := hid (Sl.up X6.out K7)
        have R7 := hid ((R6.out.below b7 (Nat.le_refl _)).raise b7.size)
        have V7 := hid (Sl.up V6.out K7)
        have B7 := hid (B6.out.trans (b7.mono B6.out.size))
        clear h7 b7 K7 X6 R6 V6 B6
        go_wp2_with fail
        refine (same_ints (l := row A a) (LI.ofS X7.out) Y7.out).mono ?_
        rintro e w8 ⟨rfl, b8⟩
        have K8 := Keep.of_below b8
        have R8 := hid ((R7.out.below b8 (Nat.le_refl _)).raise b8.size)
        have V8 := hid (Sl.up V7.out K8)
        have B8 := hid (B7.out.trans (b8.mono B7.out.size))
        clear b8 K8 X7 Y7 R7 V7 B7
        go_wp2_with fail
        refine (rel_is (v := .slice a5 A.length c5) R8.out (Nat.le_refl _) (by omega) V8.out).mono ?_
        rintro e w9 ⟨rfl, b9⟩
        have K9 := Keep.of_below b9
        have R9 := hid ((R8.out.below b9 (Nat.le_refl _)).raise b9.size)
        have V9 := hid (Sl.up V8.out K9)
        have B9 := hid (B8.out.trans (b9.mono B8.out.size))
        clear b9 K9 R8 V8 B8
        go_wp2_with fail
        refine (rel_has R9.out a c ha hc).mono ?_
        rintro e wA ⟨rfl, rfl⟩
        go_wp2_with fail
        refine (ref_has (v := .slice a5 A.length c5) V9.out a c).mono ?_
        rintro e wA ⟨rfl, rfl⟩
        go_wp2
        go_ret
        exact ⟨rfl, B9.out⟩
  · go_wp2
    go_ret
    exact ⟨rfl, B1.out⟩
end
end Go.Proofs.Ytlmeblhcipkgmaa
