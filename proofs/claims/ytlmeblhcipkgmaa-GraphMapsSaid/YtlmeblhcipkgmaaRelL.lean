/- The laws' own helpers: a relation made of pairs, and whether it has just these. Conditions: those of each theorem, as typed. -/
import Derived.Test.YtlmeblhcipkgmaaRelI
import Derived.Test.YtlmeblhcipkgmaaRefD
namespace Go.Proofs.Ytlmeblhcipkgmaa
open Go.RowKit Go.Maps
attribute [local irreducible] wpL

theorem Sl.bound {w w' : World} {B sz n : Nat} {v : Value} {xs : List Value} (h : Sl w B sz v n xs) (hk : Keep w w') (hB : B ≤ w.heap.size) : Sl w' w'.heap.size sz v n xs := (h.keepC hk).more (Nat.le_trans hB hk.size)
theorem OwnP.at {w : World} {B n cap : Nat} {a : Option Addr} {e : TypeId} {l : List Pr} (h : OwnF pairC e 2 w B (.slice a n cap) l) (hl : l.length = n) {k : Nat} (hk : k < n) : ∃ g x, a = some ⟨g, 0, none⟩ ∧ B ≤ g ∧ g < w.heap.size ∧ l[k]? = some x ∧ w.cell? ⟨g, k * 2, none⟩ = some (.int .i64 x.1) ∧ w.cell? ⟨g, k * 2 + 1, none⟩ = some (.int .i64 x.2) := by
  have h0 := h.sl
  rcases h.form with ⟨-, rfl⟩ | ⟨g, cap', e, hB, hg⟩
  · simp at hl; omega
  · simp only [Value.slice.injEq] at e
    obtain ⟨rfl, e2, rfl⟩ := e
    subst hl
    obtain ⟨b, off, x, ha, hb, hx, hc, hd⟩ := Sl.pairs h0 hk rfl
    simp only [Option.some.injEq, Addr.mk.injEq, and_true] at ha
    obtain ⟨rfl, rfl⟩ := ha
    exact ⟨g, x, rfl, hB, hg, hx, by simpa using hc, by simpa using hd⟩

section
variable {w : World} {lo hi p : Nat} {L : List Pr} {v : Value}
set_option maxHeartbeats 400000 in
theorem rel_is (h : RelAt w lo hi p L) (hhi : hi ≤ w.heap.size) (hL : L.length ≤ 1000000) (h2 : LP w v L) : Calls Try.prog 20 #[.pointer (some ⟨p, 0, none⟩), v] w fun e w' => e = .returned (.bool true) ∧ Below w.heap.size w w' := by
  obtain ⟨al, cl, n, rfl, hn, hm, h2⟩ := LP.open h2
  have H := hid h
  have H2 := hid h2
  have HN := hid hn
  clear h h2 hn
  go_enter Try.func20, Try.ntmps20
  go_wp2_with fail
  refine (rel_pairs H.out hhi hL).mono ?_
  rintro e w1 ⟨v1, rfl, h1, b1⟩
  obtain ⟨a1, c1, rfl, -⟩ := h1.sl.ex
  have hb : ((n : Int) != (n : Int)) = false := by simp
  have H1 := hid h1
  have B1 := hid b1
  clear h1 b1
  rw [HN.out]
  rw [HN.out] at H1
  go_wp2_with fail
  refine (rel_len (H.out.below B1.out hhi) (Nat.le_trans hhi B1.out.size) hL).mono ?_
  rintro e w2 ⟨rfl, b2⟩
  rw [HN.out]
  have H12 := hid (H1.out.below b2)
  have B2 := hid (B1.out.trans (b2.mono B1.out.size))
  clear b2 H1 B1
  go_wp2_with fail
  go_loopw [6] (fun i wr => ∃ k : Nat, k ≤ n ∧ i = .int .i64 k ∧ OwnP wr w.heap.size (.slice a1 n c1) L ∧ Below w.heap.size w wr) (fun i _ => n - (intOf i).toNat)
  case atStart => exact ⟨0, by omega, by go_num, H12.out, B2.out⟩
  case round =>
    obtain ⟨k, hk, rfl, hO, hB⟩ := hrel
    have HO := hid hO
    have HB := hid hB
    clear hO hB H12 B2
    by_cases hlt : k < n
    · obtain ⟨g, x, rfl, -, hg, hx, d1, d2⟩ := OwnP.at HO.out HN.out hlt
      obtain ⟨b, off, y, rfl, hb2, hy, c2, c3⟩ := (H2.out.below HB.out).pairs hlt HN.out
      obtain rfl : x = y := by rw [hx] at hy; exact Option.some.inj hy
      have e1 : (x.1 != x.1) = false := by simp
      have e2 : (x.2 != x.2) = false := by simp
      clear hx hy
      go_wp2
      refine wp_region_x [0, 0, 0, 0, 1, 0, 0, 0, 0, 1, 0, 0, 0, 0, 0, 0, 1, 0, 0, 0, 0, 1, 0, 0] [0, 1, 2, 3, 4, 5, 6, 7, 8, 9, 10, 11, 12, 13, 14, 15, 16, 17, 18, 19, 20, 21, 22, 23] (by kernel_rfl) (by kernel_rfl) rfl (by kernel_rfl) ?_
      simp only [selX, guardAt, List.getElem?_cons_zero, List.getElem?_cons_succ, List.getD_cons_zero, List.getD_cons_succ, Option.bind_some]
      repeat (first
        | (refine wpL_p (fun K hK => ?_); go_simp; refine hK _ _ ?_; clear hK K)
        | (refine wpL_r (fun K hK => ?_); apply Exists.intro; refine ⟨fun w2 hw2 => ?_, hK _ _ ?_⟩; (have hk1 := hw2.cell; have hk3 := hw2.heap; clear hw2; go_simp; with_reducible rfl); clear hK K; simp only [Act.put, List.setIfInBounds_toArray, List.set_cons_zero, List.set_cons_succ])
        | (refine wpL_yes rfl rfl ?_)
        | (refine wpL_no rfl rfl (fun K hK => ?_); simp only [Act.put, List.setIfInBounds_toArray, List.set_cons_zero, List.set_cons_succ]; refine hK _ _ ?_; clear hK K)
        | (refine wpL_nil ?_))
      go_wp2_with fail
      go_roundw
      case rel => exact ⟨k + 1, by omega, by go_num, HO.out.drew, HB.out.drew⟩
      case measure => simp [intOf]; omega
    · go_wp2
      go_ret
      exact ⟨rfl, HB.out⟩

set_option maxHeartbeats 400000 in
theorem rel_made {l : List Pr} {n B : Nat} (h : Sl w B 2 v n (l.flatMap pairC)) (hn : l.length = n) (hB : B ≤ w.heap.size) (hd : ∀ x ∈ l, dI x.1 ∧ dI x.2) (hl : n ≤ 100000) : Calls Try.prog 16 #[v] w fun e w' =>
    ∃ p v', e = .returned (.tuple #[.pointer (some ⟨p, 0, none⟩), v']) ∧ RelAt w' w.heap.size w'.heap.size p (putAll l) ∧ LP w' v' (putAll l) ∧ Below w.heap.size w w' := by
  obtain ⟨al, cl, rfl, hm⟩ := h.ex
  have H := hid h
  have HN := hid hn
  have HD := hid hd
  clear h hn hd
  go_enter Try.func16, Try.ntmps16
  go_wp2_with fail
  refine (rel_new w).mono ?_
  rintro e w1 ⟨p, rfl, r1, b1⟩
  have R1 := hid r1
  have B1 := hid b1
  clear r1 b1
  go_wp2_with fail
  go_loopw [5, 6] (fun v i wr => ∃ k : Nat, k ≤ n ∧ i = .int .i64 k ∧ RelAt wr w.heap.size wr.heap.size p (putAll (l.take k)) ∧ LP wr v (putAll (l.take k)) ∧ Below w.heap.size w wr) (fun _ i _ => n - (intOf i).toNat)
  case atStart => exact ⟨0, by omega, by go_num, R1.out, (OwnF.nil (f := pairC) (e := 51) (sz := 2) w1 0).sl, B1.out⟩
  case round =>
    obtain ⟨k, hk, rfl, hR, hV, hB2⟩ := hrel
    obtain ⟨a5, c5, rfl, -⟩ := Sl.ex hV
    have hLl : (putAll (l.take k)).length ≤ 100000 := by
      have := length_putAll (l.take k)
      rw [List.length_take] at this
      omega
    have hsn := @putAll_snoc (l.take k)
    have hall : n ≤ k → putAll (l.take k) = putAll l := fun h => by rw [List.take_of_length_le (by rw [HN.out]; exact h)]
    have HAL := hid hall
    clear hall
    have HSN := hid hsn
    have HSR := hid hR.srt
    generalize putAll (l.take k) = A at *
    have HR := hid hR
    have HV := hid hV
    have HB := hid hB2
    have hz := hB2.size
    clear hR hV hB2 R1 B1 hsn
    by_cases hlt : k < n
    · obtain ⟨b, off, x, rfl, hb, hx, c1, c2⟩ := (H.out.below (HB.out.mono hB)).pairs hlt HN.out
      have hxd := HD.out x (List.mem_of_getElem? hx)
      have HT := hid (take_step hx)
      clear hx
      go_wp2
      refine wp_region_x [0, 0, 0, 0, 0, 1, 0, 0, 0, 0, 1, 2] [0, 1, 2, 3, 4, 5, 6, 7, 8, 9, 10, 11] (by kernel_rfl) (by kernel_rfl) rfl (by kernel_rfl) ?_
      simp only [selX, guardAt, List.getElem?_cons_zero, List.getElem?_cons_succ, List.getD_cons_zero, List.getD_cons_succ]
      repeat (first
        | (refine wpL_p (fun K hK => ?_); go_simp; refine hK _ _ ?_; clear hK K)
        | (refine wpL_r (fun K hK => ?_); apply Exists.intro; refine ⟨fun w2 hw2 => ?_, hK _ _ ?_⟩; (have hk1 := hw2.cell; have hk3 := hw2.heap; clear hw2; go_simp; with_reducible rfl); clear hK K; simp only [Act.put, List.setIfInBounds_toArray, List.set_cons_zero, List.set_cons_succ])
        | (refine wpL_yes rfl rfl ?_)
        | (refine wpL_no rfl rfl (fun K hK => ?_); simp only [Act.put, List.setIfInBounds_toArray, List.set_cons_zero, List.set_cons_succ]; refine hK _ _ ?_; clear hK K)
        | (refine wpL_nil ?_))
      refine wpL_e (fun K hK => ?_)
      go_simp
      refine (rel_add (HR.out.below (Below.refl wr.heap.size wr).drew (Nat.le_refl _)) (Nat.le_refl _) (by omega) x.1 x.2 hxd.1 hxd.2).mono ?_
      rintro e w2 ⟨rfl, r2, k2, b2⟩
      refine hK _ _ ?_
      clear hK K
      have R2 := hid r2
      have V2 := hid (Sl.up (show Sl wr.drew wr.drew.heap.size 2 _ _ _ from HV.out.drew) k2)
      have B2 := hid (HB.out.drew.trans b2)
      have z2 : wr.heap.size ≤ w2.heap.size := k2.size
      have c1' := cell_keep k2 (show wr.drew.cell? _ = _ from c1)
      have c2' := cell_keep k2 (show wr.drew.cell? _ = _ from c2)
      clear r2 k2 b2 c1 c2 HR HV HB
      repeat (first
        | (refine wpL_p (fun K hK => ?_); go_simp; refine hK _ _ ?_; clear hK K)
        | (refine wpL_r (fun K hK => ?_); apply Exists.intro; refine ⟨fun w2 hw2 => ?_, hK _ _ ?_⟩; (have hk1 := hw2.cell; have hk3 := hw2.heap; clear hw2; go_simp; with_reducible rfl); clear hK K; simp only [Act.put, List.setIfInBounds_toArray, List.set_cons_zero, List.set_cons_succ])
        | (refine wpL_yes rfl rfl ?_)
        | (refine wpL_no rfl rfl (fun K hK => ?_); simp only [Act.put, List.setIfInBounds_toArray, List.set_cons_zero, List.set_cons_succ]; refine hK _ _ ?_; clear hK K)
        | (refine wpL_nil ?_))
      go_wp2
      refine wp_region_x [0, 0, 0, 0, 0, 1, 0, 0, 0, 0, 1, 2, 0] [0, 1, 2, 3, 4, 5, 6, 7, 8, 9, 10, 11, 12] (by kernel_rfl) (by kernel_rfl) rfl (by kernel_rfl) ?_
      simp only [selX, guardAt, List.getElem?_cons_zero, List.getElem?_cons_succ, List.getD_cons_zero, List.getD_cons_succ]
      repeat (first
        | (refine wpL_p (fun K hK => ?_); go_simp; refine hK _ _ ?_; clear hK K)
        | (refine wpL_r (fun K hK => ?_); apply Exists.intro; refine ⟨fun w2 hw2 => ?_, hK _ _ ?_⟩; (have hk1 := hw2.cell; have hk3 := hw2.heap; clear hw2; go_simp; with_reducible rfl); clear hK K; simp only [Act.put, List.setIfInBounds_toArray, List.set_cons_zero, List.set_cons_succ])
        | (refine wpL_yes rfl rfl ?_)
        | (refine wpL_no rfl rfl (fun K hK => ?_); simp only [Act.put, List.setIfInBounds_toArray, List.set_cons_zero, List.set_cons_succ]; refine hK _ _ ?_; clear hK K)
        | (refine wpL_nil ?_))
      refine wpL_e (fun K hK => ?_)
      go_simp
      refine (ref_put (v := .slice a5 A.length c5) (l := A) (show LP w2.drew _ A from V2.out.drew) HSR.out (by omega) x.1 x.2).mono ?_
      rintro e w3 ⟨v3, rfl, h3, b3⟩
      refine hK _ _ ?_
      clear hK K
      have H3 := hid h3
      have B3 := hid (B2.out.drew.trans (b3.mono B2.out.size))
      have R3 := hid ((R2.out.below ((Below.refl w2.heap.size w2).drew.trans b3) (Nat.le_refl _)).raise b3.size)
      clear h3 b3 R2 V2 B2 c1' c2'
      repeat (first
        | (refine wpL_p (fun K hK => ?_); go_simp; refine hK _ _ ?_; clear hK K)
        | (refine wpL_r (fun K hK => ?_); apply Exists.intro; refine ⟨fun w2 hw2 => ?_, hK _ _ ?_⟩; (have hk1 := hw2.cell; have hk3 := hw2.heap; clear hw2; go_simp; with_reducible rfl); clear hK K; simp only [Act.put, List.setIfInBounds_toArray, List.set_cons_zero, List.set_cons_succ])
        | (refine wpL_yes rfl rfl ?_)
        | (refine wpL_no rfl rfl (fun K hK => ?_); simp only [Act.put, List.setIfInBounds_toArray, List.set_cons_zero, List.set_cons_succ]; refine hK _ _ ?_; clear hK K)
        | (refine wpL_nil ?_))
      go_wp2_with fail
      go_roundw
      case rel => exact ⟨k + 1, by omega, by go_num, by rw [HT.out, HSN.out]; exact R3.out, by rw [HT.out, HSN.out]; exact H3.out, B3.out⟩
      case measure => simp [intOf]; omega
    · obtain rfl : k = n := by omega
      have HE := hid (HAL.out (Nat.le_refl _))
      go_wp2
      refine bodyPost_ret (v := .tuple #[.pointer (some ⟨p, 0, none⟩), .slice a5 A.length c5]) (by simp [results, Try.results16, go_sem]) rfl ⟨p, _, rfl, ?_, ?_, HB.out⟩
      · rw [← HE.out]; exact HR.out
      · rw [← HE.out]; exact HV.out
end
end Go.Proofs.Ytlmeblhcipkgmaa
