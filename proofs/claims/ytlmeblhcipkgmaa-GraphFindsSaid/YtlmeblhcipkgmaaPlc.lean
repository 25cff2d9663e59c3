/- The laws' own helpers: where a node stands; whether an edge leads to it from behind a place. Conditions: those of each theorem, as typed. -/
import Derived.Test.YtlmeblhcipkgmaaGrJ
import Derived.Test.YtlmeblhcipkgmaaGrE
namespace Go.Proofs.Ytlmeblhcipkgmaa
open Go.RowKit Go.Maps
set_option linter.unusedVariables false
attribute [local irreducible] wpL

section
variable {w : World}
theorem gr_place {v : Value} {l : List Int} (h : LI w v l) (a : Int) : Calls Try.prog 51 #[v, .int .i64 a] w fun e w' => ∃ z : Int, e = .returned (.int .i64 z) ∧ PlcIs l a z ∧ w = w' := by
  obtain ⟨al, cl, n, rfl, hn, hm, h⟩ := h.open
  have H := hid h
  have HN := hid hn
  clear h hn
  go_enter Try.func51, Try.ntmps51
  go_wp2_with fail
  go_loop [5] (fun i => ∃ j : Nat, j ≤ n ∧ i = .int .i64 j ∧ ∀ x ∈ l.take j, x ≠ a) (fun i => n - (intOf i).toNat)
  case atStart => exact ⟨0, by omega, by go_num, fun x hx => by simp at hx⟩
  case round =>
    obtain ⟨j, hj, rfl, hM⟩ := hrel
    have HM := hid hM
    clear hM
    by_cases hlt : j < n
    · obtain ⟨b, off, x, rfl, hb, hx, c1⟩ := H.out.ints hlt HN.out
      have HX := hid hx
      by_cases e : x = a
      · have e1 : (x == a) = true := by simpa using e
        have hE := hid (show l[j]? = some a by rw [← e]; exact hx)
        clear hx e
        go_wp2
        go_ret
        exact ⟨_, rfl, .inr ⟨j, rfl, hE.out⟩, rfl⟩
      · have e1 : (x == a) = false := by simpa using e
        have HE := hid e
        clear hx e
        go_wp2_with fail
        go_round
        case rel => exact ⟨j + 1, by omega, by go_num, fun y hy => by
          rcases (mem_take_step HX.out).1 hy with h | rfl
          · exact HM.out y h
          · exact HE.out⟩
        case measure => simp [intOf]; omega
    · obtain rfl : j = n := by omega
      have hE := hid (show a ∉ l by
        intro hm
        exact HM.out _ (by rw [← HN.out, List.take_length]; exact hm) rfl)
      go_wp2
      go_ret
      exact ⟨_, rfl, .inl ⟨rfl, hE.out⟩, rfl⟩

set_option maxRecDepth 100000 in
set_option maxHeartbeats 1000000 in
theorem gr_held {lo hi p : Nat} {N : List Int} {E : List Tr} {v : Value} {l : List Int} (h : GrAt w lo hi p N E) (hhi : hi ≤ w.heap.size) (hE : E.length ≤ 900000) (hv : LI w v l) (hd : ∀ x ∈ l, dI x) {k i : Nat} (hi' : i < l.length) (hex : ∃ j z y, k ≤ j ∧ j < i ∧ l[j]? = some z ∧ l[i]? = some y ∧ (z, y) ∈ prs E) :
    Calls Try.prog 52 #[.pointer (some ⟨p, 0, none⟩), v, .int .i64 k, .int .i64 i] w fun e w' => e = .returned (.bool true) ∧ Below w.heap.size w w' := by
  obtain ⟨al, cl, n, rfl, hn, hm, hv⟩ := hv.open
  rw [hn] at hi'
  obtain ⟨m, z, y, hkm, hmi, hz, hy, hp⟩ := hex
  have G := hid h
  have H := hid hv
  have HN := hid hn
  have HP := hid (show (kindsOf E z y).length ≠ 0 from fun e => kinds_zero.1 e hp)
  have HZ := hid hz
  have HY := hid hy
  have hdz := hd z (List.mem_of_getElem? hz)
  have hdy := hd y (List.mem_of_getElem? hy)
  have HD := hid hd
  clear h hv hn hp hz hy hd
  go_enter Try.func52, Try.ntmps52
  go_wp2_with fail
  go_loopw [9] (fun c wr => ∃ j : Nat, k ≤ j ∧ j ≤ m ∧ c = .int .i64 j ∧ Below w.heap.size w wr) (fun c _ => n - (intOf c).toNat)
  case atStart => exact ⟨k, by omega, by omega, by go_num, Below.refl _ _⟩
  case round =>
    obtain ⟨j, hkj, hj, rfl, hB⟩ := hrel
    have B := hid hB
    have hz := hB.size
    clear hB
    obtain ⟨b, off, x, rfl, hb, hx, c1⟩ := (H.out.below B.out).ints (k := j) (by omega) HN.out
    obtain ⟨b', off', y', e', hb', hy', c2⟩ := (H.out.below B.out).ints (k := i) hi' HN.out
    simp only [Option.some.injEq, Addr.mk.injEq, and_true] at e'
    obtain ⟨rfl, rfl⟩ := e'
    obtain rfl : y' = y := by rw [HY.out] at hy'; exact (Option.some.inj hy').symm
    have hdx := HD.out x (List.mem_of_getElem? hx)
    have HX := hid hx
    clear hx hy'
    have hjn : j < n := by omega
    go_wp2
    refine wp_region_x [0, 0, 0, 0, 1, 0, 0, 0, 1, 2, 0, 0] [0, 1, 2, 3, 4, 5, 6, 7, 8, 9, 10, 11] (by kernel_rfl) (by kernel_rfl) rfl (by kernel_rfl) ?_
    simp only [selX, guardAt, List.getElem?_cons_zero, List.getElem?_cons_succ, List.getD_cons_zero, List.getD_cons_succ]
    repeat (first
      | (refine wpL_p (fun K hK => ?_); go_simp; refine hK _ _ ?_; clear hK K)
      | (refine wpL_r (fun K hK => ?_); apply Exists.intro; refine ⟨fun w2 hw2 => ?_, hK _ _ ?_⟩; (have hk1 := hw2.cell; have hk3 := hw2.heap; clear hw2; go_simp; with_reducible rfl); clear hK K; simp only [Act.put, List.setIfInBounds_toArray, List.set_cons_zero, List.set_cons_succ])
      | (refine wpL_yes rfl rfl ?_)
      | (refine wpL_no rfl rfl (fun K hK => ?_); simp only [Act.put, List.setIfInBounds_toArray, List.set_cons_zero, List.set_cons_succ]; refine hK _ _ ?_; clear hK K)
      | (refine wpL_nil ?_))
    refine wpL_e (fun K hK => ?_)
    go_simp
    refine (gr_kinds (G.out.below (B.out.drew) hhi) (by omega) x y' hdx hdy).mono ?_
    rintro e w2 ⟨v2, rfl, h2, b2⟩
    refine hK _ _ ?_
    clear hK K
    obtain ⟨a2, k2, rfl, hm2⟩ := h2.sl.ex
    have B2 := hid (B.out.drew.trans (b2.mono hz))
    have HS := hid (fun e : j = m => show (kindsOf E x y').length ≠ 0 by
      subst e
      have h1 := HX.out
      rw [HZ.out] at h1
      cases h1
      exact HP.out)
    clear h2 b2
    generalize (kindsOf E x y').length = q at *
    repeat (first
      | (refine wpL_p (fun K hK => ?_); go_simp; refine hK _ _ ?_; clear hK K)
      | (refine wpL_r (fun K hK => ?_); apply Exists.intro; refine ⟨fun w2 hw2 => ?_, hK _ _ ?_⟩; (have hk1 := hw2.cell; have hk3 := hw2.heap; clear hw2; go_simp; with_reducible rfl); clear hK K; simp only [Act.put, List.setIfInBounds_toArray, List.set_cons_zero, List.set_cons_succ])
      | (refine wpL_yes rfl rfl ?_)
      | (refine wpL_no rfl rfl (fun K hK => ?_); simp only [Act.put, List.setIfInBounds_toArray, List.set_cons_zero, List.set_cons_succ]; refine hK _ _ ?_; clear hK K)
      | (refine wpL_nil ?_))
    by_cases hq : 0 < q
    · go_wp2
      go_ret
      exact ⟨rfl, B2.out⟩
    · have hjm : j ≠ m := fun e => HS.out e (by omega)
      go_wp2_with fail
      go_roundw
      case rel => exact ⟨j + 1, by omega, by omega, by go_num, B2.out⟩
      case measure => simp [intOf]; omega
end
end Go.Proofs.Ytlmeblhcipkgmaa
