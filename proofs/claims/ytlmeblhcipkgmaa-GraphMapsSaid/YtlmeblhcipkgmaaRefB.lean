/- The document's lists of pairs: Ahead, Behind; equal lists of numbers; whether a number is among some. Conditions: those of each theorem, as typed. -/
import Derived.Test.YtlmeblhcipkgmaaRefA
import Derived.Test.YtlmeblhcipkgmaaRelQ
import Derived.Test.YtlmeblhcipkgmaaReg
namespace Go.Proofs.Ytlmeblhcipkgmaa
open Go.RowKit Go.Maps
attribute [local irreducible] wpL

theorem col_take_all {L : List Pr} {A : List Int} {b : Int} {n : Nat} (hL : Srt L) (hA : SrtI A) (hn : L.length = n) (hm : ∀ x, x ∈ A ↔ (x, b) ∈ L.take n) : A = col L b := hA.ext (srt_col hL b) fun x => by
  rw [hm, ← hn, List.take_length, mem_col]
theorem row_take_all {L : List Pr} {A : List Int} {a : Int} {n : Nat} (hL : Srt L) (hA : SrtI A) (hn : L.length = n) (hm : ∀ x, x ∈ A ↔ (a, x) ∈ L.take n) : A = row L a := hA.ext (srt_row hL a) fun x => by
  rw [hm, ← hn, List.take_length, mem_row]
theorem mem_take_step {α : Type} {L : List α} {k : Nat} {x y : α} (hx : L[k]? = some x) : y ∈ L.take (k + 1) ↔ y ∈ L.take k ∨ y = x := by
  rw [take_step hx, List.mem_append, List.mem_singleton]

section
variable {w : World} {v : Value}

set_option maxHeartbeats 400000 in
theorem ref_ahead {L : List Pr} (h : LP w v L) (hs : Srt L) (hL : L.length ≤ 1000000) (t : Int) : Calls Try.prog 41 #[v, .int .i64 t] w fun e w' => ∃ v', e = .returned v' ∧ LI w' v' (col L t) ∧ Below w.heap.size w w' := by
  obtain ⟨al, cl, n, rfl, hn, hm, h⟩ := LP.open h
  rw [hn] at hL
  have H := hid h
  have HN := hid hn
  have HS := hid hs
  clear h hn hs
  go_enter Try.func41, Try.ntmps41
  go_wp2_with fail
  go_loopw [5, 6] (fun v i wr => ∃ (k : Nat) (A : List Int), k ≤ n ∧ i = .int .i64 k ∧ LI wr v A ∧ SrtI A ∧ (∀ x, x ∈ A ↔ (x, t) ∈ L.take k) ∧ Below w.heap.size w wr) (fun _ i _ => n - (intOf i).toNat)
  case atStart => exact ⟨0, [], by omega, by go_num, (OwnF.nil (f := intC) (e := 3) w 0).sl, List.Pairwise.nil, fun x => by simp, Below.refl _ _⟩
  case round =>
    obtain ⟨k, A, hk, rfl, hA, hsA, hmA, hB⟩ := hrel
    have hAl : A.length ≤ 1000000 := by
      have h1 := nodup_le (l := A) (m := (L.take k).map (·.1)) hsA.nodup fun x hx => List.mem_map.2 ⟨_, (hmA x).1 hx, rfl⟩
      rw [List.length_map, List.length_take] at h1
      omega
    have HA := hid hA
    have HSA := hid hsA
    have HM := hid hmA
    have HB := hid hB
    clear hA hsA hmA hB
    by_cases hlt : k < n
    · obtain ⟨b, off, x, rfl, hb, hx, c1, c2⟩ := (H.out.below HB.out).pairs hlt HN.out
      have HX := hid hx
      clear hx
      by_cases e : x.2 = t
      · have t1 : (x.2 == t) = true := by simpa using e
        have HE := hid e
        clear e
        go_wp2_with fail
        refine (ref_putInt HA.out HSA.out hAl x.1).mono ?_
        rintro e w2 ⟨v2, rfl, h2, -, b2⟩
        have H2 := hid h2
        have B2 := hid (HB.out.trans (b2.mono HB.out.size))
        clear h2 b2
        go_wp2_with fail
        go_roundw
        case rel =>
          refine ⟨k + 1, insI x.1 A, by omega, by go_num, H2.out, srt_insI HSA.out, fun z => ?_, B2.out⟩
          rw [mem_insI, HM.out z, mem_take_step HX.out]
          have hxe := HE.out
          constructor
          · rintro (rfl | h)
            · exact .inr (by rw [← hxe])
            · exact .inl h
          · rintro (h | h)
            · exact .inr h
            · exact .inl (by rw [← h])
        case measure => simp [intOf]; omega
      · have t1 : (x.2 == t) = false := by simpa using e
        have HE := hid e
        clear e
        go_wp2_with fail
        go_roundw
        case rel =>
          refine ⟨k + 1, A, by omega, by go_num, HA.out, HSA.out, fun z => ?_, HB.out⟩
          rw [HM.out z, mem_take_step HX.out]
          constructor
          · exact .inl
          · rintro (h | h)
            · exact h
            · exact absurd (by rw [← h]) HE.out
        case measure => simp [intOf]; omega
    · obtain rfl : k = n := by omega
      have HR := hid (col_take_all HS.out HSA.out HN.out HM.out)
      go_wp2
      go_ret
      exact ⟨_, rfl, by rw [← HR.out]; exact HA.out, HB.out⟩

set_option maxHeartbeats 400000 in
theorem ref_behind {L : List Pr} (h : LP w v L) (hs : Srt L) (hL : L.length ≤ 1000000) (t : Int) : Calls Try.prog 43 #[v, .int .i64 t] w fun e w' => ∃ v', e = .returned v' ∧ LI w' v' (row L t) ∧ Below w.heap.size w w' := by
  obtain ⟨al, cl, n, rfl, hn, hm, h⟩ := LP.open h
  rw [hn] at hL
  have H := hid h
  have HN := hid hn
  have HS := hid hs
  clear h hn hs
  go_enter Try.func43, Try.ntmps43
  go_wp2_with fail
  go_loopw [5, 6] (fun v i wr => ∃ (k : Nat) (A : List Int), k ≤ n ∧ i = .int .i64 k ∧ LI wr v A ∧ SrtI A ∧ (∀ x, x ∈ A ↔ (t, x) ∈ L.take k) ∧ Below w.heap.size w wr) (fun _ i _ => n - (intOf i).toNat)
  case atStart => exact ⟨0, [], by omega, by go_num, (OwnF.nil (f := intC) (e := 3) w 0).sl, List.Pairwise.nil, fun x => by simp, Below.refl _ _⟩
  case round =>
    obtain ⟨k, A, hk, rfl, hA, hsA, hmA, hB⟩ := hrel
    have hAl : A.length ≤ 1000000 := by
      have h1 := nodup_le (l := A) (m := (L.take k).map (·.2)) hsA.nodup fun x hx => List.mem_map.2 ⟨_, (hmA x).1 hx, rfl⟩
      rw [List.length_map, List.length_take] at h1
      omega
    have HA := hid hA
    have HSA := hid hsA
    have HM := hid hmA
    have HB := hid hB
    clear hA hsA hmA hB
    by_cases hlt : k < n
    · obtain ⟨b, off, x, rfl, hb, hx, c1, c2⟩ := (H.out.below HB.out).pairs hlt HN.out
      have HX := hid hx
      clear hx
      by_cases e : x.1 = t
      · have t1 : (x.1 == t) = true := by simpa using e
        have HE := hid e
        clear e
        go_wp2_with fail
        refine (ref_putInt HA.out HSA.out hAl x.2).mono ?_
        rintro e w2 ⟨v2, rfl, h2, -, b2⟩
        have H2 := hid h2
        have B2 := hid (HB.out.trans (b2.mono HB.out.size))
        clear h2 b2
        go_wp2_with fail
        go_roundw
        case rel =>
          refine ⟨k + 1, insI x.2 A, by omega, by go_num, H2.out, srt_insI HSA.out, fun z => ?_, B2.out⟩
          rw [mem_insI, HM.out z, mem_take_step HX.out]
          have hxe := HE.out
          constructor
          · rintro (rfl | h)
            · exact .inr (by rw [← hxe])
            · exact .inl h
          · rintro (h | h)
            · exact .inr h
            · exact .inl (by rw [← h])
        case measure => simp [intOf]; omega
      · have t1 : (x.1 == t) = false := by simpa using e
        have HE := hid e
        clear e
        go_wp2_with fail
        go_roundw
        case rel =>
          refine ⟨k + 1, A, by omega, by go_num, HA.out, HSA.out, fun z => ?_, HB.out⟩
          rw [HM.out z, mem_take_step HX.out]
          constructor
          · exact .inl
          · rintro (h | h)
            · exact h
            · exact absurd (by rw [← h]) HE.out
        case measure => simp [intOf]; omega
    · obtain rfl : k = n := by omega
      have HR := hid (row_take_all HS.out HSA.out HN.out HM.out)
      go_wp2
      go_ret
      exact ⟨_, rfl, by rw [← HR.out]; exact HA.out, HB.out⟩

theorem LI.sameForm {w : World} {v : Value} {l : List Int} (h : LI w v l) : Sl w w.heap.size 1 v l.length (l.map (.int .i64)) := by rw [← flat_int]; exact h
set_option maxHeartbeats 400000 in
theorem same_ints {v1 v2 : Value} {l : List Int} (h1 : LI w v1 l) (h2 : LI w v2 l) : Calls Try.prog 39 #[v1, v2] w fun e w' => e = .returned (.bool true) ∧ Below w.heap.size w w' := by
  obtain ⟨a1, c1, n, rfl, hn, m1, h1⟩ := LI.open h1
  obtain ⟨a2, c2, n2, rfl, hn2, m2, h2⟩ := LI.open h2
  obtain rfl : n = n2 := hn.symm.trans hn2
  have H1 := hid h1
  have H2 := hid h2
  have HN := hid hn
  clear h1 h2 hn2 hn
  have hb : ((n : Int) != (n : Int)) = false := by simp
  go_enter Try.func39, Try.ntmps39
  go_wp2
  go_loopw [5] (fun i wr => ∃ k : Nat, k ≤ n ∧ i = .int .i64 k ∧ Below w.heap.size w wr) (fun i _ => n - (intOf i).toNat)
  case atStart => exact ⟨0, by omega, rfl, Below.refl _ _⟩
  case round =>
    obtain ⟨k, hk, rfl, hB⟩ := hrel
    by_cases hlt : k < n
    · obtain ⟨b1, o1, x, rfl, -, gx, hc1⟩ := (H1.out.below hB).ints hlt HN.out
      obtain ⟨b2, o2, y, rfl, -, gy, hc2⟩ := (H2.out.below hB).ints hlt HN.out
      obtain rfl : x = y := by rw [gx] at gy; exact Option.some.inj gy
      clear gx gy
      have HB := hid hB
      clear hB
      go_wp2
      refine wp_region_x [0, 0, 0, 1, 0, 0, 0, 1, 0, 0] [0, 1, 2, 3, 4, 5, 6, 7, 8, 9] (by kernel_rfl) (by kernel_rfl) rfl (by kernel_rfl) ?_
      simp only [selX, guardAt, List.getElem?_cons_zero, List.getElem?_cons_succ, List.getD_cons_zero, List.getD_cons_succ]
      repeat (first
        | (refine wpL_p (fun K hK => ?_); go_simp; refine hK _ _ ?_; clear hK K)
        | (refine wpL_r (fun K hK => ?_); apply Exists.intro; refine ⟨fun w2 hw2 => ?_, hK _ _ ?_⟩; (have hk1 := hw2.cell; have hk3 := hw2.heap; clear hw2; go_simp; with_reducible rfl); clear hK K; simp only [Act.put, List.setIfInBounds_toArray, List.set_cons_zero, List.set_cons_succ])
        | (refine wpL_yes rfl rfl ?_)
        | (refine wpL_no rfl rfl (fun K hK => ?_); simp only [Act.put, List.setIfInBounds_toArray, List.set_cons_zero, List.set_cons_succ]; refine hK _ _ ?_; clear hK K)
        | (refine wpL_nil ?_))
      go_wp2
      go_roundw
      case rel => exact ⟨k + 1, by omega, by go_num, HB.out.drew⟩
      case measure => simp [intOf]; omega
    · go_wp2
      go_ret
      exact ⟨rfl, hB⟩

theorem ref_among {l : List Int} (h : LI w v l) (t : Int) : Calls Try.prog 34 #[v, .int .i64 t] w fun e w' => e = .returned (.bool (decide (t ∈ l))) ∧ w = w' := by
  obtain ⟨al, cl, n, rfl, hn, hm, h⟩ := LI.open h
  have H := hid h
  have HN := hid hn
  clear h hn
  go_enter Try.func34, Try.ntmps34
  go_wp2
  go_loop [5] (fun i => ∃ k : Nat, k ≤ n ∧ i = .int .i64 k ∧ ∀ j x, j < k → l[j]? = some x → x ≠ t) (fun i => n - (intOf i).toNat)
  case atStart => exact ⟨0, by omega, by go_num, fun _ _ h => by omega⟩
  case round =>
    obtain ⟨k, hk, rfl, hr⟩ := hrel
    have HR := hid hr
    clear hr
    by_cases hlt : k < n
    · obtain ⟨b, off, x, rfl, hb, hx, c1⟩ := H.out.ints hlt HN.out
      have HX := hid hx
      clear hx
      by_cases e1 : x = t
      · have t1 : (x == t) = true := by simpa using e1
        have hin : Hid (decide (t ∈ l) = true) := hid (by rw [decide_eq_true_eq, ← e1]; exact List.mem_of_getElem? HX.out)
        clear e1
        go_wp2
        go_ret
        exact ⟨by rw [hin.out]; rfl, rfl⟩
      · have t1 : (x == t) = false := by simpa using e1
        have hne : Hid (x ≠ t) := hid e1
        clear e1
        go_wp2
        go_round
        case rel => exact ⟨k + 1, by omega, by go_num, fun j y hj hy => by
          by_cases e : j = k
          · subst e; rw [HX.out] at hy; cases hy; exact hne.out
          · exact HR.out j y (by omega) hy⟩
        case measure => simp [intOf]; omega
    · have hin : Hid (decide (t ∈ l) = false) := hid (by
        rw [decide_eq_false_iff_not]
        intro hm
        obtain ⟨j, hj, e⟩ := List.getElem_of_mem hm
        have hjn : j < n := by rw [← HN.out]; exact hj
        exact HR.out j _ (by omega) (List.getElem?_eq_getElem hj) e)
      go_wp2
      go_ret
      exact ⟨by rw [hin.out]; rfl, rfl⟩
end
end Go.Proofs.Ytlmeblhcipkgmaa
