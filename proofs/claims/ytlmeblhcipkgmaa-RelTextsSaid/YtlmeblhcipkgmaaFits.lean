/- The law that fits orders. Conditions: those of each theorem, as typed. -/
import Derived.Test.YtlmeblhcipkgmaaRelN
namespace Go.Proofs.Ytlmeblhcipkgmaa
open Go.RowKit Go.Maps
attribute [local irreducible] wpL

theorem area_le {L : List Pr} {n : Nat} (h : L.length ≤ n) : area L ≤ n * n :=
  Nat.mul_le_mul
    (Nat.le_trans (nodup_le (m := L.map (·.1)) (srt_heads L).nodup fun z hz => by
      obtain ⟨y, hy⟩ := mem_heads.1 hz
      exact List.mem_map.2 ⟨_, hy, rfl⟩) (by simpa using h))
    (Nat.le_trans (nodup_le (m := L.map (·.2)) (srt_tails L).nodup fun z hz => by
      obtain ⟨y, hy⟩ := mem_tails.1 hz
      exact List.mem_map.2 ⟨_, hy, rfl⟩) (by simpa using h))
theorem area_put {l : List Pr} {n : Nat} (h : l.length = n) (hn : n ≤ 60) : area (putAll l) ≤ 1000000 := by
  have h1 := length_putAll l
  exact Nat.le_trans (area_le (n := 60) (by omega)) (by decide)

theorem LI.ofN {w : World} {v : Value} {l : List Int} {n : Nat} (hn : l.length = n) (h : Sl w w.heap.size 1 v n (l.flatMap intC)) : LI w v l := by subst hn; exact h
section
variable {w : World} {v : Value}
set_option maxRecDepth 100000 in
set_option maxHeartbeats 2000000 in
theorem law_fits {l : List Pr} {n B : Nat} (h : Sl w B 2 v n (l.flatMap pairC)) (hn : l.length = n) (hB : B ≤ w.heap.size) (hd : ∀ x ∈ l, dI x.1 ∧ dI x.2)
    {o : List Int} {ao : Option Addr} {no co Bo : Nat} (hno : o.length = no) (ho : Sl w Bo 1 (.slice ao no co) no (o.flatMap intC)) (hBo : Bo ≤ w.heap.size) (hod : ∀ x ∈ o, dI x) (hnc : no ≤ co) (hcm : co ≤ 9223372036854775807) :
    Calls Try.prog 6 #[v, .slice ao no co] w fun e w' => e = .returned (.bool true) ∧ Below w.heap.size w w' := by
  obtain ⟨al, cl, rfl, hm⟩ := h.ex
  have hmo : no ≤ 9223372036854775807 := by omega
  have H := hid h
  have HN := hid hn
  have HD := hid hd
  have HO := hid (ho.more hBo)
  have HNO := hid hno
  have HOD := hid hod
  clear h hn hd ho hno hod
  go_enter Try.func6, Try.ntmps6
  go_wp2_with fail
  refine (rel_first w).mono ?_
  rintro e w1 ⟨rfl, b1⟩
  have B1 := hid b1
  have z1 := b1.size
  clear b1
  by_cases hl : n ≤ 60
  · by_cases hlo : no ≤ 60
    · have HA := hid (area_put HN.out hl)
      have hLl : (putAll l).length ≤ 60 := by
        have := length_putAll l
        have := HN.out
        omega
      go_wp2_with fail
      refine (rel_made (H.out.below (B1.out.mono hB)) HN.out (by omega) HD.out (by omega)).mono ?_
      rintro e w2 ⟨p, v2, rfl, r2, l2, b2⟩
      obtain ⟨a2, c2, rfl, -⟩ := Sl.ex l2
      have HIN := hid (@mem_putAll · l)
      generalize putAll l = L at *
      obtain ⟨m, hm2⟩ : ∃ m, m = L.length := ⟨_, rfl⟩
      rw [← hm2] at hLl
      have HM := hid hm2
      have R2 := hid r2
      have V2 := hid (show Sl w2 w2.heap.size 2 (.slice a2 m c2) m (L.flatMap pairC) by rw [hm2]; exact l2)
      rw [← hm2]
      have B2 := hid (B1.out.trans (b2.mono z1))
      have z2 := B2.out.size
      have O2 := hid (HO.out.below B2.out)
      clear r2 l2 b2 B1 hm2
      go_wp2_with fail
      go_loop [8] (fun i => ∃ k : Nat, k ≤ m ∧ i = .int .i64 k ∧ ∀ j x, j < k → L[j]? = some x → x.1 ∈ o ∧ x.2 ∈ o) (fun i => m - (intOf i).toNat)
      case atStart => exact ⟨0, by omega, by go_num, fun _ _ h => by omega⟩
      case round =>
        obtain ⟨k, hk, rfl, hr⟩ := hrel
        have HR := hid hr
        clear hr
        by_cases hlt : k < m
        · obtain ⟨b, off, x, rfl, hb, hx, c1, c2'⟩ := V2.out.pairs hlt HM.out.symm
          have HX := hid hx
          clear hx
          by_cases e1 : x.1 ∈ o
          · have d1 : decide (x.1 ∈ o) = true := by simpa using e1
            by_cases e2 : x.2 ∈ o
            · have d2 : decide (x.2 ∈ o) = true := by simpa using e2
              have HE := hid (And.intro e1 e2)
              clear e1 e2
              go_wp2_with fail
              refine (ref_among (v := .slice ao no co) (l := o) (LI.ofN HNO.out (O2.out.more (by omega))) x.1).mono ?_
              rintro e w3 ⟨rfl, rfl⟩
              rw [d1]
              go_wp2_with fail
              refine (ref_among (v := .slice ao no co) (l := o) (LI.ofN HNO.out (O2.out.more (by omega))) x.2).mono ?_
              rintro e w3 ⟨rfl, rfl⟩
              rw [d2]
              go_wp2
              go_round
              case rel => exact ⟨k + 1, by omega, by go_num, fun j y hj hy => by
                by_cases e : j = k
                · subst e; rw [HX.out] at hy; cases hy; exact HE.out
                · exact HR.out j y (by omega) hy⟩
              case measure => simp [intOf]; omega
            · have d2 : decide (x.2 ∈ o) = false := by simpa using e2
              clear e1 e2
              go_wp2_with fail
              refine (ref_among (v := .slice ao no co) (l := o) (LI.ofN HNO.out (O2.out.more (by omega))) x.1).mono ?_
              rintro e w3 ⟨rfl, rfl⟩
              rw [d1]
              go_wp2_with fail
              refine (ref_among (v := .slice ao no co) (l := o) (LI.ofN HNO.out (O2.out.more (by omega))) x.2).mono ?_
              rintro e w3 ⟨rfl, rfl⟩
              rw [d2]
              go_wp2
              go_ret
              exact ⟨rfl, B2.out⟩
          · have d1 : decide (x.1 ∈ o) = false := by simpa using e1
            clear e1
            go_wp2_with fail
            refine (ref_among (v := .slice ao no co) (l := o) (LI.ofN HNO.out (O2.out.more (by omega))) x.1).mono ?_
            rintro e w3 ⟨rfl, rfl⟩
            rw [d1]
            go_wp2
            go_ret
            exact ⟨rfl, B2.out⟩
        · obtain rfl : k = m := by omega
          have HALL := hid (fun x (hx : x ∈ L) => by
            obtain ⟨j, hj, e⟩ := List.getElem_of_mem hx
            exact HR.out j x (by rw [HM.out]; exact hj) (by rw [← e]; exact List.getElem?_eq_getElem hj) : ∀ x ∈ L, x.1 ∈ o ∧ x.2 ∈ o)
          clear HR
          go_wp2_with fail
          refine (rel_fits R2.out ao o no co _ HNO.out O2.out HOD.out hnc hcm).mono ?_
          rintro e w3 ⟨rfl, rfl⟩
          go_wp2_with fail
          refine (rel_closure R2.out (Nat.le_refl _) HA.out).mono ?_
          rintro e w3 ⟨p3, C, rfl, r3, hc3, b3⟩
          have HF := hid (fits_clo hc3 HALL.out)
          have HC := hid hc3
          have Q3 := hid r3
          have R3 := hid ((R2.out.below b3 (Nat.le_refl _)).raise b3.size)
          have B3 := hid (B2.out.trans (b3.mono z2))
          have O3 := hid (HO.out.below B3.out)
          clear r3 hc3 b3 R2 B2 V2 O2
          go_wp2_with fail
          refine (rel_fits Q3.out ao o no co _ HNO.out O3.out HOD.out hnc hcm).mono ?_
          rintro e w4 ⟨rfl, rfl⟩
          rw [← HF.out.1]
          cases hfb : fitsB L o with
          | false =>
            go_wp2
            go_ret
            exact ⟨rfl, B3.out⟩
          | true =>
            go_wp2_with fail
            refine (rel_circle R3.out (Nat.le_refl _) HA.out).mono ?_
            rintro e w5 ⟨C5, hc5, rfl, b5⟩
            obtain rfl := hc5.uniq HC.out
            have hci : hasCircle C5 = false := by
              cases hh : hasCircle C5 with
              | false => rfl
              | true => exact absurd ⟨hfb, hh⟩ HF.out.2
            rw [hci]
            have B5 := hid (B3.out.trans (b5.mono B3.out.size))
            clear b5 B3 R3
            go_wp2
            go_ret
            exact ⟨rfl, B5.out⟩
    · go_wp2
      go_ret
      exact ⟨rfl, B1.out⟩
  · go_wp2
    go_ret
    exact ⟨rfl, B1.out⟩
end
end Go.Proofs.Ytlmeblhcipkgmaa
