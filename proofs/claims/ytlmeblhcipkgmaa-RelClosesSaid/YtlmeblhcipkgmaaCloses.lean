/- The law that closes relations. Conditions: those of each theorem, as typed. -/
import Derived.Test.YtlmeblhcipkgmaaRelN
import Derived.Test.YtlmeblhcipkgmaaRefF
import Derived.Test.YtlmeblhcipkgmaaFits
namespace Go.Proofs.Ytlmeblhcipkgmaa
open Go.RowKit Go.Maps
set_option linter.unusedVariables false
attribute [local irreducible] wpL

theorem Sl.front {w : World} {B n c : Nat} {a : Option Addr} {o : List Int} {x : Int} (hn : o.length = n) (h : Sl w B 1 (.slice a (n + 1) c) (n + 1) ((o ++ [x]).flatMap intC)) : Sl w B 1 (.slice a n c) n (o.flatMap intC) := by
  obtain ⟨a', c', hv, hm, hl, h⟩ := h
  simp only [Value.slice.injEq] at hv
  obtain ⟨rfl, -, rfl⟩ := hv
  refine ⟨_, _, rfl, by omega, by rw [flat_length intC 1 (fun _ => rfl), hn], fun _ => ?_⟩
  obtain ⟨b, off, ha, hb, hc⟩ := h (by omega)
  refine ⟨b, off, ha, hb, fun j u hu => hc j u ?_⟩
  rw [List.flatMap_append, List.getElem?_append_left (List.getElem?_eq_some_iff.1 hu).1]
  exact hu
theorem OwnI.room {w : World} {B g n c : Nat} {l : List Int} (h : OwnI w B (.slice (some ⟨g, 0, none⟩) n c) l) (hn : l.length = n) : n ≤ c ∧ c ≤ 9223372036854775807 := by
  subst hn
  obtain ⟨-, h | ⟨g', c', cs, hv, hB, hh, hle, hmx, -⟩⟩ := h
  · simp at h
  · simp only [Value.slice.injEq] at hv
    obtain ⟨-, -, rfl⟩ := hv
    exact ⟨hle, hmx⟩

section
variable {w : World} {v : Value}
set_option maxRecDepth 100000 in
set_option maxHeartbeats 2000000 in
theorem law_closes {l : List Pr} {n B : Nat} (h : Sl w B 2 v n (l.flatMap pairC)) (hn : l.length = n) (hB : B ≤ w.heap.size) (hd : ∀ x ∈ l, dI x.1 ∧ dI x.2)
    {o : List Int} {ao : Option Addr} {no co Bo : Nat} (hno : o.length = no) (ho : Sl w Bo 1 (.slice ao no co) no (o.flatMap intC)) (hBo : Bo ≤ w.heap.size) (hod : ∀ x ∈ o, dI x) (hnc : no ≤ co) (hcm : co ≤ 9223372036854775807) :
    Calls Try.prog 3 #[v, .slice ao no co] w fun e w' => e = .returned (.bool true) ∧ Below w.heap.size w w' := by
  obtain ⟨al, cl, rfl, hm⟩ := h.ex
  have hmo : no ≤ 9223372036854775807 := by omega
  have H := hid h
  have HN := hid hn
  have HD := hid hd
  have HO := hid (ho.more hBo)
  have HNO := hid hno
  have HOD := hid hod
  clear h hn hd ho hno hod
  go_enter Try.func3, Try.ntmps3
  go_wp2_with fail
  refine (rel_first w).mono ?_
  rintro e w1 ⟨rfl, b1⟩
  have B1 := hid b1
  have z1 := b1.size
  clear b1
  by_cases hl : n ≤ 60
  · by_cases hlo : no ≤ 60
    · have HA := hid (area_put HN.out hl)
      have HS := hid (srt_putAll l)
      have hLl : (putAll l).length ≤ 60 := by
        have := length_putAll l
        have := HN.out
        omega
      go_wp2_with fail
      refine (rel_made (H.out.below (B1.out.mono hB)) HN.out (by omega) HD.out (by omega)).mono ?_
      rintro e w2 ⟨p, v2, rfl, r2, l2, b2⟩
      obtain ⟨a2, c2, rfl, -⟩ := Sl.ex l2
      generalize putAll l = L at *
      have R2 := hid r2
      have V2 := hid (show LP w2 (.slice a2 L.length c2) L from l2)
      have B2 := hid (B1.out.trans (b2.mono z1))
      have z2 := B2.out.size
      clear r2 l2 b2 B1
      go_wp2_with fail
      refine (rel_closure R2.out (Nat.le_refl _) HA.out).mono ?_
      rintro e w3 ⟨p3, C, rfl, r3, hc3, b3⟩
      have HC := hid hc3
      have hCl : C.length ≤ 1000000 := Nat.le_trans (clo_le hc3) HA.out
      have Q3 := hid r3
      have R3 := hid ((R2.out.below b3 (Nat.le_refl _)).raise b3.size)
      have V3 := hid (Sl.up V2.out (Keep.of_below b3))
      have B3 := hid (B2.out.trans (b3.mono z2))
      clear r3 hc3 b3 R2 B2 V2
      go_wp2_with fail
      refine (ref_ints (v := .slice ao no co) (l := o) (LI.ofN HNO.out ((HO.out.below B3.out).more B3.out.size)) (by have := HNO.out; omega)).mono ?_
      rintro e w4 ⟨v4, rfl, h4, b4⟩
      obtain ⟨a4, c4, rfl, -⟩ := h4.sl.ex
      have O4 := hid h4
      have z34 : w3.heap.size ≤ w4.heap.size := b4.size
      have b34 := hid b4
      have hol : o.length ≤ 60 := by have := HNO.out; omega
      clear h4 b4
      go_wp2_with (at_builtin; refine wpList_appF rfl _ _ _ rfl _ 8 Try.underlying23 infoI rfl O4.out (47 : Int) (by first | omega | (simp <;> omega)) (by rfl) (by rfl) (by first | rfl | simp) rfl (in_one _) (by first | omega | (simp only [List.length_append, List.length_cons, List.length_nil, List.length_replicate]; omega)) (by first | omega | (simp only [List.length_append, List.length_cons, List.length_nil, List.length_replicate]; omega)) ?_; refine Stop.halt ?_)
      refine Stop.go ?_
      intro gn cn wn hn Gn
      have hroom := OwnI.room hn (by simp)
      have bn : Below w3.heap.size w4 wn := Gn.below z34 fun q h => (O4.out.lt q h).1
      have M5 := hid (show Sl wn wn.heap.size 1 (.slice (some ⟨gn, 0, none⟩) (no + 1) cn) (no + 1) ((o ++ [(47 : Int)]).flatMap intC) by
        have := hn.sl
        simp only [List.length_append, List.length_singleton, HNO.out] at this
        exact this)
      rw [HNO.out] at hroom ⊢
      have b5 : Below w3.heap.size w3 wn := b34.out.trans bn
      have R5 := hid ((R3.out.below b5 (Nat.le_refl _)).raise b5.size)
      have Q5 := hid ((Q3.out.below b5 (Nat.le_refl _)).raise b5.size)
      have V5 := hid ((V3.out.below b5).more b5.size)
      have B5 := hid (B3.out.trans (b5.mono B3.out.size))
      clear b5 bn hn Gn b34 O4 R3 Q3 V3 B3 z34
      obtain ⟨hr1, hr2⟩ := hroom
      have i1 : (0 : Int) ≤ (no : Int) := by omega
      have i2 : (no : Int) ≤ (cn : Int) := by omega
      have hnc1 : no ≤ cn := by omega
      go_wp2_with fail
      refine (rel_fits R5.out _ o no cn _ HNO.out (Sl.front HNO.out M5.out) HOD.out hnc1 hr2).mono ?_
      rintro e w6 ⟨rfl, rfl⟩
      go_wp2_with fail
      refine (ref_closure (v := .slice a2 L.length c2) (L := L) V5.out HS.out HA.out).mono ?_
      rintro e w6 ⟨v6, C6, rfl, h6, hc6, b6⟩
      rw [hc6.uniq HC.out] at h6
      have L6 := hid h6
      clear hc6 h6
      have R6 := hid ((R5.out.below b6 (Nat.le_refl _)).raise b6.size)
      have Q6 := hid ((Q5.out.below b6 (Nat.le_refl _)).raise b6.size)
      have V6 := hid (Sl.up V5.out (Keep.of_below b6))
      have M6 := hid (Sl.up M5.out (Keep.of_below b6))
      have B6 := hid (B5.out.trans (b6.mono B5.out.size))
      clear b6 R5 Q5 V5 M5 B5
      go_wp2_with fail
      refine (rel_is Q6.out (Nat.le_refl _) hCl L6.out).mono ?_
      rintro e w7 ⟨rfl, b7⟩
      clear L6
      have R7 := hid ((R6.out.below b7 (Nat.le_refl _)).raise b7.size)
      have Q7 := hid ((Q6.out.below b7 (Nat.le_refl _)).raise b7.size)
      have V7 := hid (Sl.up V6.out (Keep.of_below b7))
      have M7 := hid (Sl.up M6.out (Keep.of_below b7))
      have B7 := hid (B6.out.trans (b7.mono B6.out.size))
      clear b7 R6 Q6 V6 M6 B6
      go_wp2_with fail
      refine (rel_is (v := .slice a2 L.length c2) R7.out (Nat.le_refl _) (by omega) V7.out).mono ?_
      rintro e w8 ⟨rfl, b8⟩
      have R8 := hid ((R7.out.below b8 (Nat.le_refl _)).raise b8.size)
      have Q8 := hid ((Q7.out.below b8 (Nat.le_refl _)).raise b8.size)
      have V8 := hid (Sl.up V7.out (Keep.of_below b8))
      have M8 := hid (Sl.up M7.out (Keep.of_below b8))
      have B8 := hid (B7.out.trans (b8.mono B7.out.size))
      clear b8 R7 Q7 V7 M7 B7
      go_wp2_with fail
      refine (rel_circle R8.out (Nat.le_refl _) HA.out).mono ?_
      rintro e w9 ⟨C9, hc9, rfl, b9⟩
      rw [hc9.uniq HC.out]
      clear hc9
      have R9 := hid ((R8.out.below b9 (Nat.le_refl _)).raise b9.size)
      have Q9 := hid ((Q8.out.below b9 (Nat.le_refl _)).raise b9.size)
      have V9 := hid (Sl.up V8.out (Keep.of_below b9))
      have M9 := hid (Sl.up M8.out (Keep.of_below b9))
      have B9 := hid (B8.out.trans (b9.mono B8.out.size))
      clear b9 R8 Q8 V8 M8 B8
      go_wp2_with fail
      refine (ref_circle (v := .slice a2 L.length c2) (L := L) V9.out HS.out HA.out).mono ?_
      rintro e wA ⟨CA, hcA, rfl, bA⟩
      rw [hcA.uniq HC.out]
      clear hcA
      have R10 := hid ((R9.out.below bA (Nat.le_refl _)).raise bA.size)
      have Q10 := hid ((Q9.out.below bA (Nat.le_refl _)).raise bA.size)
      have V10 := hid (Sl.up V9.out (Keep.of_below bA))
      have M10 := hid (Sl.up M9.out (Keep.of_below bA))
      have B10 := hid (B9.out.trans (bA.mono B9.out.size))
      clear bA R9 Q9 V9 M9 B9
      have hbe : ∀ q : Bool, (q == q) = true := fun q => by cases q <;> rfl
      have hq1 := hbe (hasCircle C)
      have hq2 := hbe (fitsB L o)
      clear hbe
      go_wp2_with fail
      refine (ref_fits (v := .slice a2 L.length c2) (L := L) V10.out HNO.out ((HO.out.below B10.out).more B10.out.size) (Nat.le_refl _) hmo).mono ?_
      rintro e wB ⟨rfl, bB⟩
      have R11 := hid ((R10.out.below bB (Nat.le_refl _)).raise bB.size)
      have Q11 := hid ((Q10.out.below bB (Nat.le_refl _)).raise bB.size)
      have V11 := hid (Sl.up V10.out (Keep.of_below bB))
      have M11 := hid (Sl.up M10.out (Keep.of_below bB))
      have B11 := hid (B10.out.trans (bB.mono B10.out.size))
      clear bB R10 Q10 V10 M10 B10
      obtain ⟨bb, off, x, ee, hbb, hx, hcell⟩ := M11.out.ints (k := no) (by omega) (by rw [List.length_append, HNO.out]; rfl)
      simp only [Option.some.injEq, Addr.mk.injEq, and_true] at ee
      obtain ⟨rfl, rfl⟩ := ee
      rw [List.getElem?_append_right (by rw [HNO.out]; exact Nat.le_refl _), HNO.out, Nat.sub_self] at hx
      simp at hx
      subst hx
      have hcell2 := hcell
      rw [Nat.zero_add] at hcell2
      clear M11 V11 R11 Q11
      obtain ⟨q, hq⟩ : ∃ q, q = no + 1 := ⟨_, rfl⟩
      rw [← hq]
      have hqn : no < q := by omega
      have i3 : (no : Int) < (q : Int) := by omega
      clear hq
      go_wp2
      go_ret
      exact ⟨rfl, B11.out⟩
    · go_wp2
      go_ret
      exact ⟨rfl, B1.out⟩
  · go_wp2
    go_ret
    exact ⟨rfl, B1.out⟩
end
end Go.Proofs.Ytlmeblhcipkgmaa
