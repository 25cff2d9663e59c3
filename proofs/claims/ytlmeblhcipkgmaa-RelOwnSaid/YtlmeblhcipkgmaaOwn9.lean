/- The law of lists and relations of one's own. Conditions: those of each theorem, as typed. -/
import Derived.Test.YtlmeblhcipkgmaaRelN
import Derived.Test.YtlmeblhcipkgmaaSpoil
import Derived.Test.YtlmeblhcipkgmaaPlays
import Derived.Test.YtlmeblhcipkgmaaRefE
import Derived.Test.YtlmeblhcipkgmaaFits
namespace Go.Proofs.Ytlmeblhcipkgmaa
open Go.RowKit Go.Maps
set_option linter.unusedVariables false
attribute [local irreducible] wpL

section
variable {w : World} {v : Value}
set_option maxRecDepth 100000 in
set_option maxHeartbeats 2000000 in
theorem law_own9 {l : List Pr} {n B : Nat} (h : Sl w B 2 v n (l.flatMap pairC)) (hn : l.length = n) (hB : B ≤ w.heap.size) (hd : ∀ x ∈ l, dI x.1 ∧ dI x.2) (a c : Int) (ha : dI a) (hc : dI c) :
    Calls Try.prog 8 #[v, .int .i64 a, .int .i64 c] w fun e w' => e = .returned (.bool true) ∧ Below w.heap.size w w' := by
  obtain ⟨al, cl, rfl, hm⟩ := h.ex
  have H := hid h
  have HN := hid hn
  have HD := hid hd
  clear h hn hd
  go_enter Try.func8, Try.ntmps8
  go_wp2_with fail
  refine (rel_first w).mono ?_
  rintro e w1 ⟨rfl, b1⟩
  have B1 := hid b1
  have z1 := b1.size
  clear b1
  by_cases hl : n ≤ 60
  · have HA := hid (area_put HN.out hl)
    have hLl : (putAll l).length ≤ 60 := by
      have := length_putAll l
      have := HN.out
      omega
    go_wp2_with fail
    refine (rel_made (H.out.below (B1.out.mono hB)) HN.out (by omega) HD.out (by omega)).mono ?_
    rintro e w2 ⟨p, v2, rfl, r2, l2, b2⟩
    obtain ⟨a2, c2, m, rfl, hLm, hm2, l2⟩ := LP.open l2
    generalize putAll l = L at *
    have HSR := hid r2.srt
    have R2 := hid r2
    have V2 := hid l2
    have HLM := hid hLm
    have B2 := hid (B1.out.trans (b2.mono z1))
    have hw2 : w.heap.size ≤ w2.heap.size := B2.out.size
    clear r2 l2 hLm b2 B1
    go_wp2_with fail
    refine (rel_closure R2.out (Nat.le_refl _) HA.out).mono ?_
    rintro e w3 ⟨p3, C, rfl, r3, hc3, b3⟩
    have hCl : C.length ≤ 1000000 := Nat.le_trans (clo_le hc3) HA.out
    have Q3 := hid r3
    have B3 := hid b3
    have z3 : w2.heap.size ≤ w3.heap.size := b3.size
    clear r3 hc3 b3
    go_wp2_with fail
    refine (rel_add Q3.out (Nat.le_refl _) hCl a c ha hc).mono ?_
    rintro e w4 ⟨rfl, -, k4, b4⟩
    have B4 := hid (B3.out.trans b4)
    clear k4 b4 B3 Q3 z3
    go_wp2_with fail
    go_loopw [11] (fun i wr => ∃ k : Nat, k ≤ 2 ∧ i = .int .i64 k ∧ Below w2.heap.size w2 wr) (fun i _ => 2 - (intOf i).toNat)
    case atStart => exact ⟨0, by omega, by go_num, B4.out⟩
    case round =>
      obtain ⟨k, hk, rfl, hB⟩ := hrel
      have HB := hid hB
      have z4 : w2.heap.size ≤ wr.heap.size := hB.size
      have R4 := hid (R2.out.below hB (Nat.le_refl _))
      have V4 := hid (V2.out.below hB)
      clear hB B4
      by_cases hlt : k < 2
      · go_wp2_with fail
        refine (rel_pairs R4.out z4 (by omega)).mono ?_
        rintro e w5 ⟨v5, rfl, h5, b5⟩
        obtain ⟨a5, c5, rfl, -⟩ := h5.sl.ex
        have L5 := hid (fun q (hq : (Value.slice a5 L.length c5).ownBlock = some q) => h5.lt q hq)
        have P5 := hid h5
        have B5 := hid (HB.out.trans (b5.mono z4))
        have z5 := b5.size
        clear h5 b5
        go_wp2_with fail
        refine (rel_ahead (R2.out.below B5.out (Nat.le_refl _)) (Nat.le_trans z4 z5) (by omega) c hc).mono ?_
        rintro e w6 ⟨v6, rfl, h6, b6⟩
        obtain ⟨a6, c6, rfl, hm6⟩ := h6.sl.ex
        have L6 := hid (fun q (hq : (Value.slice a6 (col L c).length c6).ownBlock = some q) => h6.lt q hq)
        have X6 := hid h6
        have P6 := hid (P5.out.below b6)
        have B6 := hid (B5.out.trans (b6.mono (Nat.le_trans z4 z5)))
        have z6 := b6.size
        clear h6 b6 P5 B5
        go_wp2_with fail
        refine (rel_behind (R2.out.below B6.out (Nat.le_refl _)) (by omega) a ha).mono ?_
        rintro e w7 ⟨v7, rfl, h7, b7⟩
        obtain ⟨a7, c7, rfl, hm7⟩ := h7.sl.ex
        have L7 := hid (fun q (hq : (Value.slice a7 (row L a).length c7).ownBlock = some q) => h7.lt q hq)
        have Y7 := hid h7
        have X7 := hid (X6.out.below b7)
        have P7 := hid (P6.out.below b7)
        have B7 := hid (B6.out.trans (b7.mono (by omega)))
        clear h7 b7 P6 X6 B6
        have hx60 : (col L c).length ≤ 60 := Nat.le_trans (by unfold col; rw [List.length_map]; exact List.length_filter_le _ _) hLl
        have hy60 : (row L a).length ≤ 60 := Nat.le_trans (length_row L a) hLl
        generalize hcl : col L c = X at *
        generalize hrw : row L a = Y at *
        have HCL := hid hcl
        have HRW := hid hrw
        clear hcl hrw
        obtain ⟨nx, hnx⟩ : ∃ nx, nx = X.length := ⟨_, rfl⟩
        obtain ⟨ny, hny⟩ : ∃ ny, ny = Y.length := ⟨_, rfl⟩
        obtain ⟨np, hnp⟩ : ∃ np, np = L.length := ⟨_, rfl⟩
        rw [← hnx] at hm6 hx60 L6 X7 ⊢
        rw [← hny] at hm7 hy60 L7 Y7 ⊢
        rw [← hnp] at hLl L5 P7 ⊢
        have HNX := hid hnx.symm
        have HNY := hid hny.symm
        have HNP := hid hnp.symm
        clear hnx hny hnp R4 V4 HB
        generalize wr.heap.size = B0 at *
        have P7 := hid (OwnF.base (B' := w2.heap.size) P7.out z4)
        have X7 := hid (OwnF.base (B' := w2.heap.size) X7.out (by omega))
        have Y7 := hid (OwnF.base (B' := w2.heap.size) Y7.out (by omega))
        go_wp2_with fail
        go_loopw [15] (fun i wq => ∃ j : Nat, j ≤ np ∧ i = .int .i64 j ∧ (∃ l', l'.length = np ∧ OwnP wq w2.heap.size (.slice a5 np c5) l') ∧ OwnI wq w2.heap.size (.slice a6 nx c6) X ∧ OwnI wq w2.heap.size (.slice a7 ny c7) Y ∧ Below w2.heap.size w2 wq) (fun i _ => np - (intOf i).toNat)
        case atStart => exact ⟨0, by omega, by go_num, ⟨L, HNP.out, P7.out⟩, X7.out, Y7.out, B7.out⟩
        case round =>
          obtain ⟨j, hj, rfl, ⟨l', hl', hP⟩, hX, hY, hB⟩ := hrel
          have P8 := hid hP
          have HL' := hid hl'
          have X8 := hid hX
          have Y8 := hid hY
          have B8 := hid hB
          clear hP hl' hX hY hB P7 X7 Y7 B7
          by_cases hlj : j < np
          · obtain ⟨g, x, rfl, hg1, hg2, hx, d1, d2⟩ := OwnP.at P8.out HL'.out hlj
            have hf1 := P8.out.free (j * 2)
            have hf2 := P8.out.free (j * 2 + 1)
            have hgl : g < w5.heap.size := (L5.out g rfl).2
            have hnx := fun q (hq : (Value.slice a6 nx c6).ownBlock = some q) => (L6.out q hq).1
            have hny := fun q (hq : (Value.slice a7 ny c7).ownBlock = some q) => (L7.out q hq).1
            have hxg : (Value.slice a6 nx c6).ownBlock ≠ some g := fun e => by have := hnx g e; omega
            have hyg : (Value.slice a7 ny c7).ownBlock ≠ some g := fun e => by have := hny g e; omega
            have HXG := hid hxg
            have HYG := hid hyg
            clear hx hnx hny hxg hyg
            go_wp2_with fail
            go_roundw
            case rel => exact ⟨j + 1, by omega, by go_num, ⟨l'.set j (-9, -9), by rw [List.length_set]; exact HL'.out, OwnP.set P8.out HL'.out (-9, -9)⟩, (X8.out.other HXG.out _).other HXG.out _, (Y8.out.other HYG.out _).other HYG.out _, (B8.out.setCell (p := ⟨g, j * 2, none⟩) (by show _ ≤ g; omega) _).setCell (p := ⟨g, j * 2 + 1, none⟩) (by show _ ≤ g; omega) _⟩
            case measure => simp [intOf]; omega
          obtain rfl : j = np := by omega
          go_wp2_with fail
          go_loopw [16] (fun i wq => ∃ j' : Nat, j' ≤ nx ∧ i = .int .i64 j' ∧ (∃ l', l'.length = j ∧ OwnP wq w2.heap.size (.slice a5 j c5) l') ∧ (∃ X', X'.length = nx ∧ OwnI wq w2.heap.size (.slice a6 nx c6) X') ∧ OwnI wq w2.heap.size (.slice a7 ny c7) Y ∧ Below w2.heap.size w2 wq) (fun i _ => nx - (intOf i).toNat)
          case atStart => exact ⟨0, by omega, by go_num, ⟨l', HL'.out, P8.out⟩, ⟨X, HNX.out, X8.out⟩, Y8.out, B8.out⟩
          case round =>
            obtain ⟨j', hj', rfl, ⟨l'', hl'', hP⟩, ⟨X', hX', hX⟩, hY, hB⟩ := hrel
            have P9 := hid hP
            have HP9 := hid hl''
            have X9 := hid hX
            have HX9 := hid hX'
            have Y9 := hid hY
            have B9 := hid hB
            clear hP hl'' hX hX' hY hB P8 X8 Y8 B8 HL'
            by_cases hlj' : j' < nx
            · obtain ⟨g, x, rfl, hg1, hg2, hx, d1⟩ := OwnI.at X9.out HX9.out hlj'
              have hf1 := X9.out.free j'
              obtain ⟨hgl0, hgl⟩ := L6.out g rfl
              have hpg : (Value.slice a5 j c5).ownBlock ≠ some g := fun e => by have := (L5.out g e).2; omega
              have hyg : (Value.slice a7 ny c7).ownBlock ≠ some g := fun e => by have := (L7.out g e).1; omega
              have HPG := hid hpg
              have HYG := hid hyg
              clear hx hpg hyg
              go_wp2_with fail
              go_roundw
              case rel => exact ⟨j' + 1, by omega, by go_num, ⟨l'', HP9.out, P9.out.other HPG.out _⟩, ⟨X'.set j' (-9), by rw [List.length_set]; exact HX9.out, OwnI.set X9.out HX9.out (-9)⟩, Y9.out.other HYG.out _, B9.out.setCell (p := ⟨g, j', none⟩) (by show _ ≤ g; omega) _⟩
              case measure => simp [intOf]; omega
            obtain rfl : j' = nx := by omega
            go_wp2_with fail
            go_loopw [17] (fun i wq => ∃ j'' : Nat, j'' ≤ ny ∧ i = .int .i64 j'' ∧ (∃ l', l'.length = j ∧ OwnP wq w2.heap.size (.slice a5 j c5) l') ∧ (∃ X', X'.length = j' ∧ OwnI wq w2.heap.size (.slice a6 j' c6) X') ∧ (∃ Y', Y'.length = ny ∧ OwnI wq w2.heap.size (.slice a7 ny c7) Y') ∧ Below w2.heap.size w2 wq) (fun i _ => ny - (intOf i).toNat)
            case atStart => exact ⟨0, by omega, by go_num, ⟨l'', HP9.out, P9.out⟩, ⟨X', HX9.out, X9.out⟩, ⟨Y, HNY.out, Y9.out⟩, B9.out⟩
            case round =>
              obtain ⟨j'', hj'', rfl, ⟨l3, hl3, hP⟩, ⟨X3, hX3, hX⟩, ⟨Y3, hY3, hY⟩, hB⟩ := hrel
              have PA := hid hP
              have HPA := hid hl3
              have XA := hid hX
              have HXA := hid hX3
              have YA := hid hY
              have HYA := hid hY3
              have BA := hid hB
              have zA := hB.size
              clear hP hl3 hX hX3 hY hY3 hB P9 X9 Y9 B9 HP9 HX9
              by_cases hlj'' : j'' < ny
              · obtain ⟨g, x, rfl, hg1, hg2, hx, d1⟩ := OwnI.at YA.out HYA.out hlj''
                have hf1 := YA.out.free j''
                obtain ⟨hgl0, hgl⟩ := L7.out g rfl
                have hpg : (Value.slice a5 j c5).ownBlock ≠ some g := fun e => by have := (L5.out g e).2; omega
                have hxg : (Value.slice a6 j' c6).ownBlock ≠ some g := fun e => by have := (L6.out g e).2; omega
                have HPG := hid hpg
                have HXG := hid hxg
                clear hx hpg hxg
                go_wp2_with fail
                go_roundw
                case rel => exact ⟨j'' + 1, by omega, by go_num, ⟨l3, HPA.out, PA.out.other HPG.out _⟩, ⟨X3, HXA.out, XA.out.other HXG.out _⟩, ⟨Y3.set j'' (-9), by rw [List.length_set]; exact HYA.out, OwnI.set YA.out HYA.out (-9)⟩, BA.out.setCell (p := ⟨g, j'', none⟩) (by show _ ≤ g; omega) _⟩
                case measure => simp [intOf]; omega
              obtain rfl : j'' = ny := by omega
              have hle := HPA.out
              have hlx := HXA.out
              have hly := HYA.out
              have HPX := hid (fun q (h1 : (Value.slice a6 j' c6).ownBlock = some q) => (fun h2 => by have := (L5.out q h2).2; have := (L6.out q h1).1; omega : (Value.slice a5 j c5).ownBlock ≠ some q))
              have HPY := hid (fun q (h1 : (Value.slice a7 j'' c7).ownBlock = some q) => (fun h2 => by have := (L5.out q h2).2; have := (L7.out q h1).1; omega : (Value.slice a5 j c5).ownBlock ≠ some q))
              have HXY := hid (fun q (h1 : (Value.slice a7 j'' c7).ownBlock = some q) => (fun h2 => by have := (L6.out q h2).2; have := (L7.out q h1).1; omega : (Value.slice a6 j' c6).ownBlock ≠ some q))
              subst hle hlx hly
              go_wp2_with (at_builtin; refine wpList_appF rfl _ _ _ rfl _ 16 Try.underlying48 infoP rfl PA.out (1, 1) zA (by rfl) (by rfl) (by first | rfl | simp) rfl (pr_one _) (by first | omega | (simp only [List.length_append, List.length_cons, List.length_nil, List.length_replicate]; omega)) (by first | omega | (simp only [List.length_append, List.length_cons, List.length_nil, List.length_replicate]; omega)) ?_; refine Stop.halt ?_)
              refine Stop.go ?_
              intro gp cp wp hp Gp
              have XB := hid (XA.out.grw Gp HPX.out)
              have YB := hid (YA.out.grw Gp HPY.out)
              have BB := hid (BA.out.trans (Gp.below zA fun q h => by have := (L5.out q h).1; omega))
              have zB := Nat.le_trans zA Gp.size
              clear hp PA XA YA BA Gp
              go_wp2_with (at_builtin; refine wpList_appF rfl _ _ _ rfl _ 8 Try.underlying23 infoI rfl XB.out (1 : Int) zB (by rfl) (by rfl) (by first | rfl | simp) rfl (in_one _) (by first | omega | (simp only [List.length_append, List.length_cons, List.length_nil, List.length_replicate]; omega)) (by first | omega | (simp only [List.length_append, List.length_cons, List.length_nil, List.length_replicate]; omega)) ?_; refine Stop.halt ?_)
              refine Stop.go ?_
              intro gx cx wx hx Gx
              have YC := hid (YB.out.grw Gx HXY.out)
              have BC := hid (BB.out.trans (Gx.below zB fun q h => by have := (L6.out q h).1; omega))
              have zC := Nat.le_trans zB Gx.size
              clear hx XB YB BB Gx
              go_wp2_with (at_builtin; refine wpList_appF rfl _ _ _ rfl _ 8 Try.underlying23 infoI rfl YC.out (1 : Int) zC (by rfl) (by rfl) (by first | rfl | simp) rfl (in_one _) (by first | omega | (simp only [List.length_append, List.length_cons, List.length_nil, List.length_replicate]; omega)) (by first | omega | (simp only [List.length_append, List.length_cons, List.length_nil, List.length_replicate]; omega)) ?_; refine Stop.halt ?_)
              refine Stop.go ?_
              intro gy cy wy hy Gy
              have BD := hid (BC.out.trans (Gy.below zC fun q h => by have := (L7.out q h).1; omega))
              have e1 : ((l3.length : Int) + 1 == 0) = false := by rw [beq_eq_false_iff_ne]; omega
              have e2 : ((X3.length : Int) + 1 == 0) = false := by rw [beq_eq_false_iff_ne]; omega
              have e3 : ((Y3.length : Int) + 1 == 0) = false := by rw [beq_eq_false_iff_ne]; omega
              clear hy YC BC Gy
              go_wp2_with fail
              go_roundw
              case rel => exact ⟨k + 1, by omega, by go_num, BD.out⟩
              case measure => simp [intOf]; omega
      · obtain rfl : k = 2 := by omega
        have hbq : ∀ q : Bool, (q == q) = true := fun q => by cases q <;> rfl
        clear hbq hlt hk
        go_wp2_with fail
        refine (rel_ahead R4.out z4 (by omega) c hc).mono ?_
        rintro e w5 ⟨v5, rfl, h5, b5⟩
        have X5 := hid h5.sl
        have K5 := Keep.of_below b5
        have B5 := hid (HB.out.trans (b5.mono z4))
        clear h5 b5 R4 V4 HB
        go_wp2_with fail
        refine (ref_ahead (v := .slice a2 m c2) (LP.ofN HLM.out (V2.out.below B5.out) B5.out.size) HSR.out (by omega) c).mono ?_
        rintro e w6 ⟨v6, rfl, h6, b6⟩
        have Y6 := hid h6
        have X6 := hid (Sl.up X5.out (Keep.of_below b6))
        have B6 := hid (B5.out.trans (b6.mono B5.out.size))
        clear h6 b6 K5 X5 B5
        go_wp2_with fail
        refine (same_ints (l := col L c) (LI.ofS X6.out) Y6.out).mono ?_
        rintro e w7 ⟨rfl, b7⟩
        have B7 := hid (B6.out.trans (b7.mono B6.out.size))
        clear b7 X6 Y6 B6
        go_wp2_with fail
        refine (rel_behind (R2.out.below B7.out (Nat.le_refl _)) (by omega) a ha).mono ?_
        rintro e w8 ⟨v8, rfl, h8, b8⟩
        have X8 := hid h8.sl
        have B8 := hid (B7.out.trans (b8.mono B7.out.size))
        clear h8 b8 B7
        go_wp2_with fail
        refine (ref_behind (v := .slice a2 m c2) (LP.ofN HLM.out (V2.out.below B8.out) B8.out.size) HSR.out (by omega) a).mono ?_
        rintro e w9 ⟨v9, rfl, h9, b9⟩
        have Y9 := hid h9
        have X9 := hid (Sl.up X8.out (Keep.of_below b9))
        have B9 := hid (B8.out.trans (b9.mono B8.out.size))
        clear h9 b9 X8 B8
        go_wp2_with fail
        refine (same_ints (l := row L a) (LI.ofS X9.out) Y9.out).mono ?_
        rintro e wA ⟨rfl, bA⟩
        have BA := hid (B9.out.trans (bA.mono B9.out.size))
        clear bA X9 Y9 B9
        go_wp2_with fail
        refine (rel_is (v := .slice a2 m c2) (R2.out.below BA.out (Nat.le_refl _)) BA.out.size (by omega) (LP.ofN HLM.out (V2.out.below BA.out) BA.out.size)).mono ?_
        rintro e wB ⟨rfl, bB⟩
        have BB := hid (B2.out.trans ((BA.out.trans (bB.mono BA.out.size)).mono hw2))
        clear bB BA
        go_wp2
        go_ret
        exact ⟨rfl, BB.out⟩
  · go_wp2
    go_ret
    exact ⟨rfl, B1.out⟩
end
end Go.Proofs.Ytlmeblhcipkgmaa
