/- What the document's graphs do: Topo. Conditions: those of each theorem, as typed. -/
import Derived.Test.YtlmeblhcipkgmaaGsA
import Derived.Test.YtlmeblhcipkgmaaGrT
namespace Go.Proofs.Ytlmeblhcipkgmaa
open Go.RowKit Go.Maps
set_option linter.unusedVariables false
set_option linter.unusedSimpArgs false
attribute [local irreducible] wpL

/-- As far as u edges have been looked at, x may stand next. -/
def okE (E : List Tr) (out : List Int) (x : Int) (u : Nat) : Bool := !decide (x ∈ out) && (E.take u).all fun e => !(e.2.1 == x && !decide (e.1 ∈ out))
theorem okE_zero (E : List Tr) (out : List Int) (x : Int) : okE E out x 0 = !decide (x ∈ out) := by simp [okE]
theorem okE_step {E : List Tr} {out : List Int} {x : Int} {u : Nat} {e : Tr} (h : E[u]? = some e) : okE E out x (u + 1) = (okE E out x u && !(e.2.1 == x && !decide (e.1 ∈ out))) := by
  unfold okE
  rw [List.take_add_one, h]
  simp [Bool.and_assoc]
theorem okE_all (E : List Tr) (out : List Int) (x : Int) : okE E out x E.length = okB (prs E) out x := by
  rw [Bool.eq_iff_iff, okB_iff]
  unfold okE
  rw [List.take_length]
  simp only [Bool.and_eq_true, Bool.not_eq_true', decide_eq_false_iff_not, List.all_eq_true, Bool.and_eq_false_iff]
  refine and_congr_right fun _ => ⟨fun h a ha => ?_, fun h e he => ?_⟩
  · obtain ⟨k, hk⟩ := mem_prs.1 ha
    have := h _ hk
    simpa using this
  · by_cases e1 : e.2.1 = x
    · refine .inr ?_
      have : e.1 ∈ out := h e.1 (mem_prs.2 ⟨e.2.2, by rw [← e1]; exact he⟩)
      simpa using this
    · exact .inl (by simpa using e1)
section
variable {w : World} {vn ve : Value} {N : List Int} {E : List Tr}
set_option maxRecDepth 100000 in
set_option maxHeartbeats 2000000 in
theorem rg_topo (h : RG w vn ve N E) (hN : N.length ≤ 900000) : Calls Try.prog 68 #[.agg #[vn, ve]] w fun e w' =>
    ∃ v o, e = .returned (.tuple #[v, .bool (o : Option (List Int)).isSome]) ∧ LI w' v (o.getD []) ∧ o = topoF (prs E) N ∧ Below w.heap.size w w' := by
  obtain ⟨an, cn, n, rfl, hn, hnm, h1⟩ := h.n.open
  obtain ⟨ae, ce, m, rfl, hm, hmm, h2⟩ := h.e.open
  have HN := hid hn
  have HM := hid hm
  have hn9 : n ≤ 900000 := by omega
  have B1 := hid ((Below.refl w.heap.size w).alloc (Nat.le_refl _) (.cells #[.slice an n cn, .slice ae m ce] 63))
  have R1 := hid (row_new w (.cells #[.slice an n cn, .slice ae m ce] 63))
  have S1 := hid (h1.alloc (Nat.le_refl _) (.cells #[.slice an n cn, .slice ae m ce] 63))
  have S2 := hid (h2.alloc (Nat.le_refl _) (.cells #[.slice an n cn, .slice ae m ce] 63))
  clear h h1 h2 hn hm hN
  go_enter Try.func68, Try.ntmps68
  go_wp2_with fail
  obtain ⟨w1, hw1⟩ : ∃ w1, w1 = w.alloc (.cells #[.slice an n cn, .slice ae m ce] 63) := ⟨_, rfl⟩
  have z1 : w.heap.size + 1 ≤ w1.heap.size := by rw [hw1, World.size_alloc]; exact Nat.le_refl _
  rw [← hw1] at B1 R1 S1 S2 ⊢
  have HF0 := hid (show topoF (prs E) N = topoGo (prs E) N (n - ([] : List Int).length) [] by rw [← HN.out]; rfl)
  clear hw1
  go_loopg [4] n (fun g v wr => ∃ out : List Int, out.length ≤ n ∧ n - out.length ≤ g ∧ OwnI wr w1.heap.size v out ∧ topoF (prs E) N = topoGo (prs E) N (n - out.length) out ∧ Below w1.heap.size w1 wr)
  case atStart => exact ⟨[], by simp, by simp, OwnF.nil _ _, HF0.out, Below.refl _ _⟩
  case round =>
    obtain ⟨out, hol, hgl, hO, hF, hB⟩ := hrel
    obtain ⟨ao, co, rfl, hom⟩ := hO.sl.ex
    have O2 := hid hO
    have HF := hid hF
    have B2 := hid hB
    have z2 := hB.size
    have d0 : wr.cell? ⟨w.heap.size, 0, none⟩ = some (.slice an n cn) := row_cell (row_below R1.out hB (by omega)) 0
    have d1 : wr.cell? ⟨w.heap.size, 1, none⟩ = some (.slice ae m ce) := row_cell (row_below R1.out hB (by omega)) 1
    clear hO hF hB
    generalize hq : out.length = q at *
    have HQ := hid hq
    clear hq
    by_cases hlt : q < n
    · go_wp2_with fail
      clear d0 d1
      obtain ⟨W2, rfl⟩ : ∃ W2, W2 = wr := ⟨_, rfl⟩
      go_loopw [4, 5, 6] (fun v f i wq => ∃ j : Nat, j ≤ n ∧ i = .int .i64 j ∧ Below w1.heap.size w1 wq ∧ ((f = .bool false ∧ v = .slice ao q co ∧ OwnI wq w1.heap.size v out ∧ ∀ x ∈ N.take j, okB (prs E) out x = false) ∨ (f = .bool true ∧ ∃ x, nextF (prs E) N out = some x ∧ OwnI wq w1.heap.size v (out ++ [x])))) (fun _ _ i _ => n - (intOf i).toNat)
      case atStart => exact ⟨0, by omega, by go_num, B2.out, .inl ⟨rfl, rfl, O2.out, fun x hx => by simp at hx⟩⟩
      case round =>
        obtain ⟨j, hj, rfl, hB, hor⟩ := hrel
        have B3 := hid hB
        have z3 := hB.size
        have d0 : wr.cell? ⟨w.heap.size, 0, none⟩ = some (.slice an n cn) := row_cell (row_below R1.out hB (by omega)) 0
        have d1 : wr.cell? ⟨w.heap.size, 1, none⟩ = some (.slice ae m ce) := row_cell (row_below R1.out hB (by omega)) 1
        clear hB
        rcases hor with ⟨rfl, rfl, hO, hno⟩ | ⟨rfl, x, hx, hO⟩
        · have O3 := hid hO
          have HNO := hid hno
          clear hO hno O2 B2
          by_cases hjn : j < n
          · obtain ⟨b, off, x, rfl, hb, hx, c1⟩ := (S1.out.below (B3.out.mono (by omega))).ints hjn HN.out
            have HX := hid hx
            clear hx
            have HZ0 := hid (okE_zero E out x)
            have HZA : Hid (okE E out x m = okB (prs E) out x) := hid (by rw [← HM.out]; exact okE_all E out x)
            have L3 := hid (show LI wr (.slice ao q co) out from LI.ofN HQ.out (by have := O3.out.sl; rw [HQ.out] at this; exact this) (Nat.le_refl _))
            go_wp2_with fail
            refine (rg_in L3.out x).mono ?_
            rintro e w4 ⟨rfl, rfl⟩
            clear c1
            generalize hbx : decide (x ∈ out) = bx at *
            go_wp2_with fail
            go_loop [8, 9] (fun f k => ∃ u : Nat, u ≤ m ∧ k = .int .i64 u ∧ f = .bool (okE E out x u)) (fun _ k => m - (intOf k).toNat)
            case atStart => exact ⟨0, by omega, by go_num, by rw [HZ0.out]⟩
            case round =>
              obtain ⟨u, hu, rfl, rfl⟩ := hrel
              by_cases hum : u < m
              · obtain ⟨b2, off2, t, rfl, hb2, ht, y1, y2, y3⟩ := (S2.out.below (B3.out.mono (by omega))).trs hum HM.out
                have HST := hid (okE_step (out := out) (x := x) ht)
                clear ht
                by_cases e1 : t.2.1 = x
                · have q1 : (t.2.1 == x) = true := by simpa using e1
                  by_cases e2 : t.1 ∈ out
                  · have q2 : decide (t.1 ∈ out) = true := by simpa using e2
                    have HK := hid (show okE E out x (u + 1) = okE E out x u by rw [HST.out, q1, q2]; simp)
                    clear e1 e2 HST
                    generalize okE E out x u = ok at *
                    go_wp2_with fail
                    refine (rg_in L3.out t.1).mono ?_
                    rintro e w5 ⟨rfl, rfl⟩
                    rw [q2]
                    go_wp2_with fail
                    go_round
                    case rel => exact ⟨u + 1, by omega, by go_num, by rw [HK.out]⟩
                    case measure => simp [intOf]; omega
                  · have q2 : decide (t.1 ∈ out) = false := by simpa using e2
                    have HK := hid (show okE E out x (u + 1) = false by rw [HST.out, q1, q2]; simp)
                    clear e1 e2 HST
                    generalize okE E out x u = ok at *
                    go_wp2_with fail
                    refine (rg_in L3.out t.1).mono ?_
                    rintro e w5 ⟨rfl, rfl⟩
                    rw [q2]
                    go_wp2_with fail
                    go_round
                    case rel => exact ⟨u + 1, by omega, by go_num, by rw [HK.out]⟩
                    case measure => simp [intOf]; omega
                · have q1 : (t.2.1 == x) = false := by simpa using e1
                  have HK := hid (show okE E out x (u + 1) = okE E out x u by rw [HST.out, q1]; simp)
                  clear e1 HST
                  generalize okE E out x u = ok at *
                  go_wp2_with fail
                  go_round
                  case rel => exact ⟨u + 1, by omega, by go_num, by rw [HK.out]⟩
                  case measure => simp [intOf]; omega
              · obtain rfl : u = m := by omega
                cases hok : okE E out x u with
                | true =>
                  have HOKB := hid (show okB (prs E) out x = true by rw [← HZA.out]; exact hok)
                  have HNX := hid (show nextF (prs E) N out = some x from find_at HX.out HOKB.out HNO.out)
                  have hout : out.length ≤ 900000 := by have := HQ.out; omega
                  obtain rfl : out.length = q := HQ.out
                  have O4 : Hid (OwnI wr w1.heap.size (.slice ao out.length co) out) := O3
                  clear hok HOKB HNO HZ0 HZA L3
                  go_wp2_with (at_builtin; refine wpList_appF rfl _ _ _ rfl _ 8 Try.underlying23 infoI rfl O4.out x z3 (by rfl) (by rfl) (by first | rfl | simp) rfl (in_one _) (by first | omega | (simp only [List.length_append, List.length_cons, List.length_nil, List.length_replicate]; omega)) (by first | omega | (simp only [List.length_append, List.length_cons, List.length_nil, List.length_replicate]; omega)) ?_; refine Stop.halt ?_)
                  refine Stop.go ?_
                  intro gn cn2 wn hn2 Gn
                  have O5 := hid hn2
                  have B5 := hid (B3.out.trans (Gn.below z3 fun q h => (O4.out.lt q h).1))
                  clear hn2 Gn d0 d1
                  go_wp2_with fail
                  go_roundw
                  case rel => exact ⟨j + 1, by omega, by go_num, B5.out, .inr ⟨rfl, x, HNX.out, by simpa using O5.out⟩⟩
                  case measure => simp [intOf]; omega
                | false =>
                  have HOKB := hid (show okB (prs E) out x = false by rw [← HZA.out]; exact hok)
                  clear hok HZ0 HZA L3
                  go_wp2_with fail
                  go_roundw
                  case rel => exact ⟨j + 1, by omega, by go_num, B3.out, .inl ⟨rfl, rfl, O3.out, fun y hy => by
                    rcases (mem_take_step HX.out).1 hy with h | rfl
                    · exact HNO.out y h
                    · exact HOKB.out⟩⟩
                  case measure => simp [intOf]; omega
          · obtain rfl : j = n := by omega
            have HNN := hid (show nextF (prs E) N out = none from find_none (fun y hy => HNO.out y (by rw [← HN.out, List.take_length]; exact hy)))
            have HFN := hid (show (none : Option (List Int)) = topoF (prs E) N by
              rw [HF.out, show j - q = (j - q - 1) + 1 by omega, topoGo_none HNN.out])
            go_wp2
            refine bodyPost_ret (v := .tuple #[.slice none 0 0, .bool false]) (by simp [results, Try.results68, go_sem]) rfl ⟨_, none, rfl, (OwnF.nil (f := intC) (e := 3) (sz := 1) wr 0).sl, HFN.out, B1.out.trans (B3.out.mono (by omega))⟩
        · have O3 := hid hO
          have HX := hid hx
          obtain ⟨a3, c3, rfl, hm3⟩ := hO.sl.ex
          have hl3 : (out ++ [x]).length = q + 1 := by rw [List.length_append, HQ.out]; rfl
          have HF2 := hid (show topoF (prs E) N = topoGo (prs E) N (n - (q + 1)) (out ++ [x]) by
            rw [HF.out, show n - q = (n - (q + 1)) + 1 by omega, topoGo_some HX.out])
          clear hO hx O2 B2
          by_cases hjn : j < n
          · go_wp2_with fail
            go_roundg (gk - 1)
            case measure => omega
            case rel => exact ⟨out ++ [x], by omega, by omega, O3.out, by rw [hl3]; exact HF2.out, B3.out⟩
          · go_wp2_with fail
            go_roundg (gk - 1)
            case measure => omega
            case rel => exact ⟨out ++ [x], by omega, by omega, O3.out, by rw [hl3]; exact HF2.out, B3.out⟩
    · obtain rfl : q = n := by omega
      have HF3 := hid (show some out = topoF (prs E) N by rw [HF.out, Nat.sub_self]; rfl)
      go_wp2
      refine bodyPost_ret (v := .tuple #[.slice ao q co, .bool true]) (by simp [results, Try.results68, go_sem]) rfl ⟨_, some out, rfl, by have := O2.out.sl; rw [HQ.out] at this; exact LI.ofN HQ.out this (Nat.le_refl _), HF3.out, B1.out.trans (B2.out.mono (by omega))⟩
end
end Go.Proofs.Ytlmeblhcipkgmaa
