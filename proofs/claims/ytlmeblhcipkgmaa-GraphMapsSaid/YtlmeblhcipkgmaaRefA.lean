/- The document's lists of pairs and of numbers: Has, PutInt, Put. Conditions: those of each theorem, as typed. -/
import Derived.Test.YtlmeblhcipkgmaaRelG
namespace Go.Proofs.Ytlmeblhcipkgmaa
open Go.RowKit Go.Maps

abbrev LI (w : World) (v : Value) (l : List Int) : Prop := Sl w w.heap.size 1 v l.length (l.flatMap intC)
abbrev LP (w : World) (v : Value) (l : List Pr) : Prop := Sl w w.heap.size 2 v l.length (l.flatMap pairC)

theorem LP.open {w : World} {v : Value} {l : List Pr} (h : LP w v l) : ∃ a c n, v = .slice a n c ∧ l.length = n ∧ n ≤ 9223372036854775807 ∧ Sl w w.heap.size 2 (.slice a n c) n (l.flatMap pairC) := by
  obtain ⟨a, c, rfl, hm⟩ := Sl.ex h
  exact ⟨a, c, _, rfl, rfl, hm, h⟩
theorem LI.open {w : World} {v : Value} {l : List Int} (h : LI w v l) : ∃ a c n, v = .slice a n c ∧ l.length = n ∧ n ≤ 9223372036854775807 ∧ Sl w w.heap.size 1 (.slice a n c) n (l.flatMap intC) := by
  obtain ⟨a, c, rfl, hm⟩ := Sl.ex h
  exact ⟨a, c, _, rfl, rfl, hm, h⟩

theorem LI.of {w : World} {v : Value} {l : List Int} {n : Nat} (h : Sl w w.heap.size 1 v n (l.flatMap intC)) (hn : l.length = n) : LI w v l := by subst hn; exact h
theorem LP.of {w : World} {v : Value} {l : List Pr} {n : Nat} (h : Sl w w.heap.size 2 v n (l.flatMap pairC)) (hn : l.length = n) : LP w v l := by subst hn; exact h

/-! ### one more, at its place -/
section
variable {α : Type}
def insAt (l : List α) (k : Nat) (m : α) : List α := l.take k ++ m :: l.drop k
theorem insAt_length {l : List α} {k : Nat} (m : α) (hk : k ≤ l.length) : (insAt l k m).length = l.length + 1 := by simp [insAt]; omega
theorem insAt_take {l : List α} {k i : Nat} (m : α) (hk : k ≤ l.length) (hi : i ≤ k) : (insAt l k m).take i = l.take i := by
  unfold insAt
  rw [List.take_append_of_le_length (by rw [List.length_take]; omega), List.take_take]
  congr 1
  omega
theorem insAt_mid {l : List α} {k : Nat} (m : α) (hk : k ≤ l.length) : (insAt l k m).take (k + 1) = l.take k ++ [m] := by
  rw [List.take_add_one, insAt_take m hk (Nat.le_refl _)]
  congr 1
  have h1 : (l.take k).length = k := by rw [List.length_take]; omega
  unfold insAt
  rw [List.getElem?_append_right (by omega), h1, Nat.sub_self]
  rfl
theorem insAt_get {l : List α} {k i : Nat} (m : α) (hk : k ≤ l.length) (hi : k ≤ i) : (insAt l k m)[i + 1]? = l[i]? := by
  have h1 : (l.take k).length = k := by rw [List.length_take]; omega
  unfold insAt
  rw [List.getElem?_append_right (by omega), h1, show i + 1 - k = (i - k) + 1 from by omega, List.getElem?_cons_succ, List.getElem?_drop]
  congr 1
  omega
theorem insAt_step {l : List α} {k i : Nat} {m x : α} (hk : k ≤ l.length) (hi : k ≤ i) (hx : l[i]? = some x) : (insAt l k m).take (i + 1 + 1) = (insAt l k m).take (i + 1) ++ [x] := by
  rw [List.take_add_one, insAt_get m hk hi, hx]
  rfl
theorem insAt_all {l : List α} {k : Nat} (m : α) (hk : k ≤ l.length) : (insAt l k m).take (l.length + 1) = insAt l k m := by
  rw [← insAt_length m hk]
  exact List.take_length
theorem take_step {l : List α} {i : Nat} {x : α} (hx : l[i]? = some x) : l.take (i + 1) = l.take i ++ [x] := by
  rw [List.take_add_one, hx]
  rfl
end
theorem insI_at (m : Int) : ∀ (l : List Int) (k : Nat), (∀ j x, j < k → l[j]? = some x → x < m) → (∀ x, l[k]? = some x → m < x) → k ≤ l.length → insI m l = insAt l k m
  | [], 0, _, _, _ => rfl
  | [], k + 1, _, _, h => by simp at h
  | y :: r, 0, _, h2, _ => by
    have := h2 y rfl
    simp only [insI, insAt, List.take_zero, List.drop_zero, List.nil_append]
    rw [if_neg (by omega), if_pos this]
  | y :: r, k + 1, h1, h2, h3 => by
    have h0 := h1 0 y (by omega) rfl
    have ih := insI_at m r k (fun j x hj hx => h1 (j + 1) x (by omega) (by simpa using hx)) (fun x hx => h2 x (by simpa using hx)) (by simpa using h3)
    simp only [insI]
    rw [if_neg (by omega), if_neg (by omega), ih]
    rfl
theorem insP_at (m : Pr) : ∀ (l : List Pr) (k : Nat), (∀ j x, j < k → l[j]? = some x → plt x m) → (∀ x, l[k]? = some x → plt m x) → k ≤ l.length → insP m l = insAt l k m
  | [], 0, _, _, _ => rfl
  | [], k + 1, _, _, h => by simp at h
  | y :: r, 0, _, h2, _ => by
    have h := h2 y rfl
    simp only [insP, insAt, List.take_zero, List.drop_zero, List.nil_append]
    rw [if_neg (fun e => by rw [e] at h; exact plt_irrefl _ h), if_pos h]
  | y :: r, k + 1, h1, h2, h3 => by
    have h0 := h1 0 y (by omega) rfl
    have ih := insP_at m r k (fun j x hj hx => h1 (j + 1) x (by omega) (by simpa using hx)) (fun x hx => h2 x (by simpa using hx)) (by simpa using h3)
    simp only [insP]
    rw [if_neg (fun e => by rw [e] at h0; exact plt_irrefl _ h0), if_neg (fun h => plt_irrefl _ (plt_trans h h0)), ih]
    rfl

section
variable {w : World} {v : Value}
theorem ref_has {L : List Pr} (h : LP w v L) (a c : Int) : Calls Try.prog 36 #[v, .int .i64 a, .int .i64 c] w fun e w' => e = .returned (.bool (decide ((a, c) ∈ L))) ∧ w = w' := by
  obtain ⟨al, cl, n, rfl, hn, hm, h⟩ := LP.open h
  have H := hid h
  have HN := hid hn
  clear h hn
  go_enter Try.func36, Try.ntmps36
  go_wp2
  go_loop [7] (fun i => ∃ k : Nat, k ≤ n ∧ i = .int .i64 k ∧ ∀ j x, j < k → L[j]? = some x → x ≠ (a, c)) (fun i => n - (intOf i).toNat)
  case atStart => exact ⟨0, by omega, by go_num, fun _ _ h => by omega⟩
  case round =>
    obtain ⟨k, hk, rfl, hr⟩ := hrel
    have HR := hid hr
    clear hr
    by_cases hlt : k < n
    · obtain ⟨b, off, x, rfl, hb, hx, c1, c2⟩ := H.out.pairs hlt HN.out
      have HX := hid hx
      clear hx
      by_cases e1 : x.1 = a
      · have t1 : (x.1 == a) = true := by simpa using e1
        by_cases e2 : x.2 = c
        · have t2 : (x.2 == c) = true := by simpa using e2
          have hin : Hid (decide ((a, c) ∈ L) = true) := hid (by rw [decide_eq_true_eq, ← e1, ← e2]; exact List.mem_of_getElem? HX.out)
          clear e1 e2
          go_wp2
          go_ret
          exact ⟨by rw [hin.out]; rfl, rfl⟩
        · have t2 : (x.2 == c) = false := by simpa using e2
          have hne : Hid (x ≠ (a, c)) := hid fun e => e2 (by rw [e])
          clear e1 e2
          go_wp2
          go_round
          case rel => exact ⟨k + 1, by omega, by go_num, fun j y hj hy => by
            by_cases e : j = k
            · subst e; rw [HX.out] at hy; cases hy; exact hne.out
            · exact HR.out j y (by omega) hy⟩
          case measure => simp [intOf]; omega
      · have t1 : (x.1 == a) = false := by simpa using e1
        have hne : Hid (x ≠ (a, c)) := hid fun e => e1 (by rw [e])
        clear e1
        go_wp2
        go_round
        case rel => exact ⟨k + 1, by omega, by go_num, fun j y hj hy => by
          by_cases e : j = k
          · subst e; rw [HX.out] at hy; cases hy; exact hne.out
          · exact HR.out j y (by omega) hy⟩
        case measure => simp [intOf]; omega
    · have hin : Hid (decide ((a, c) ∈ L) = false) := hid (by
        rw [decide_eq_false_iff_not]
        intro hm
        obtain ⟨j, hj, e⟩ := List.getElem_of_mem hm
        have hjn : j < n := by rw [← HN.out]; exact hj
        exact HR.out j _ (by omega) (List.getElem?_eq_getElem hj) e)
      go_wp2
      go_ret
      exact ⟨by rw [hin.out]; rfl, rfl⟩

set_option maxHeartbeats 1000000 in
theorem ref_putInt {l : List Int} (h : LI w v l) (hs : SrtI l) (hl : l.length ≤ 1000000) (m : Int) : Calls Try.prog 86 #[v, .int .i64 m] w fun e w' => ∃ v', e = .returned v' ∧ LI w' v' (insI m l) ∧ (v' = v ∨ OwnI w' w.heap.size v' (insI m l)) ∧ Below w.heap.size w w' := by
  obtain ⟨al, cl, n, rfl, hn, hm, h⟩ := LI.open h
  rw [hn] at hl
  have H := hid h
  have HN := hid hn
  have HS := hid hs
  clear h hn hs
  go_enter Try.func86, Try.ntmps86
  go_wp2
  go_loop [5] (fun i => ∃ k : Nat, k ≤ n ∧ i = .int .i64 k ∧ ∀ j x, j < k → l[j]? = some x → x < m) (fun i => n - (intOf i).toNat)
  case atStart => exact ⟨0, by omega, by go_num, fun _ _ h => by omega⟩
  case round =>
    obtain ⟨k, hk, rfl, hr⟩ := hrel
    have HR := hid hr
    clear hr
    rcases (show k = n ∨ k < n by omega) with hkn | hlt
    · have hge : n ≤ k := by omega
      have hins : Hid (insI m l = insAt l k m) := hid (insI_at m l k HR.out (fun x hx => by have := (List.getElem?_eq_some_iff.1 hx).1; have := HN.out; omega) (by rw [HN.out]; exact hk))
      clear hkn
      go_wp2_with fail
      go_loopw [6, 7] (fun v i wr => ∃ j : Nat, j ≤ k ∧ i = .int .i64 j ∧ OwnI wr w.heap.size v (l.take j) ∧ Below w.heap.size w wr) (fun _ i _ => k - (intOf i).toNat)
      case atStart => exact ⟨0, by omega, by go_num, by rw [List.take_zero]; exact OwnF.nil _ _, Below.refl _ _⟩
      case round =>
        obtain ⟨j, hj, rfl, hO, hB⟩ := hrel
        obtain ⟨ao, co, rfl, -⟩ := hO.sl.ex
        have hAl : (l.take j).length ≤ 1000000 := by rw [List.length_take]; omega
        generalize hA : l.take j = A at *
        have HA := hid hA
        have HO := hid hO
        have HB := hid hB
        have hz := hB.size
        clear hA hO hB
        by_cases hlj : j < k
        · have HJ : j < n := by omega
          obtain ⟨b2, off2, x2, e2, hb2, hx2, hc2⟩ := (H.out.below HB.out).ints HJ HN.out
          first | (subst e2) | (simp only [Option.some.injEq, Addr.mk.injEq, and_true] at e2; obtain ⟨rfl, rfl⟩ := e2)
          have HX2 := hid hx2
          clear hx2
          go_wp2_with (at_builtin; refine wpList_appF rfl _ _ _ rfl _ 8 Try.underlying23 infoI rfl HO.out x2 (by first | omega | (simp <;> omega)) (by rfl) (by rfl) (by first | rfl | simp) rfl (in_one _) (by first | omega | (simp only [List.length_append, List.length_cons, List.length_nil, List.length_replicate]; omega)) (by first | omega | (simp only [List.length_append, List.length_cons, List.length_nil, List.length_replicate]; omega)) ?_; refine Stop.halt ?_)
          refine Stop.go ?_
          intro gn cn wn hn Gn
          have HO3 := hid hn
          have HB3 := hid (HB.out.trans (Gn.below hz fun q h => (HO.out.lt q h).1))
          clear hn Gn hc2
          go_wp2_with fail
          go_roundw
          case rel => exact ⟨j + 1, by omega, by go_num, by rw [take_step HX2.out, HA.out]; exact HO3.out, HB3.out⟩
          case measure => simp [intOf]; omega
        · obtain rfl : j = k := by omega
          have HMid := hid (insAt_mid (l := l) (k := j) m (by have := HN.out; omega))
          rw [HA.out] at HMid
          go_wp2_with (at_builtin; refine wpList_appF rfl _ _ _ rfl _ 8 Try.underlying23 infoI rfl HO.out m (by first | omega | (simp <;> omega)) (by rfl) (by rfl) (by first | rfl | simp) rfl (in_one _) (by first | omega | (simp only [List.length_append, List.length_cons, List.length_nil, List.length_replicate]; omega)) (by first | omega | (simp only [List.length_append, List.length_cons, List.length_nil, List.length_replicate]; omega)) ?_; refine Stop.halt ?_)
          refine Stop.go ?_
          intro gn cn wn hn Gn
          have HB3 := hid (HB.out.trans (Gn.below hz fun q h => (HO.out.lt q h).1))
          rw [← HMid.out] at hn
          have HO3 := hid hn
          clear hn Gn HO HB
          go_wp2_with fail
          go_loopw [6, 8] (fun v i wr => ∃ q : Nat, j ≤ q ∧ q ≤ n ∧ i = .int .i64 q ∧ OwnI wr w.heap.size v ((insAt l j m).take (q + 1)) ∧ Below w.heap.size w wr) (fun _ i _ => n - (intOf i).toNat)
          case atStart => exact ⟨j, by omega, by omega, by go_num, HO3.out, HB3.out⟩
          case round =>
            obtain ⟨q, hq1, hq2, rfl, hO, hB⟩ := hrel
            obtain ⟨ao, co, rfl, -⟩ := hO.sl.ex
            have hAl2 : ((insAt l j m).take (q + 1)).length ≤ 1000001 := by rw [List.length_take]; omega
            generalize hA : (insAt l j m).take (q + 1) = A2 at *
            have HA2 := hid hA
            have HO := hid hO
            have HB := hid hB
            have hz := hB.size
            clear hA hO hB HO3 HB3
            by_cases hlq : q < n
            · exfalso; omega
            · obtain rfl : q = n := by omega
              have HE : Hid (A2 = insAt l j m) := hid (by rw [← HA2.out, ← HN.out]; exact insAt_all _ (by have := HN.out; omega))
              go_wp2
              go_ret
              rw [← HE.out] at hins
              refine ⟨_, rfl, by rw [hins.out]; exact HO.out.sl, .inr (by rw [hins.out]; exact HO.out), HB.out⟩
    · obtain ⟨b, off, x, rfl, -, hx, hc⟩ := H.out.ints hlt HN.out
      have HX := hid hx
      clear hx
      by_cases hxm : x < m
      · go_wp2_with fail
        go_round
        case rel => exact ⟨k + 1, by omega, by go_num, fun j y hj hy => by
          by_cases e : j = k
          · subst e; rw [HX.out] at hy; cases hy; exact hxm
          · exact HR.out j y (by omega) hy⟩
        case measure => simp [intOf]; omega
      · by_cases hxe : x = m
        · have t1 : (x == m) = true := by simpa using hxe
          have hins : Hid (insI m l = l) := hid (insI_of_mem HS.out (by rw [← hxe]; exact List.mem_of_getElem? HX.out))
          have hge : m ≤ x := by omega
          clear hxe hxm
          go_wp2
          go_ret
          refine ⟨_, rfl, ?_, .inl rfl, Below.refl _ _⟩
          rw [hins.out]
          exact LI.of H.out HN.out
        · have t1 : (x == m) = false := by simpa using hxe
          have hge : m ≤ x := by omega
          have hins : Hid (insI m l = insAt l k m) := hid (insI_at m l k HR.out (fun y hy => by rw [HX.out] at hy; cases hy; omega) (by have := HN.out; omega))
          clear hxe hxm
          go_wp2_with fail
          clear hc t1
          go_loopw [6, 7] (fun v i wr => ∃ j : Nat, j ≤ k ∧ i = .int .i64 j ∧ OwnI wr w.heap.size v (l.take j) ∧ Below w.heap.size w wr) (fun _ i _ => k - (intOf i).toNat)
          case atStart => exact ⟨0, by omega, by go_num, by rw [List.take_zero]; exact OwnF.nil _ _, Below.refl _ _⟩
          case round =>
            obtain ⟨j, hj, rfl, hO, hB⟩ := hrel
            obtain ⟨ao, co, rfl, -⟩ := hO.sl.ex
            have hAl : (l.take j).length ≤ 1000000 := by rw [List.length_take]; omega
            generalize hA : l.take j = A at *
            have HA := hid hA
            have HO := hid hO
            have HB := hid hB
            have hz := hB.size
            clear hA hO hB
            by_cases hlj : j < k
            · have HJ : j < n := by omega
              obtain ⟨b2, off2, x2, e2, hb2, hx2, hc2⟩ := (H.out.below HB.out).ints HJ HN.out
              first | (subst e2) | (simp only [Option.some.injEq, Addr.mk.injEq, and_true] at e2; obtain ⟨rfl, rfl⟩ := e2)
              have HX2 := hid hx2
              clear hx2
              go_wp2_with (at_builtin; refine wpList_appF rfl _ _ _ rfl _ 8 Try.underlying23 infoI rfl HO.out x2 (by first | omega | (simp <;> omega)) (by rfl) (by rfl) (by first | rfl | simp) rfl (in_one _) (by first | omega | (simp only [List.length_append, List.length_cons, List.length_nil, List.length_replicate]; omega)) (by first | omega | (simp only [List.length_append, List.length_cons, List.length_nil, List.length_replicate]; omega)) ?_; refine Stop.halt ?_)
              refine Stop.go ?_
              intro gn cn wn hn Gn
              have HO3 := hid hn
              have HB3 := hid (HB.out.trans (Gn.below hz fun q h => (HO.out.lt q h).1))
              clear hn Gn hc2
              go_wp2_with fail
              go_roundw
              case rel => exact ⟨j + 1, by omega, by go_num, by rw [take_step HX2.out, HA.out]; exact HO3.out, HB3.out⟩
              case measure => simp [intOf]; omega
            · obtain rfl : j = k := by omega
              have HMid := hid (insAt_mid (l := l) (k := j) m (by have := HN.out; omega))
              rw [HA.out] at HMid
              go_wp2_with (at_builtin; refine wpList_appF rfl _ _ _ rfl _ 8 Try.underlying23 infoI rfl HO.out m (by first | omega | (simp <;> omega)) (by rfl) (by rfl) (by first | rfl | simp) rfl (in_one _) (by first | omega | (simp only [List.length_append, List.length_cons, List.length_nil, List.length_replicate]; omega)) (by first | omega | (simp only [List.length_append, List.length_cons, List.length_nil, List.length_replicate]; omega)) ?_; refine Stop.halt ?_)
              refine Stop.go ?_
              intro gn cn wn hn Gn
              have HB3 := hid (HB.out.trans (Gn.below hz fun q h => (HO.out.lt q h).1))
              rw [← HMid.out] at hn
              have HO3 := hid hn
              clear hn Gn HO HB
              go_wp2_with fail
              go_loopw [6, 8] (fun v i wr => ∃ q : Nat, j ≤ q ∧ q ≤ n ∧ i = .int .i64 q ∧ OwnI wr w.heap.size v ((insAt l j m).take (q + 1)) ∧ Below w.heap.size w wr) (fun _ i _ => n - (intOf i).toNat)
              case atStart => exact ⟨j, by omega, by omega, by go_num, HO3.out, HB3.out⟩
              case round =>
                obtain ⟨q, hq1, hq2, rfl, hO, hB⟩ := hrel
                obtain ⟨ao, co, rfl, -⟩ := hO.sl.ex
                have hAl2 : ((insAt l j m).take (q + 1)).length ≤ 1000001 := by rw [List.length_take]; omega
                generalize hA : (insAt l j m).take (q + 1) = A2 at *
                have HA2 := hid hA
                have HO := hid hO
                have HB := hid hB
                have hz := hB.size
                clear hA hO hB HO3 HB3
                by_cases hlq : q < n
                · have HJ := hlq
                  obtain ⟨b2, off2, x2, e2, hb2, hx2, hc2⟩ := (H.out.below HB.out).ints HJ HN.out
                  first | (subst e2) | (simp only [Option.some.injEq, Addr.mk.injEq, and_true] at e2; obtain ⟨rfl, rfl⟩ := e2)
                  have HX2 := hid hx2
                  clear hx2
                  go_wp2_with (at_builtin; refine wpList_appF rfl _ _ _ rfl _ 8 Try.underlying23 infoI rfl HO.out x2 (by first | omega | (simp <;> omega)) (by rfl) (by rfl) (by first | rfl | simp) rfl (in_one _) (by first | omega | (simp only [List.length_append, List.length_cons, List.length_nil, List.length_replicate]; omega)) (by first | omega | (simp only [List.length_append, List.length_cons, List.length_nil, List.length_replicate]; omega)) ?_; refine Stop.halt ?_)
                  refine Stop.go ?_
                  intro gn cn wn hn Gn
                  have HO3 := hid hn
                  have HB3 := hid (HB.out.trans (Gn.below hz fun q h => (HO.out.lt q h).1))
                  clear hn Gn hc2
                  go_wp2_with fail
                  go_roundw
                  case rel => exact ⟨q + 1, by omega, by omega, by go_num, by rw [insAt_step (by have := HN.out; omega) hq1 HX2.out, HA2.out]; exact HO3.out, HB3.out⟩
                  case measure => simp [intOf]; omega
                · obtain rfl : q = n := by omega
                  have HE : Hid (A2 = insAt l j m) := hid (by rw [← HA2.out, ← HN.out]; exact insAt_all _ (by have := HN.out; omega))
                  go_wp2
                  go_ret
                  rw [← HE.out] at hins
                  refine ⟨_, rfl, by rw [hins.out]; exact HO.out.sl, .inr (by rw [hins.out]; exact HO.out), HB.out⟩

set_option maxHeartbeats 1000000 in
theorem ref_put {l : List Pr} (h : LP w v l) (hs : Srt l) (hl : l.length ≤ 1000000) (a c : Int) : Calls Try.prog 38 #[v, .int .i64 a, .int .i64 c] w fun e w' => ∃ v', e = .returned v' ∧ LP w' v' (insP (a, c) l) ∧ Below w.heap.size w w' := by
  have HL := hid h
  obtain ⟨al, cl, n, rfl, hn, hm, h⟩ := LP.open h
  rw [hn] at hl
  have H := hid h
  have HN := hid hn
  have HS := hid hs
  clear h hn hs
  go_enter Try.func38, Try.ntmps38
  go_wp2_with fail
  refine (ref_has HL.out a c).mono ?_
  rintro e w1 ⟨rfl, rfl⟩
  by_cases hin : (a, c) ∈ l
  · have hd : decide ((a, c) ∈ l) = true := by simpa using hin
    have hins : Hid (insP (a, c) l = l) := hid (insP_of_mem HS.out hin)
    rw [hd]
    clear hd hin
    go_wp2
    go_ret
    refine ⟨_, rfl, ?_, Below.refl _ _⟩
    rw [hins.out]
    exact LP.of H.out HN.out
  · have hd : decide ((a, c) ∈ l) = false := by simpa using hin
    have HNI := hid hin
    rw [hd]
    clear hd hin
    go_wp2_with fail
    go_loop [7] (fun i => ∃ k : Nat, k ≤ n ∧ i = .int .i64 k ∧ ∀ j x, j < k → l[j]? = some x → plt x (a, c)) (fun i => n - (intOf i).toNat)
    case atStart => exact ⟨0, by omega, by go_num, fun _ _ h => by omega⟩
    case round =>
      obtain ⟨k, hk, rfl, hr⟩ := hrel
      have HR := hid hr
      clear hr
      rcases (show k = n ∨ k < n by omega) with hkn | hlt
      · have hge : n ≤ k := by omega
        have hins : Hid (insP (a, c) l = insAt l k (a, c)) := hid (insP_at (a, c) l k HR.out (fun x hx => by have := (List.getElem?_eq_some_iff.1 hx).1; have := HN.out; omega) (by rw [HN.out]; exact hk))
        clear hkn
        go_wp2_with fail
        go_loopw [8, 9] (fun v i wr => ∃ j : Nat, j ≤ k ∧ i = .int .i64 j ∧ OwnD wr w.heap.size v (l.take j) ∧ Below w.heap.size w wr) (fun _ i _ => k - (intOf i).toNat)
        case atStart => exact ⟨0, by omega, by go_num, by rw [List.take_zero]; exact OwnF.nil _ _, Below.refl _ _⟩
        case round =>
          obtain ⟨j, hj, rfl, hO, hB⟩ := hrel
          obtain ⟨ao, co, rfl, -⟩ := hO.sl.ex
          have hAl : (l.take j).length ≤ 1000000 := by rw [List.length_take]; omega
          generalize hA : l.take j = A at *
          have HA := hid hA
          have HO := hid hO
          have HB := hid hB
          have hz := hB.size
          clear hA hO hB
          by_cases hlj : j < k
          · have HJ : j < n := by omega
            obtain ⟨b2, off2, x2, e2, hb2, hx2, hc2, hc3⟩ := (H.out.below HB.out).pairs HJ HN.out
            first | (subst e2) | (simp only [Option.some.injEq, Addr.mk.injEq, and_true] at e2; obtain ⟨rfl, rfl⟩ := e2)
            have HX2 := hid hx2
            clear hx2
            go_wp2_with (at_builtin; refine wpList_appF rfl _ _ _ rfl _ 16 Try.underlying26 infoD rfl HO.out x2 (by first | omega | (simp <;> omega)) (by rfl) (by rfl) (by first | rfl | simp) rfl (pr_one _) (by first | omega | (simp only [List.length_append, List.length_cons, List.length_nil, List.length_replicate]; omega)) (by first | omega | (simp only [List.length_append, List.length_cons, List.length_nil, List.length_replicate]; omega)) ?_; refine Stop.halt ?_)
            refine Stop.go ?_
            intro gn cn wn hn Gn
            have HO3 := hid hn
            have HB3 := hid (HB.out.trans (Gn.below hz fun q h => (HO.out.lt q h).1))
            clear hn Gn hc2 hc3
            go_wp2_with fail
            go_roundw
            case rel => exact ⟨j + 1, by omega, by go_num, by rw [take_step HX2.out, HA.out]; exact HO3.out, HB3.out⟩
            case measure => simp [intOf]; omega
          · obtain rfl : j = k := by omega
            have HMid := hid (insAt_mid (l := l) (k := j) (a, c) (by have := HN.out; omega))
            rw [HA.out] at HMid
            go_wp2_with (at_builtin; refine wpList_appF rfl _ _ _ rfl _ 16 Try.underlying26 infoD rfl HO.out (a, c) (by first | omega | (simp <;> omega)) (by rfl) (by rfl) (by first | rfl | simp) rfl (pr_one _) (by first | omega | (simp only [List.length_append, List.length_cons, List.length_nil, List.length_replicate]; omega)) (by first | omega | (simp only [List.length_append, List.length_cons, List.length_nil, List.length_replicate]; omega)) ?_; refine Stop.halt ?_)
            refine Stop.go ?_
            intro gn cn wn hn Gn
            have HB3 := hid (HB.out.trans (Gn.below hz fun q h => (HO.out.lt q h).1))
            rw [← HMid.out] at hn
            have HO3 := hid hn
            clear hn Gn HO HB
            go_wp2_with fail
            go_loopw [8, 10] (fun v i wr => ∃ q : Nat, j ≤ q ∧ q ≤ n ∧ i = .int .i64 q ∧ OwnD wr w.heap.size v ((insAt l j (a, c)).take (q + 1)) ∧ Below w.heap.size w wr) (fun _ i _ => n - (intOf i).toNat)
            case atStart => exact ⟨j, by omega, by omega, by go_num, HO3.out, HB3.out⟩
            case round =>
              obtain ⟨q, hq1, hq2, rfl, hO, hB⟩ := hrel
              obtain ⟨ao, co, rfl, -⟩ := hO.sl.ex
              have hAl2 : ((insAt l j (a, c)).take (q + 1)).length ≤ 1000001 := by rw [List.length_take]; omega
              generalize hA : (insAt l j (a, c)).take (q + 1) = A2 at *
              have HA2 := hid hA
              have HO := hid hO
              have HB := hid hB
              have hz := hB.size
              clear hA hO hB HO3 HB3
              by_cases hlq : q < n
              · exfalso; omega
              · obtain rfl : q = n := by omega
                have HE : Hid (A2 = insAt l j (a, c)) := hid (by rw [← HA2.out, ← HN.out]; exact insAt_all _ (by have := HN.out; omega))
                go_wp2
                go_ret
                rw [← HE.out] at hins
                exact ⟨_, rfl, by rw [hins.out]; exact HO.out.sl, HB.out⟩
      · obtain ⟨b, off, x, rfl, -, hx, hc, hc'⟩ := H.out.pairs hlt HN.out
        have HX := hid hx
        have hxne : Hid (x ≠ (a, c)) := hid fun e => HNI.out (by rw [← e]; exact List.mem_of_getElem? hx)
        clear hx
        rcases (show x.1 < a ∨ (a < x.1) ∨ (x.1 = a ∧ x.2 < c) ∨ (x.1 = a ∧ c ≤ x.2) by omega) with h1 | h1 | ⟨h1, h2⟩ | ⟨h1, h2⟩
        · have hp : Hid (plt x (a, c)) := hid (.inl h1)
          go_wp2_with fail
          go_round
          case rel => exact ⟨k + 1, by omega, by go_num, fun j y hj hy => by
            by_cases e : j = k
            · subst e; rw [HX.out] at hy; cases hy; exact hp.out
            · exact HR.out j y (by omega) hy⟩
          case measure => simp [intOf]; omega
        · have hp : Hid (plt (a, c) x) := hid (.inl h1)
          have t1 : (x.1 == a) = false := by rw [beq_eq_false_iff_ne]; omega
          have t2 : a ≤ x.1 := by omega
          have hins : Hid (insP (a, c) l = insAt l k (a, c)) := hid (insP_at (a, c) l k HR.out (fun y hy => by rw [HX.out] at hy; cases hy; exact hp.out) (by have := HN.out; omega))
          go_wp2_with fail
          clear hc hc' t1 t2
          go_loopw [8, 9] (fun v i wr => ∃ j : Nat, j ≤ k ∧ i = .int .i64 j ∧ OwnD wr w.heap.size v (l.take j) ∧ Below w.heap.size w wr) (fun _ i _ => k - (intOf i).toNat)
          case atStart => exact ⟨0, by omega, by go_num, by rw [List.take_zero]; exact OwnF.nil _ _, Below.refl _ _⟩
          case round =>
            obtain ⟨j, hj, rfl, hO, hB⟩ := hrel
            obtain ⟨ao, co, rfl, -⟩ := hO.sl.ex
            have hAl : (l.take j).length ≤ 1000000 := by rw [List.length_take]; omega
            generalize hA : l.take j = A at *
            have HA := hid hA
            have HO := hid hO
            have HB := hid hB
            have hz := hB.size
            clear hA hO hB
            by_cases hlj : j < k
            · have HJ : j < n := by omega
              obtain ⟨b2, off2, x2, e2, hb2, hx2, hc2, hc3⟩ := (H.out.below HB.out).pairs HJ HN.out
              first | (subst e2) | (simp only [Option.some.injEq, Addr.mk.injEq, and_true] at e2; obtain ⟨rfl, rfl⟩ := e2)
              have HX2 := hid hx2
              clear hx2
              go_wp2_with (at_builtin; refine wpList_appF rfl _ _ _ rfl _ 16 Try.underlying26 infoD rfl HO.out x2 (by first | omega | (simp <;> omega)) (by rfl) (by rfl) (by first | rfl | simp) rfl (pr_one _) (by first | omega | (simp only [List.length_append, List.length_cons, List.length_nil, List.length_replicate]; omega)) (by first | omega | (simp only [List.length_append, List.length_cons, List.length_nil, List.length_replicate]; omega)) ?_; refine Stop.halt ?_)
              refine Stop.go ?_
              intro gn cn wn hn Gn
              have HO3 := hid hn
              have HB3 := hid (HB.out.trans (Gn.below hz fun q h => (HO.out.lt q h).1))
              clear hn Gn hc2 hc3
              go_wp2_with fail
              go_roundw
              case rel => exact ⟨j + 1, by omega, by go_num, by rw [take_step HX2.out, HA.out]; exact HO3.out, HB3.out⟩
              case measure => simp [intOf]; omega
            · obtain rfl : j = k := by omega
              have HMid := hid (insAt_mid (l := l) (k := j) (a, c) (by have := HN.out; omega))
              rw [HA.out] at HMid
              go_wp2_with (at_builtin; refine wpList_appF rfl _ _ _ rfl _ 16 Try.underlying26 infoD rfl HO.out (a, c) (by first | omega | (simp <;> omega)) (by rfl) (by rfl) (by first | rfl | simp) rfl (pr_one _) (by first | omega | (simp only [List.length_append, List.length_cons, List.length_nil, List.length_replicate]; omega)) (by first | omega | (simp only [List.length_append, List.length_cons, List.length_nil, List.length_replicate]; omega)) ?_; refine Stop.halt ?_)
              refine Stop.go ?_
              intro gn cn wn hn Gn
              have HB3 := hid (HB.out.trans (Gn.below hz fun q h => (HO.out.lt q h).1))
              rw [← HMid.out] at hn
              have HO3 := hid hn
              clear hn Gn HO HB
              go_wp2_with fail
              go_loopw [8, 10] (fun v i wr => ∃ q : Nat, j ≤ q ∧ q ≤ n ∧ i = .int .i64 q ∧ OwnD wr w.heap.size v ((insAt l j (a, c)).take (q + 1)) ∧ Below w.heap.size w wr) (fun _ i _ => n - (intOf i).toNat)
              case atStart => exact ⟨j, by omega, by omega, by go_num, HO3.out, HB3.out⟩
              case round =>
                obtain ⟨q, hq1, hq2, rfl, hO, hB⟩ := hrel
                obtain ⟨ao, co, rfl, -⟩ := hO.sl.ex
                have hAl2 : ((insAt l j (a, c)).take (q + 1)).length ≤ 1000001 := by rw [List.length_take]; omega
                generalize hA : (insAt l j (a, c)).take (q + 1) = A2 at *
                have HA2 := hid hA
                have HO := hid hO
                have HB := hid hB
                have hz := hB.size
                clear hA hO hB HO3 HB3
                by_cases hlq : q < n
                · have HJ := hlq
                  obtain ⟨b2, off2, x2, e2, hb2, hx2, hc2, hc3⟩ := (H.out.below HB.out).pairs HJ HN.out
                  first | (subst e2) | (simp only [Option.some.injEq, Addr.mk.injEq, and_true] at e2; obtain ⟨rfl, rfl⟩ := e2)
                  have HX2 := hid hx2
                  clear hx2
                  go_wp2_with (at_builtin; refine wpList_appF rfl _ _ _ rfl _ 16 Try.underlying26 infoD rfl HO.out x2 (by first | omega | (simp <;> omega)) (by rfl) (by rfl) (by first | rfl | simp) rfl (pr_one _) (by first | omega | (simp only [List.length_append, List.length_cons, List.length_nil, List.length_replicate]; omega)) (by first | omega | (simp only [List.length_append, List.length_cons, List.length_nil, List.length_replicate]; omega)) ?_; refine Stop.halt ?_)
                  refine Stop.go ?_
                  intro gn cn wn hn Gn
                  have HO3 := hid hn
                  have HB3 := hid (HB.out.trans (Gn.below hz fun q h => (HO.out.lt q h).1))
                  clear hn Gn hc2 hc3
                  go_wp2_with fail
                  go_roundw
                  case rel => exact ⟨q + 1, by omega, by omega, by go_num, by rw [insAt_step (by have := HN.out; omega) hq1 HX2.out, HA2.out]; exact HO3.out, HB3.out⟩
                  case measure => simp [intOf]; omega
                · obtain rfl : q = n := by omega
                  have HE : Hid (A2 = insAt l j (a, c)) := hid (by rw [← HA2.out, ← HN.out]; exact insAt_all _ (by have := HN.out; omega))
                  go_wp2
                  go_ret
                  rw [← HE.out] at hins
                  exact ⟨_, rfl, by rw [hins.out]; exact HO.out.sl, HB.out⟩
        · have hp : Hid (plt x (a, c)) := hid (.inr ⟨h1, h2⟩)
          have t1 : (x.1 == a) = true := by rw [beq_iff_eq]; omega
          have t2 : a ≤ x.1 := by omega
          clear h1
          go_wp2_with fail
          go_round
          case rel => exact ⟨k + 1, by omega, by go_num, fun j y hj hy => by
            by_cases e : j = k
            · subst e; rw [HX.out] at hy; cases hy; exact hp.out
            · exact HR.out j y (by omega) hy⟩
          case measure => simp [intOf]; omega
        · have hp : Hid (plt (a, c) x) := hid (by
            rcases plt_total hxne.out with h3 | h3
            · unfold plt at h3; simp only at h3; omega
            · exact h3)
          have t1 : (x.1 == a) = true := by rw [beq_iff_eq]; omega
          have t2 : a ≤ x.1 := by omega
          have hins : Hid (insP (a, c) l = insAt l k (a, c)) := hid (insP_at (a, c) l k HR.out (fun y hy => by rw [HX.out] at hy; cases hy; exact hp.out) (by have := HN.out; omega))
          clear h1
          go_wp2_with fail
          clear hc hc' t1 t2
          go_loopw [8, 9] (fun v i wr => ∃ j : Nat, j ≤ k ∧ i = .int .i64 j ∧ OwnD wr w.heap.size v (l.take j) ∧ Below w.heap.size w wr) (fun _ i _ => k - (intOf i).toNat)
          case atStart => exact ⟨0, by omega, by go_num, by rw [List.take_zero]; exact OwnF.nil _ _, Below.refl _ _⟩
          case round =>
            obtain ⟨j, hj, rfl, hO, hB⟩ := hrel
            obtain ⟨ao, co, rfl, -⟩ := hO.sl.ex
            have hAl : (l.take j).length ≤ 1000000 := by rw [List.length_take]; omega
            generalize hA : l.take j = A at *
            have HA := hid hA
            have HO := hid hO
            have HB := hid hB
            have hz := hB.size
            clear hA hO hB
            by_cases hlj : j < k
            · have HJ : j < n := by omega
              obtain ⟨b2, off2, x2, e2, hb2, hx2, hc2, hc3⟩ := (H.out.below HB.out).pairs HJ HN.out
              first | (subst e2) | (simp only [Option.some.injEq, Addr.mk.injEq, and_true] at e2; obtain ⟨rfl, rfl⟩ := e2)
              have HX2 := hid hx2
              clear hx2
              go_wp2_with (at_builtin; refine wpList_appF rfl _ _ _ rfl _ 16 Try.underlying26 infoD rfl HO.out x2 (by first | omega | (simp <;> omega)) (by rfl) (by rfl) (by first | rfl | simp) rfl (pr_one _) (by first | omega | (simp only [List.length_append, List.length_cons, List.length_nil, List.length_replicate]; omega)) (by first | omega | (simp only [List.length_append, List.length_cons, List.length_nil, List.length_replicate]; omega)) ?_; refine Stop.halt ?_)
              refine Stop.go ?_
              intro gn cn wn hn Gn
              have HO3 := hid hn
              have HB3 := hid (HB.out.trans (Gn.below hz fun q h => (HO.out.lt q h).1))
              clear hn Gn hc2 hc3
              go_wp2_with fail
              go_roundw
              case rel => exact ⟨j + 1, by omega, by go_num, by rw [take_step HX2.out, HA.out]; exact HO3.out, HB3.out⟩
              case measure => simp [intOf]; omega
            · obtain rfl : j = k := by omega
              have HMid := hid (insAt_mid (l := l) (k := j) (a, c) (by have := HN.out; omega))
              rw [HA.out] at HMid
              go_wp2_with (at_builtin; refine wpList_appF rfl _ _ _ rfl _ 16 Try.underlying26 infoD rfl HO.out (a, c) (by first | omega | (simp <;> omega)) (by rfl) (by rfl) (by first | rfl | simp) rfl (pr_one _) (by first | omega | (simp only [List.length_append, List.length_cons, List.length_nil, List.length_replicate]; omega)) (by first | omega | (simp only [List.length_append, List.length_cons, List.length_nil, List.length_replicate]; omega)) ?_; refine Stop.halt ?_)
              refine Stop.go ?_
              intro gn cn wn hn Gn
              have HB3 := hid (HB.out.trans (Gn.below hz fun q h => (HO.out.lt q h).1))
              rw [← HMid.out] at hn
              have HO3 := hid hn
              clear hn Gn HO HB
              go_wp2_with fail
              go_loopw [8, 10] (fun v i wr => ∃ q : Nat, j ≤ q ∧ q ≤ n ∧ i = .int .i64 q ∧ OwnD wr w.heap.size v ((insAt l j (a, c)).take (q + 1)) ∧ Below w.heap.size w wr) (fun _ i _ => n - (intOf i).toNat)
              case atStart => exact ⟨j, by omega, by omega, by go_num, HO3.out, HB3.out⟩
              case round =>
                obtain ⟨q, hq1, hq2, rfl, hO, hB⟩ := hrel
                obtain ⟨ao, co, rfl, -⟩ := hO.sl.ex
                have hAl2 : ((insAt l j (a, c)).take (q + 1)).length ≤ 1000001 := by rw [List.length_take]; omega
                generalize hA : (insAt l j (a, c)).take (q + 1) = A2 at *
                have HA2 := hid hA
                have HO := hid hO
                have HB := hid hB
                have hz := hB.size
                clear hA hO hB HO3 HB3
                by_cases hlq : q < n
                · have HJ := hlq
                  obtain ⟨b2, off2, x2, e2, hb2, hx2, hc2, hc3⟩ := (H.out.below HB.out).pairs HJ HN.out
                  first | (subst e2) | (simp only [Option.some.injEq, Addr.mk.injEq, and_true] at e2; obtain ⟨rfl, rfl⟩ := e2)
                  have HX2 := hid hx2
                  clear hx2
                  go_wp2_with (at_builtin; refine wpList_appF rfl _ _ _ rfl _ 16 Try.underlying26 infoD rfl HO.out x2 (by first | omega | (simp <;> omega)) (by rfl) (by rfl) (by first | rfl | simp) rfl (pr_one _) (by first | omega | (simp only [List.length_append, List.length_cons, List.length_nil, List.length_replicate]; omega)) (by first | omega | (simp only [List.length_append, List.length_cons, List.length_nil, List.length_replicate]; omega)) ?_; refine Stop.halt ?_)
                  refine Stop.go ?_
                  intro gn cn wn hn Gn
                  have HO3 := hid hn
                  have HB3 := hid (HB.out.trans (Gn.below hz fun q h => (HO.out.lt q h).1))
                  clear hn Gn hc2 hc3
                  go_wp2_with fail
                  go_roundw
                  case rel => exact ⟨q + 1, by omega, by omega, by go_num, by rw [insAt_step (by have := HN.out; omega) hq1 HX2.out, HA2.out]; exact HO3.out, HB3.out⟩
                  case measure => simp [intOf]; omega
                · obtain rfl : q = n := by omega
                  have HE : Hid (A2 = insAt l j (a, c)) := hid (by rw [← HA2.out, ← HN.out]; exact insAt_all _ (by have := HN.out; omega))
                  go_wp2
                  go_ret
                  rw [← HE.out] at hins
                  exact ⟨_, rfl, by rw [hins.out]; exact HO.out.sl, HB.out⟩
end
end Go.Proofs.Ytlmeblhcipkgmaa
