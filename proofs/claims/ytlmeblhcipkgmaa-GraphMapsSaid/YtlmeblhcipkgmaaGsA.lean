/- What the document's graphs do: Has, HasNode, Node, less. Conditions: those of each theorem, as typed. -/
import Derived.Test.YtlmeblhcipkgmaaGrY
import Derived.Test.YtlmeblhcipkgmaaRefE
namespace Go.Proofs.Ytlmeblhcipkgmaa
open Go.RowKit Go.Maps
set_option linter.unusedVariables false

abbrev LT (w : World) (v : Value) (l : List Tr) : Prop := Sl w w.heap.size 3 v l.length (l.flatMap trC)
theorem LT.open {w : World} {v : Value} {l : List Tr} (h : LT w v l) : ∃ a c n, v = .slice a n c ∧ l.length = n ∧ n ≤ 9223372036854775807 ∧ Sl w w.heap.size 3 (.slice a n c) n (l.flatMap trC) := by
  obtain ⟨a, c, rfl, hm⟩ := Sl.ex h
  exact ⟨a, c, _, rfl, rfl, hm, h⟩
theorem LT.ofN {w : World} {v : Value} {l : List Tr} {n : Nat} (hn : l.length = n) {B : Nat} (h : Sl w B 3 v n (l.flatMap trC)) (hB : B ≤ w.heap.size) : LT w v l := by subst hn; exact h.more hB
theorem LI.ofN {w : World} {v : Value} {l : List Int} {n : Nat} (hn : l.length = n) {B : Nat} (h : Sl w B 1 v n (l.flatMap intC)) (hB : B ≤ w.heap.size) : LI w v l := by subst hn; exact h.more hB
theorem infoH : (Try.prog.info? 87).map (fun i => (i.zero, i.size, i.bytes)) = some (some (.agg #[.int .i64 0, .int .i64 0, .int .i64 0]), 3, 24) := by kernel_rfl
/-- A graph of the document's: its nodes and its edges, as they lie in memory. -/
structure RG (w : World) (vn ve : Value) (N : List Int) (E : List Tr) : Prop where
  n : LI w vn N
  e : LT w ve E
theorem RG.keep {w w' : World} {vn ve : Value} {N : List Int} {E : List Tr} (h : RG w vn ve N E) (hk : Keep w w') : RG w' vn ve N E := ⟨Sl.up h.n hk, Sl.up h.e hk⟩
theorem RG.below {w w' : World} {vn ve : Value} {N : List Int} {E : List Tr} (h : RG w vn ve N E) (hb : Below w.heap.size w w') : RG w' vn ve N E := h.keep (Keep.of_below hb)
theorem RG.nil (w : World) : RG w (.slice none 0 0) (.slice none 0 0) [] [] := ⟨(OwnF.nil (f := intC) (e := 3) (sz := 1) w 0).sl, (OwnF.nil (f := trC) (e := 3) (sz := 3) w 0).sl⟩
section
variable {w : World} {vn ve : Value} {N : List Int} {E : List Tr}
theorem rg_has (h : LT w ve E) (a c k : Int) : Calls Try.prog 56 #[.agg #[vn, ve], .int .i64 a, .int .i64 c, .int .i64 k] w fun e w' => e = .returned (.bool (decide ((a, c, k) ∈ E))) ∧ Below w.heap.size w w' := by
  obtain ⟨al, cl, n, rfl, hn, hm, h⟩ := h.open
  have H := hid (h.alloc (Nat.le_refl _) (.cells #[vn, .slice al n cl] 63))
  have HN := hid hn
  have B1 := hid ((Below.refl w.heap.size w).alloc (Nat.le_refl _) (.cells #[vn, .slice al n cl] 63))
  clear h hn
  go_enter Try.func56, Try.ntmps56
  go_wp2_with fail
  go_loop [9] (fun i => ∃ j : Nat, j ≤ n ∧ i = .int .i64 j ∧ ∀ x ∈ E.take j, x ≠ (a, c, k)) (fun i => n - (intOf i).toNat)
  case atStart => exact ⟨0, by omega, by go_num, fun x hx => by simp at hx⟩
  case round =>
    obtain ⟨j, hj, rfl, hM⟩ := hrel
    have HM := hid hM
    clear hM
    by_cases hlt : j < n
    · obtain ⟨b, off, x, rfl, hb, hx, c1, c2, c3⟩ := H.out.trs hlt HN.out
      have HX := hid hx
      obtain ⟨x1, x2, x3⟩ := x
      simp only at c1 c2 c3
      by_cases e : (x1, x2, x3) = (a, c, k)
      · simp only [Prod.mk.injEq] at e
        obtain ⟨rfl, rfl, rfl⟩ := e
        have hE := hid (show decide ((x1, x2, x3) ∈ E) = true by simpa using List.mem_of_getElem? hx)
        have e1 : (x1 == x1) = true := by simp
        have e2 : (x2 == x2) = true := by simp
        have e3 : (x3 == x3) = true := by simp
        clear hx
        go_wp2
        go_ret
        exact ⟨by rw [hE.out]; rfl, B1.out⟩
      · have HE := hid e
        have hrel : ∀ y ∈ E.take (j + 1), y ≠ (a, c, k) := fun y hy => by
          rcases (mem_take_step HX.out).1 hy with h | rfl
          · exact HM.out y h
          · exact HE.out
        have HR := hid hrel
        clear hx hrel
        by_cases f1 : x1 = a
        · have e1 : (x1 == a) = true := by simpa using f1
          by_cases f2 : x2 = c
          · have e2 : (x2 == c) = true := by simpa using f2
            have e3 : (x3 == k) = false := by
              rw [beq_eq_false_iff_ne]
              rintro rfl
              exact e (by rw [f1, f2])
            clear e f1 f2
            go_wp2_with fail
            go_round
            case rel => exact ⟨j + 1, by omega, by go_num, HR.out⟩
            case measure => simp [intOf]; omega
          · have e2 : (x2 == c) = false := by simpa using f2
            clear e f1 f2
            go_wp2_with fail
            go_round
            case rel => exact ⟨j + 1, by omega, by go_num, HR.out⟩
            case measure => simp [intOf]; omega
        · have e1 : (x1 == a) = false := by simpa using f1
          clear e f1
          go_wp2_with fail
          go_round
          case rel => exact ⟨j + 1, by omega, by go_num, HR.out⟩
          case measure => simp [intOf]; omega
    · obtain rfl : j = n := by omega
      have hE := hid (show decide ((a, c, k) ∈ E) = false by
        rw [decide_eq_false_iff_not]
        intro hm
        exact HM.out _ (by rw [← HN.out, List.take_length]; exact hm) rfl)
      go_wp2
      go_ret
      exact ⟨by rw [hE.out]; rfl, B1.out⟩

theorem rg_hasNode (h : LI w vn N) (a : Int) : Calls Try.prog 60 #[.agg #[vn, ve], .int .i64 a] w fun e w' => e = .returned (.bool (decide (a ∈ N))) ∧ Below w.heap.size w w' := by
  obtain ⟨al, cl, n, rfl, hn, hm, h⟩ := h.open
  have H := hid (h.alloc (Nat.le_refl _) (.cells #[.slice al n cl, ve] 63))
  have HN := hid hn
  have B1 := hid ((Below.refl w.heap.size w).alloc (Nat.le_refl _) (.cells #[.slice al n cl, ve] 63))
  clear h hn
  go_enter Try.func60, Try.ntmps60
  go_wp2_with fail
  go_loop [5] (fun i => ∃ j : Nat, j ≤ n ∧ i = .int .i64 j ∧ ∀ x ∈ N.take j, x ≠ a) (fun i => n - (intOf i).toNat)
  case atStart => exact ⟨0, by omega, by go_num, fun x hx => by simp at hx⟩
  case round =>
    obtain ⟨j, hj, rfl, hM⟩ := hrel
    have HM := hid hM
    clear hM
    by_cases hlt : j < n
    · obtain ⟨b, off, x, rfl, hb, hx, c1⟩ := H.out.ints hlt HN.out
      have HX := hid hx
      by_cases e : x = a
      · have e1 : (x == a) = true := by simpa using e
        have hE := hid (show decide (a ∈ N) = true by rw [← e]; simpa using List.mem_of_getElem? hx)
        clear hx e
        go_wp2
        go_ret
        exact ⟨by rw [hE.out]; rfl, B1.out⟩
      · have e1 : (x == a) = false := by simpa using e
        have HE := hid e
        clear hx e
        go_wp2_with fail
        go_round
        case rel => exact ⟨j + 1, by omega, by go_num, fun y hy => by
          rcases (mem_take_step HX.out).1 hy with h | rfl
          · exact HM.out y h
          · exact HE.out⟩
        case measure => simp [intOf]; omega
    · obtain rfl : j = n := by omega
      have hE := hid (show decide (a ∈ N) = false by
        rw [decide_eq_false_iff_not]
        intro hm
        exact HM.out _ (by rw [← HN.out, List.take_length]; exact hm) rfl)
      go_wp2
      go_ret
      exact ⟨by rw [hE.out]; rfl, B1.out⟩

theorem rg_in {v : Value} {l : List Int} (h : LI w v l) (a : Int) : Calls Try.prog 99 #[v, .int .i64 a] w fun e w' => e = .returned (.bool (decide (a ∈ l))) ∧ w = w' := by
  obtain ⟨al, cl, n, rfl, hn, hm, h⟩ := h.open
  have H := hid h
  have HN := hid hn
  clear h hn
  go_enter Try.func99, Try.ntmps99
  go_wp2_with fail
  go_loop [5] (fun i => ∃ j : Nat, j ≤ n ∧ i = .int .i64 j ∧ ∀ x ∈ l.take j, x ≠ a) (fun i => n - (intOf i).toNat)
  case atStart => exact ⟨0, by omega, by go_num, fun x hx => by simp at hx⟩
  case round =>
    obtain ⟨j, hj, rfl, hM⟩ := hrel
    have HM := hid hM
    clear hM
    by_cases hlt : j < n
    · obtain ⟨b, off, x, rfl, hb, hx, c1⟩ := H.out.ints hlt HN.out
      have HX := hid hx
      by_cases e : x = a
      · have e1 : (x == a) = true := by simpa using e
        have hE := hid (show decide (a ∈ l) = true by rw [← e]; simpa using List.mem_of_getElem? hx)
        clear hx e
        go_wp2
        go_ret
        exact ⟨by rw [hE.out]; rfl, rfl⟩
      · have e1 : (x == a) = false := by simpa using e
        have HE := hid e
        clear hx e
        go_wp2_with fail
        go_round
        case rel => exact ⟨j + 1, by omega, by go_num, fun y hy => by
          rcases (mem_take_step HX.out).1 hy with h | rfl
          · exact HM.out y h
          · exact HE.out⟩
        case measure => simp [intOf]; omega
    · obtain rfl : j = n := by omega
      have hE := hid (show decide (a ∈ l) = false by
        rw [decide_eq_false_iff_not]
        intro hm
        exact HM.out _ (by rw [← HN.out, List.take_length]; exact hm) rfl)
      go_wp2
      go_ret
      exact ⟨by rw [hE.out]; rfl, rfl⟩

theorem rg_less (x y : Tr) (w : World) : Calls Try.prog 95 #[.agg #[.int .i64 x.1, .int .i64 x.2.1, .int .i64 x.2.2], .agg #[.int .i64 y.1, .int .i64 y.2.1, .int .i64 y.2.2]] w fun e w' => e = .returned (.bool (decide (tlt x y))) ∧ Below w.heap.size w w' := by
  obtain ⟨x1, x2, x3⟩ := x
  obtain ⟨y1, y2, y3⟩ := y
  have B1 := hid (((Below.refl w.heap.size w).alloc (Nat.le_refl _) (.cells #[.int .i64 x1, .int .i64 x2, .int .i64 x3] 87)).alloc (by simp) (.cells #[.int .i64 y1, .int .i64 y2, .int .i64 y3] 87))
  by_cases f1 : x1 = y1
  · have e1 : (x1 != y1) = false := by simpa using f1
    by_cases f2 : x2 = y2
    · have e2 : (x2 != y2) = false := by simpa using f2
      have hT := hid (show decide (x3 < y3) = decide (tlt (x1, x2, x3) (y1, y2, y3)) by unfold tlt; simp [f1, f2])
      clear f1 f2
      go_enter Try.func95, Try.ntmps95
      go_wp2
      go_ret
      exact ⟨by rw [← hT.out]; rfl, B1.out⟩
    · have e2 : (x2 != y2) = true := by simpa using f2
      have hT := hid (show decide (x2 < y2) = decide (tlt (x1, x2, x3) (y1, y2, y3)) by unfold tlt; simp [f1, f2])
      clear f1 f2
      go_enter Try.func95, Try.ntmps95
      go_wp2
      go_ret
      exact ⟨by rw [← hT.out]; rfl, B1.out⟩
  · have e1 : (x1 != y1) = true := by simpa using f1
    have hT := hid (show decide (x1 < y1) = decide (tlt (x1, x2, x3) (y1, y2, y3)) by unfold tlt; simp [f1])
    clear f1
    go_enter Try.func95, Try.ntmps95
    go_wp2
    go_ret
    exact ⟨by rw [← hT.out]; rfl, B1.out⟩

theorem rg_node (h : RG w vn ve N E) (hs : SrtI N) (hN : N.length ≤ 1000000) (a : Int) : Calls Try.prog 62 #[.agg #[vn, ve], .int .i64 a] w fun e w' => ∃ vn', e = .returned (.agg #[vn', ve]) ∧ RG w' vn' ve (insI a N) E ∧ Below w.heap.size w w' := by
  have H := hid h
  obtain ⟨al, cl, n, rfl, hn, hm, -⟩ := h.n.open
  obtain ⟨ae, ce, m, rfl, hm2, hmm, -⟩ := h.e.open
  clear h hn hm2
  go_enter Try.func62, Try.ntmps62
  go_wp2_with fail
  have B1 := hid (((Below.refl w.heap.size w).alloc (Nat.le_refl _) (.cells #[.slice al n cl, .slice ae m ce] 63)).alloc (by simp) (.cells #[.slice none 0 0, .slice none 0 0] 63))
  refine (ref_putInt (v := .slice al n cl) (H.out.below B1.out).n hs hN a).mono ?_
  rintro e w1 ⟨v', rfl, h1, ho, b1⟩
  have r1 : w1.heap[w.heap.size]? = _ := row_below (row_old (o := .cells #[.slice none 0 0, .slice none 0 0] 63) (row_new w (.cells #[.slice al n cl, .slice ae m ce] 63))) b1 (by simp; omega)
  have r2 : w1.heap[w.heap.size + 1]? = _ := row_below (row_new' (w := w.alloc (.cells #[.slice al n cl, .slice ae m ce] 63)) (o := .cells #[.slice none 0 0, .slice none 0 0] 63) (by simp)) b1 (by simp)
  have c0 : w1.cell? ⟨w.heap.size, 0, none⟩ = some (.slice al n cl) := row_cell r1 0
  have c1 : w1.cell? ⟨w.heap.size, 1, none⟩ = some (.slice ae m ce) := row_cell r1 1
  have d0 : w1.cell? ⟨w.heap.size + 1, 0, none⟩ = some (.slice none 0 0) := row_cell r2 0
  have d1 : w1.cell? ⟨w.heap.size + 1, 1, none⟩ = some (.slice none 0 0) := row_cell r2 1
  have f0 : ∀ j, w1.frozen? ⟨w.heap.size, j, none⟩ = false := fun j => row_free r1 j
  have f1 : ∀ j, w1.frozen? ⟨w.heap.size + 1, j, none⟩ = false := fun j => row_free r2 j
  have hz : w.heap.size + 2 ≤ w1.heap.size := by have := b1.size; simpa using this
  obtain ⟨a', c', hv', hm'⟩ := Sl.ex h1
  subst hv'
  have HO := hid ho
  have B2 := hid (B1.out.trans (b1.mono (by simp; omega)))
  have R1 := hid r1
  have R2 := hid r2
  clear h1 b1 r1 r2 ho
  go_wp2
  have q2 := row_set (row_set (row_other R2.out (g' := w.heap.size) (j := 0) (v := .slice a' (insI a N).length c') (by omega)) 0 (.slice a' (insI a N).length c')) 1 (.slice ae m ce)
  have BF := hid (((B2.out.setCell (p := ⟨w.heap.size, 0, none⟩) (by show _ ≤ w.heap.size; omega) (.slice a' (insI a N).length c')).setCell (p := ⟨w.heap.size + 1, 0, none⟩) (by show _ ≤ w.heap.size + 1; omega) (.slice a' (insI a N).length c')).setCell (p := ⟨w.heap.size + 1, 1, none⟩) (by show _ ≤ w.heap.size + 1; omega) (.slice ae m ce))
  have NF : LI (((w1.setCell ⟨w.heap.size, 0, none⟩ (.slice a' (insI a N).length c')).setCell ⟨w.heap.size + 1, 0, none⟩ (.slice a' (insI a N).length c')).setCell ⟨w.heap.size + 1, 1, none⟩ (.slice ae m ce)) (.slice a' (insI a N).length c') (insI a N) := by
    rcases HO.out with he | ho
    · have hln := H.out.n.ex
      obtain ⟨_, _, e2, -⟩ := hln
      rw [he] at BF ⊢
      simp only [Value.slice.injEq] at he e2
      have ha : a ∈ N := Classical.byContradiction fun hn => by
        have := length_insI_new hn
        omega
      rw [insI_of_mem hs ha]
      exact (H.out.n.below BF.out).more BF.out.size
    · have hne : ∀ g, g < w.heap.size + 2 → (Value.slice a' (insI a N).length c').ownBlock ≠ some g := fun g hg e => by
        have := (ho.lt g e).1
        simp only [World.size_alloc] at this
        omega
      exact (((ho.other (hne _ (by omega)) _).other (hne _ (by omega)) _).other (hne _ (by omega)) _).sl
  have EF := hid ((H.out.e.below BF.out).more BF.out.size)
  have NF2 := hid NF
  have cc0 := row_cell q2 0
  have cc1 := row_cell q2 1
  clear NF q2 HO
  generalize ((w1.setCell ⟨w.heap.size, 0, none⟩ (.slice a' (insI a N).length c')).setCell ⟨w.heap.size + 1, 0, none⟩ (.slice a' (insI a N).length c')).setCell ⟨w.heap.size + 1, 1, none⟩ (.slice ae m ce) = W at *
  simp at cc0 cc1
  refine bodyPost_ret (v := .agg #[.slice a' (insI a N).length c', .slice ae m ce]) (by simp [results, Try.results62, go_sem, cc0, cc1]) rfl ⟨_, rfl, ⟨NF2.out, EF.out⟩, BF.out⟩
end
end Go.Proofs.Ytlmeblhcipkgmaa
