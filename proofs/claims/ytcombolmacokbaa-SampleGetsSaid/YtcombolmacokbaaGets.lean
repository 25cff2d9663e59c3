/- The law of Get, Wide, Separates and Names. Conditions: those of each theorem, as typed. -/
import Derived.Test.YtcombolmacokbaaFirst
import Derived.Test.YtcombolmacokbaaSame
namespace Go.Proofs.Ytcombolmacokbaa
open Go.RowKit

theorem p_sep2 (w : World) : Calls Try.prog 19 #[.int .i64 2] w fun e w' => e = .returned (.tuple #[.string ⟨#[115, 116, 97, 108, 101]⟩, .bool true]) ∧ w' = w := p_separates 2 w
theorem p_sep3 (w : World) : Calls Try.prog 19 #[.int .i64 3] w fun e w' => e = .returned (.tuple #[.string ⟨#[116, 111, 114, 110]⟩, .bool true]) ∧ w' = w := p_separates 3 w
theorem p_sep4 (w : World) : Calls Try.prog 19 #[.int .i64 4] w fun e w' => e = .returned (.tuple #[.string ⟨#[101, 97, 114, 108, 121]⟩, .bool true]) ∧ w' = w := p_separates 4 w
theorem p_sep0 (n : Int) (h : n < 2 ∨ 4 < n) (w : World) : Calls Try.prog 19 #[.int .i64 n] w fun e w' => e = .returned (.tuple #[.string ⟨#[]⟩, .bool false]) ∧ w' = w := by
  have h1 : sepOf n = ⟨#[]⟩ := by unfold sepOf; rw [if_neg (by omega), if_neg (by omega), if_neg (by omega)]
  have h2 : decide (n = 2 ∨ n = 3 ∨ n = 4) = false := by simp; omega
  have := p_separates n w
  rw [h1, h2] at this
  exact this

/-- A list of texts of the call's own, and its texts' cells. -/
theorem RetS.ex {w w' : World} {l : List ByteArray} {e : Ending} (h : RetS w l e w') (h0 : 0 < l.length) : ∃ g c, e = .returned (.slice (some ⟨g, 0, none⟩) l.length c) ∧ OwnS w' w.heap.size (.slice (some ⟨g, 0, none⟩) l.length c) l ∧ g < w'.heap.size ∧
    (∀ (k : Nat) (s : ByteArray), l[k]? = some s → w'.cell? ⟨g, k, none⟩ = some (.string s)) ∧ Below w.heap.size w w' := by
  obtain ⟨v, rfl, h1, h2⟩ := h
  rcases h1.form with ⟨rfl, rfl⟩ | ⟨g, c, rfl, hg, hl⟩
  · simp at h0
  · refine ⟨g, c, rfl, h1, hl, fun k s hk => ?_, h2⟩
    have h3 := h1.sl
    obtain ⟨a', cap', hv, hm, hln, h⟩ := h3
    simp only [Value.slice.injEq] at hv
    obtain ⟨rfl, -, rfl⟩ := hv
    obtain ⟨b, off, hb, hlt, hc⟩ := h h0
    cases hb
    have := hc k (.string s) (by rw [flat_str, List.getElem?_map, hk]; rfl)
    rwa [Nat.zero_add] at this

theorem law_gets (s : ByteArray) (l n : Int) (w : World) : Calls Try.prog 4 #[.string s, .int .i64 l, .int .i64 n] w fun e w' => e = .returned (.bool true) ∧ Below w.heap.size w w' := by
  have pg := fun w => p_get s w
  have rg := fun w => r_get s w
  have pw := fun w => p_wide n w
  have rw := fun w => r_wide n w
  generalize histOf s.toList = r at pg rg
  generalize wideOf n = r' at pw rw
  have PG := hid pg
  have RG := hid rg
  have PW := hid pw
  have RW := hid rw
  clear pg rg pw rw
  go_enter Try.func4, Try.ntmps4
  go_wp2_with fail
  refine (p_first _).mono ?_
  rintro e w1 ⟨rfl, b1⟩
  have B1 := hid b1
  clear b1
  go_wp2_with fail
  · go_ret
    exact ⟨rfl, B1.out⟩
  · refine (PG.out _).mono ?_
    intro e w2 h
    obtain ⟨a2, c2, a2', c2', rfl, o2, e2, b2⟩ := h.ex
    clear h
    have B2 := hid (B1.out.trans (b2.mono (B1.out.size)))
    have O2 := hid o2
    have E2 := hid e2
    clear o2 e2 b2
    go_wp2_with fail
    refine (RG.out _).mono ?_
    intro e w3 h
    obtain ⟨a3, c3, a3', c3', rfl, o3, e3, b3⟩ := h.ex
    clear h
    have z3 : w2.heap.size + 1 ≤ w3.heap.size := by have := b3.size; simpa using this
    have B3 := hid ((B2.out.alloc (B2.out.size) _).trans (b3.mono (by have := B2.out.size; simp; omega)))
    have R2 := hid (row_below (row_new w2 (.cells #[.slice a2 r.1.length c2, .slice a2' r.2.1.length c2'] 28)) b3 (by first | omega | (simp <;> omega)))
    have O2 := hid (OwnF.below (O2.out.alloc (.cells #[.slice a2 r.1.length c2, .slice a2' r.2.1.length c2'] 28)) b3)
    have E2 := hid (OwnF.below (E2.out.alloc (.cells #[.slice a2 r.1.length c2, .slice a2' r.2.1.length c2'] 28)) b3)
    clear B2
    have O3 := hid o3
    have E3 := hid e3
    clear o3 e3 b3
    go_wp2_with fail
    refine (PW.out _).mono ?_
    intro e w4 h
    obtain ⟨a4, c4, a4', c4', rfl, o4, e4, b4⟩ := h.ex
    clear h
    have z4 : w3.heap.size + 1 ≤ w4.heap.size := by have := b4.size; simpa using this
    have B4 := hid ((B3.out.alloc (B3.out.size) _).trans (b4.mono (by have := B3.out.size; simp; omega)))
    have R2 := hid (row_below (row_old R2.out) b4 (by first | omega | (simp <;> omega)))
    have O2 := hid (OwnF.below (O2.out.alloc (.cells #[.slice a3 r.1.length c3, .slice a3' r.2.1.length c3'] 28)) b4)
    have E2 := hid (OwnF.below (E2.out.alloc (.cells #[.slice a3 r.1.length c3, .slice a3' r.2.1.length c3'] 28)) b4)
    have R3 := hid (row_below (row_new w3 (.cells #[.slice a3 r.1.length c3, .slice a3' r.2.1.length c3'] 28)) b4 (by first | omega | (simp <;> omega)))
    have O3 := hid (OwnF.below (O3.out.alloc (.cells #[.slice a3 r.1.length c3, .slice a3' r.2.1.length c3'] 28)) b4)
    have E3 := hid (OwnF.below (E3.out.alloc (.cells #[.slice a3 r.1.length c3, .slice a3' r.2.1.length c3'] 28)) b4)
    clear B3
    have O4 := hid o4
    have E4 := hid e4
    clear o4 e4 b4
    go_wp2_with fail
    refine (RW.out _).mono ?_
    intro e w5 h
    obtain ⟨a5, c5, a5', c5', rfl, o5, e5, b5⟩ := h.ex
    clear h
    have z5 : w4.heap.size + 1 ≤ w5.heap.size := by have := b5.size; simpa using this
    have B5 := hid ((B4.out.alloc (B4.out.size) _).trans (b5.mono (by have := B4.out.size; simp; omega)))
    have R2 := hid (row_below (row_old R2.out) b5 (by first | omega | (simp <;> omega)))
    have O2 := hid (OwnF.below (O2.out.alloc (.cells #[.slice a4 r'.1.length c4, .slice a4' r'.2.1.length c4'] 28)) b5)
    have E2 := hid (OwnF.below (E2.out.alloc (.cells #[.slice a4 r'.1.length c4, .slice a4' r'.2.1.length c4'] 28)) b5)
    have R3 := hid (row_below (row_old R3.out) b5 (by first | omega | (simp <;> omega)))
    have O3 := hid (OwnF.below (O3.out.alloc (.cells #[.slice a4 r'.1.length c4, .slice a4' r'.2.1.length c4'] 28)) b5)
    have E3 := hid (OwnF.below (E3.out.alloc (.cells #[.slice a4 r'.1.length c4, .slice a4' r'.2.1.length c4'] 28)) b5)
    have R4 := hid (row_below (row_new w4 (.cells #[.slice a4 r'.1.length c4, .slice a4' r'.2.1.length c4'] 28)) b5 (by first | omega | (simp <;> omega)))
    have O4 := hid (OwnF.below (O4.out.alloc (.cells #[.slice a4 r'.1.length c4, .slice a4' r'.2.1.length c4'] 28)) b5)
    have E4 := hid (OwnF.below (E4.out.alloc (.cells #[.slice a4 r'.1.length c4, .slice a4' r'.2.1.length c4'] 28)) b5)
    clear B4
    have O5 := hid o5
    have E5 := hid e5
    clear o5 e5 b5
    have S1 := p_sep2
    rcases (show l = 2 ∨ l = 3 ∨ l = 4 ∨ l < 2 ∨ 4 < l by omega) with rfl | rfl | rfl | hl | hl
    · go_wp2_with fail
      refine (p_sep2 _).mono ?_
      rintro e w5' ⟨rfl, rfl⟩
      go_wp2_with fail
      refine (r_names _).mono ?_
      intro e w6 h
      obtain ⟨g6, k6, rfl, -, lt6, x6, b6⟩ := h.ex (by decide)
      clear h
      have z6 : w5.heap.size + 1 ≤ w6.heap.size := by have := b6.size; simpa using this
      have B6 := hid ((B5.out.alloc (B5.out.size) _).trans (b6.mono (by have := B5.out.size; simp; omega)))
      clear B5
      have R2 := hid (row_below (row_old R2.out) b6 (by first | omega | (simp <;> omega)))
      have O2 := hid (OwnF.below (O2.out.alloc (.cells #[.slice a5 r'.1.length c5, .slice a5' r'.2.1.length c5'] 28)) b6)
      have E2 := hid (OwnF.below (E2.out.alloc (.cells #[.slice a5 r'.1.length c5, .slice a5' r'.2.1.length c5'] 28)) b6)
      have R3 := hid (row_below (row_old R3.out) b6 (by first | omega | (simp <;> omega)))
      have O3 := hid (OwnF.below (O3.out.alloc (.cells #[.slice a5 r'.1.length c5, .slice a5' r'.2.1.length c5'] 28)) b6)
      have E3 := hid (OwnF.below (E3.out.alloc (.cells #[.slice a5 r'.1.length c5, .slice a5' r'.2.1.length c5'] 28)) b6)
      have R4 := hid (row_below (row_old R4.out) b6 (by first | omega | (simp <;> omega)))
      have O4 := hid (OwnF.below (O4.out.alloc (.cells #[.slice a5 r'.1.length c5, .slice a5' r'.2.1.length c5'] 28)) b6)
      have E4 := hid (OwnF.below (E4.out.alloc (.cells #[.slice a5 r'.1.length c5, .slice a5' r'.2.1.length c5'] 28)) b6)
      have R5 := hid (row_below (row_new w5 (.cells #[.slice a5 r'.1.length c5, .slice a5' r'.2.1.length c5'] 28)) b6 (by first | omega | (simp <;> omega)))
      have O5 := hid (OwnF.below (O5.out.alloc (.cells #[.slice a5 r'.1.length c5, .slice a5' r'.2.1.length c5'] 28)) b6)
      have E5 := hid (OwnF.below (E5.out.alloc (.cells #[.slice a5 r'.1.length c5, .slice a5' r'.2.1.length c5'] 28)) b6)
      have y0 := x6 0 _ rfl
      have v6 : nameL.length = 4 := rfl
      clear x6
      have d20 := row_cell R2.out 0
      have d21 := row_cell R2.out 1
      have l2 : w2.heap.size < w6.heap.size := by omega
      have d30 := row_cell R3.out 0
      have d31 := row_cell R3.out 1
      have l3 : w3.heap.size < w6.heap.size := by omega
      go_wp2_with fail
      refine (sameHistory_eq _ _ _ _ r.1 r.2.1 _ O2.out.sl O3.out.sl E2.out.sl E3.out.sl).mono ?_
      rintro e w7 ⟨rfl, b7⟩
      have B7 := hid (B6.out.trans (b7.mono (B6.out.size)))
      have z7 := b7.size
      clear B6 d20 d21 d30 d31
      have R4 := hid (row_below R4.out b7 (by first | omega | (simp <;> omega)))
      have O4 := hid (OwnF.below O4.out b7)
      have E4 := hid (OwnF.below E4.out b7)
      have R5 := hid (row_below R5.out b7 (by first | omega | (simp <;> omega)))
      have O5 := hid (OwnF.below O5.out b7)
      have E5 := hid (OwnF.below E5.out b7)
      have d40 := row_cell R4.out 0
      have d41 := row_cell R4.out 1
      have l4 : w4.heap.size < w7.heap.size := by omega
      have d50 := row_cell R5.out 0
      have d51 := row_cell R5.out 1
      have l5 : w5.heap.size < w7.heap.size := by omega
      go_wp2_with fail
      refine (sameHistory_eq _ _ _ _ r'.1 r'.2.1 _ O4.out.sl O5.out.sl E4.out.sl E5.out.sl).mono ?_
      rintro e w8 ⟨rfl, b8⟩
      have B8 := hid (B7.out.trans (b8.mono (B7.out.size)))
      clear B7 d40 d41 d50 d51 b8
      go_wp2_with fail
      refine (p_names _).mono ?_
      intro e w9 h
      obtain ⟨g9, k9, rfl, N9, -, -, b9⟩ := h.ex (by decide)
      clear h
      have B9 := hid (B8.out.trans (b9.mono (B8.out.size)))
      have H9 := hid N9
      clear B8 b9 N9
      go_wp2_with fail
      refine (r_names _).mono ?_
      intro e w10 h
      obtain ⟨g10, k10, rfl, N10, -, -, b10⟩ := h.ex (by decide)
      clear h
      have B10 := hid (B9.out.trans (b10.mono (B9.out.size)))
      have H10 := hid N10
      have H9n := hid (OwnF.below H9.out b10)
      clear B9 b10 N10 H9
      go_wp2_with fail
      refine (sameTexts_eq _ _ nameL 4 _ (by have h := H9n.out.sl; rw [flat_str] at h; exact h) (by have h := H10.out.sl; rw [flat_str] at h; exact h)).mono ?_
      rintro e w11 ⟨rfl, b11⟩
      have B11 := hid (B10.out.trans (b11.mono (B10.out.size)))
      clear B10 b11
      go_wp2
      go_ret
      exact ⟨by simp, B11.out⟩
    · go_wp2_with fail
      refine (p_sep3 _).mono ?_
      rintro e w5' ⟨rfl, rfl⟩
      go_wp2_with fail
      refine (r_names _).mono ?_
      intro e w6 h
      obtain ⟨g6, k6, rfl, -, lt6, x6, b6⟩ := h.ex (by decide)
      clear h
      have z6 : w5.heap.size + 1 ≤ w6.heap.size := by have := b6.size; simpa using this
      have B6 := hid ((B5.out.alloc (B5.out.size) _).trans (b6.mono (by have := B5.out.size; simp; omega)))
      clear B5
      have R2 := hid (row_below (row_old R2.out) b6 (by first | omega | (simp <;> omega)))
      have O2 := hid (OwnF.below (O2.out.alloc (.cells #[.slice a5 r'.1.length c5, .slice a5' r'.2.1.length c5'] 28)) b6)
      have E2 := hid (OwnF.below (E2.out.alloc (.cells #[.slice a5 r'.1.length c5, .slice a5' r'.2.1.length c5'] 28)) b6)
      have R3 := hid (row_below (row_old R3.out) b6 (by first | omega | (simp <;> omega)))
      have O3 := hid (OwnF.below (O3.out.alloc (.cells #[.slice a5 r'.1.length c5, .slice a5' r'.2.1.length c5'] 28)) b6)
      have E3 := hid (OwnF.below (E3.out.alloc (.cells #[.slice a5 r'.1.length c5, .slice a5' r'.2.1.length c5'] 28)) b6)
      have R4 := hid (row_below (row_old R4.out) b6 (by first | omega | (simp <;> omega)))
      have O4 := hid (OwnF.below (O4.out.alloc (.cells #[.slice a5 r'.1.length c5, .slice a5' r'.2.1.length c5'] 28)) b6)
      have E4 := hid (OwnF.below (E4.out.alloc (.cells #[.slice a5 r'.1.length c5, .slice a5' r'.2.1.length c5'] 28)) b6)
      have R5 := hid (row_below (row_new w5 (.cells #[.slice a5 r'.1.length c5, .slice a5' r'.2.1.length c5'] 28)) b6 (by first | omega | (simp <;> omega)))
      have O5 := hid (OwnF.below (O5.out.alloc (.cells #[.slice a5 r'.1.length c5, .slice a5' r'.2.1.length c5'] 28)) b6)
      have E5 := hid (OwnF.below (E5.out.alloc (.cells #[.slice a5 r'.1.length c5, .slice a5' r'.2.1.length c5'] 28)) b6)
      have y0 := x6 1 _ rfl
      have v6 : nameL.length = 4 := rfl
      clear x6
      have d20 := row_cell R2.out 0
      have d21 := row_cell R2.out 1
      have l2 : w2.heap.size < w6.heap.size := by omega
      have d30 := row_cell R3.out 0
      have d31 := row_cell R3.out 1
      have l3 : w3.heap.size < w6.heap.size := by omega
      go_wp2_with fail
      refine (sameHistory_eq _ _ _ _ r.1 r.2.1 _ O2.out.sl O3.out.sl E2.out.sl E3.out.sl).mono ?_
      rintro e w7 ⟨rfl, b7⟩
      have B7 := hid (B6.out.trans (b7.mono (B6.out.size)))
      have z7 := b7.size
      clear B6 d20 d21 d30 d31
      have R4 := hid (row_below R4.out b7 (by first | omega | (simp <;> omega)))
      have O4 := hid (OwnF.below O4.out b7)
      have E4 := hid (OwnF.below E4.out b7)
      have R5 := hid (row_below R5.out b7 (by first | omega | (simp <;> omega)))
      have O5 := hid (OwnF.below O5.out b7)
      have E5 := hid (OwnF.below E5.out b7)
      have d40 := row_cell R4.out 0
      have d41 := row_cell R4.out 1
      have l4 : w4.heap.size < w7.heap.size := by omega
      have d50 := row_cell R5.out 0
      have d51 := row_cell R5.out 1
      have l5 : w5.heap.size < w7.heap.size := by omega
      go_wp2_with fail
      refine (sameHistory_eq _ _ _ _ r'.1 r'.2.1 _ O4.out.sl O5.out.sl E4.out.sl E5.out.sl).mono ?_
      rintro e w8 ⟨rfl, b8⟩
      have B8 := hid (B7.out.trans (b8.mono (B7.out.size)))
      clear B7 d40 d41 d50 d51 b8
      go_wp2_with fail
      refine (p_names _).mono ?_
      intro e w9 h
      obtain ⟨g9, k9, rfl, N9, -, -, b9⟩ := h.ex (by decide)
      clear h
      have B9 := hid (B8.out.trans (b9.mono (B8.out.size)))
      have H9 := hid N9
      clear B8 b9 N9
      go_wp2_with fail
      refine (r_names _).mono ?_
      intro e w10 h
      obtain ⟨g10, k10, rfl, N10, -, -, b10⟩ := h.ex (by decide)
      clear h
      have B10 := hid (B9.out.trans (b10.mono (B9.out.size)))
      have H10 := hid N10
      have H9n := hid (OwnF.below H9.out b10)
      clear B9 b10 N10 H9
      go_wp2_with fail
      refine (sameTexts_eq _ _ nameL 4 _ (by have h := H9n.out.sl; rw [flat_str] at h; exact h) (by have h := H10.out.sl; rw [flat_str] at h; exact h)).mono ?_
      rintro e w11 ⟨rfl, b11⟩
      have B11 := hid (B10.out.trans (b11.mono (B10.out.size)))
      clear B10 b11
      go_wp2
      go_ret
      exact ⟨by simp, B11.out⟩
    · go_wp2_with fail
      refine (p_sep4 _).mono ?_
      rintro e w5' ⟨rfl, rfl⟩
      go_wp2_with fail
      refine (r_names _).mono ?_
      intro e w6 h
      obtain ⟨g6, k6, rfl, -, lt6, x6, b6⟩ := h.ex (by decide)
      clear h
      have z6 : w5.heap.size + 1 ≤ w6.heap.size := by have := b6.size; simpa using this
      have B6 := hid ((B5.out.alloc (B5.out.size) _).trans (b6.mono (by have := B5.out.size; simp; omega)))
      clear B5
      have R2 := hid (row_below (row_old R2.out) b6 (by first | omega | (simp <;> omega)))
      have O2 := hid (OwnF.below (O2.out.alloc (.cells #[.slice a5 r'.1.length c5, .slice a5' r'.2.1.length c5'] 28)) b6)
      have E2 := hid (OwnF.below (E2.out.alloc (.cells #[.slice a5 r'.1.length c5, .slice a5' r'.2.1.length c5'] 28)) b6)
      have R3 := hid (row_below (row_old R3.out) b6 (by first | omega | (simp <;> omega)))
      have O3 := hid (OwnF.below (O3.out.alloc (.cells #[.slice a5 r'.1.length c5, .slice a5' r'.2.1.length c5'] 28)) b6)
      have E3 := hid (OwnF.below (E3.out.alloc (.cells #[.slice a5 r'.1.length c5, .slice a5' r'.2.1.length c5'] 28)) b6)
      have R4 := hid (row_below (row_old R4.out) b6 (by first | omega | (simp <;> omega)))
      have O4 := hid (OwnF.below (O4.out.alloc (.cells #[.slice a5 r'.1.length c5, .slice a5' r'.2.1.length c5'] 28)) b6)
      have E4 := hid (OwnF.below (E4.out.alloc (.cells #[.slice a5 r'.1.length c5, .slice a5' r'.2.1.length c5'] 28)) b6)
      have R5 := hid (row_below (row_new w5 (.cells #[.slice a5 r'.1.length c5, .slice a5' r'.2.1.length c5'] 28)) b6 (by first | omega | (simp <;> omega)))
      have O5 := hid (OwnF.below (O5.out.alloc (.cells #[.slice a5 r'.1.length c5, .slice a5' r'.2.1.length c5'] 28)) b6)
      have E5 := hid (OwnF.below (E5.out.alloc (.cells #[.slice a5 r'.1.length c5, .slice a5' r'.2.1.length c5'] 28)) b6)
      have y0 := x6 2 _ rfl
      have v6 : nameL.length = 4 := rfl
      clear x6
      have d20 := row_cell R2.out 0
      have d21 := row_cell R2.out 1
      have l2 : w2.heap.size < w6.heap.size := by omega
      have d30 := row_cell R3.out 0
      have d31 := row_cell R3.out 1
      have l3 : w3.heap.size < w6.heap.size := by omega
      go_wp2_with fail
      refine (sameHistory_eq _ _ _ _ r.1 r.2.1 _ O2.out.sl O3.out.sl E2.out.sl E3.out.sl).mono ?_
      rintro e w7 ⟨rfl, b7⟩
      have B7 := hid (B6.out.trans (b7.mono (B6.out.size)))
      have z7 := b7.size
      clear B6 d20 d21 d30 d31
      have R4 := hid (row_below R4.out b7 (by first | omega | (simp <;> omega)))
      have O4 := hid (OwnF.below O4.out b7)
      have E4 := hid (OwnF.below E4.out b7)
      have R5 := hid (row_below R5.out b7 (by first | omega | (simp <;> omega)))
      have O5 := hid (OwnF.below O5.out b7)
      have E5 := hid (OwnF.below E5.out b7)
      have d40 := row_cell R4.out 0
      have d41 := row_cell R4.out 1
      have l4 : w4.heap.size < w7.heap.size := by omega
      have d50 := row_cell R5.out 0
      have d51 := row_cell R5.out 1
      have l5 : w5.heap.size < w7.heap.size := by omega
      go_wp2_with fail
      refine (sameHistory_eq _ _ _ _ r'.1 r'.2.1 _ O4.out.sl O5.out.sl E4.out.sl E5.out.sl).mono ?_
      rintro e w8 ⟨rfl, b8⟩
      have B8 := hid (B7.out.trans (b8.mono (B7.out.size)))
      clear B7 d40 d41 d50 d51 b8
      go_wp2_with fail
      refine (p_names _).mono ?_
      intro e w9 h
      obtain ⟨g9, k9, rfl, N9, -, -, b9⟩ := h.ex (by decide)
      clear h
      have B9 := hid (B8.out.trans (b9.mono (B8.out.size)))
      have H9 := hid N9
      clear B8 b9 N9
      go_wp2_with fail
      refine (r_names _).mono ?_
      intro e w10 h
      obtain ⟨g10, k10, rfl, N10, -, -, b10⟩ := h.ex (by decide)
      clear h
      have B10 := hid (B9.out.trans (b10.mono (B9.out.size)))
      have H10 := hid N10
      have H9n := hid (OwnF.below H9.out b10)
      clear B9 b10 N10 H9
      go_wp2_with fail
      refine (sameTexts_eq _ _ nameL 4 _ (by have h := H9n.out.sl; rw [flat_str] at h; exact h) (by have h := H10.out.sl; rw [flat_str] at h; exact h)).mono ?_
      rintro e w11 ⟨rfl, b11⟩
      have B11 := hid (B10.out.trans (b11.mono (B10.out.size)))
      clear B10 b11
      go_wp2
      go_ret
      exact ⟨by simp, B11.out⟩
    · go_wp2_with fail
      refine (p_sep0 _ (by omega) _).mono ?_
      rintro e w5' ⟨rfl, rfl⟩
      have R5 := hid (row_new w5 (.cells #[.slice a5 r'.1.length c5, .slice a5' r'.2.1.length c5'] 28))
      have R2 := hid (row_old (o := (.cells #[.slice a5 r'.1.length c5, .slice a5' r'.2.1.length c5'] 28)) R2.out)
      have R3 := hid (row_old (o := (.cells #[.slice a5 r'.1.length c5, .slice a5' r'.2.1.length c5'] 28)) R3.out)
      have R4 := hid (row_old (o := (.cells #[.slice a5 r'.1.length c5, .slice a5' r'.2.1.length c5'] 28)) R4.out)
      have O2 := hid (O2.out.alloc (.cells #[.slice a5 r'.1.length c5, .slice a5' r'.2.1.length c5'] 28))
      have E2 := hid (E2.out.alloc (.cells #[.slice a5 r'.1.length c5, .slice a5' r'.2.1.length c5'] 28))
      have O3 := hid (O3.out.alloc (.cells #[.slice a5 r'.1.length c5, .slice a5' r'.2.1.length c5'] 28))
      have E3 := hid (E3.out.alloc (.cells #[.slice a5 r'.1.length c5, .slice a5' r'.2.1.length c5'] 28))
      have O4 := hid (O4.out.alloc (.cells #[.slice a5 r'.1.length c5, .slice a5' r'.2.1.length c5'] 28))
      have E4 := hid (E4.out.alloc (.cells #[.slice a5 r'.1.length c5, .slice a5' r'.2.1.length c5'] 28))
      have O5 := hid (O5.out.alloc (.cells #[.slice a5 r'.1.length c5, .slice a5' r'.2.1.length c5'] 28))
      have E5 := hid (E5.out.alloc (.cells #[.slice a5 r'.1.length c5, .slice a5' r'.2.1.length c5'] 28))
      have B6 := hid (B5.out.alloc (B5.out.size) (.cells #[.slice a5 r'.1.length c5, .slice a5' r'.2.1.length c5'] 28))
      clear B5
      have z6 : w5.heap.size + 1 ≤ (w5.alloc (.cells #[.slice a5 r'.1.length c5, .slice a5' r'.2.1.length c5'] 28)).heap.size := by simp
      generalize w5.alloc (.cells #[.slice a5 r'.1.length c5, .slice a5' r'.2.1.length c5'] 28) = w6 at *
      have d20 := row_cell R2.out 0
      have d21 := row_cell R2.out 1
      have l2 : w2.heap.size < w6.heap.size := by omega
      have d30 := row_cell R3.out 0
      have d31 := row_cell R3.out 1
      have l3 : w3.heap.size < w6.heap.size := by omega
      go_wp2_with fail
      refine (sameHistory_eq _ _ _ _ r.1 r.2.1 _ O2.out.sl O3.out.sl E2.out.sl E3.out.sl).mono ?_
      rintro e w7 ⟨rfl, b7⟩
      have B7 := hid (B6.out.trans (b7.mono (B6.out.size)))
      have z7 := b7.size
      clear B6 d20 d21 d30 d31
      have R4 := hid (row_below R4.out b7 (by first | omega | (simp <;> omega)))
      have O4 := hid (OwnF.below O4.out b7)
      have E4 := hid (OwnF.below E4.out b7)
      have R5 := hid (row_below R5.out b7 (by first | omega | (simp <;> omega)))
      have O5 := hid (OwnF.below O5.out b7)
      have E5 := hid (OwnF.below E5.out b7)
      have d40 := row_cell R4.out 0
      have d41 := row_cell R4.out 1
      have l4 : w4.heap.size < w7.heap.size := by omega
      have d50 := row_cell R5.out 0
      have d51 := row_cell R5.out 1
      have l5 : w5.heap.size < w7.heap.size := by omega
      go_wp2_with fail
      refine (sameHistory_eq _ _ _ _ r'.1 r'.2.1 _ O4.out.sl O5.out.sl E4.out.sl E5.out.sl).mono ?_
      rintro e w8 ⟨rfl, b8⟩
      have B8 := hid (B7.out.trans (b8.mono (B7.out.size)))
      clear B7 d40 d41 d50 d51 b8
      go_wp2_with fail
      refine (p_names _).mono ?_
      intro e w9 h
      obtain ⟨g9, k9, rfl, N9, -, -, b9⟩ := h.ex (by decide)
      clear h
      have B9 := hid (B8.out.trans (b9.mono (B8.out.size)))
      have H9 := hid N9
      clear B8 b9 N9
      go_wp2_with fail
      refine (r_names _).mono ?_
      intro e w10 h
      obtain ⟨g10, k10, rfl, N10, -, -, b10⟩ := h.ex (by decide)
      clear h
      have B10 := hid (B9.out.trans (b10.mono (B9.out.size)))
      have H10 := hid N10
      have H9n := hid (OwnF.below H9.out b10)
      clear B9 b10 N10 H9
      go_wp2_with fail
      refine (sameTexts_eq _ _ nameL 4 _ (by have h := H9n.out.sl; rw [flat_str] at h; exact h) (by have h := H10.out.sl; rw [flat_str] at h; exact h)).mono ?_
      rintro e w11 ⟨rfl, b11⟩
      have B11 := hid (B10.out.trans (b11.mono (B10.out.size)))
      clear B10 b11
      go_wp2
      go_ret
      exact ⟨by simp, B11.out⟩
    · have hl2 : 2 ≤ l := by omega
      go_wp2_with fail
      refine (p_sep0 _ (by omega) _).mono ?_
      rintro e w5' ⟨rfl, rfl⟩
      have R5 := hid (row_new w5 (.cells #[.slice a5 r'.1.length c5, .slice a5' r'.2.1.length c5'] 28))
      have R2 := hid (row_old (o := (.cells #[.slice a5 r'.1.length c5, .slice a5' r'.2.1.length c5'] 28)) R2.out)
      have R3 := hid (row_old (o := (.cells #[.slice a5 r'.1.length c5, .slice a5' r'.2.1.length c5'] 28)) R3.out)
      have R4 := hid (row_old (o := (.cells #[.slice a5 r'.1.length c5, .slice a5' r'.2.1.length c5'] 28)) R4.out)
      have O2 := hid (O2.out.alloc (.cells #[.slice a5 r'.1.length c5, .slice a5' r'.2.1.length c5'] 28))
      have E2 := hid (E2.out.alloc (.cells #[.slice a5 r'.1.length c5, .slice a5' r'.2.1.length c5'] 28))
      have O3 := hid (O3.out.alloc (.cells #[.slice a5 r'.1.length c5, .slice a5' r'.2.1.length c5'] 28))
      have E3 := hid (E3.out.alloc (.cells #[.slice a5 r'.1.length c5, .slice a5' r'.2.1.length c5'] 28))
      have O4 := hid (O4.out.alloc (.cells #[.slice a5 r'.1.length c5, .slice a5' r'.2.1.length c5'] 28))
      have E4 := hid (E4.out.alloc (.cells #[.slice a5 r'.1.length c5, .slice a5' r'.2.1.length c5'] 28))
      have O5 := hid (O5.out.alloc (.cells #[.slice a5 r'.1.length c5, .slice a5' r'.2.1.length c5'] 28))
      have E5 := hid (E5.out.alloc (.cells #[.slice a5 r'.1.length c5, .slice a5' r'.2.1.length c5'] 28))
      have B6 := hid (B5.out.alloc (B5.out.size) (.cells #[.slice a5 r'.1.length c5, .slice a5' r'.2.1.length c5'] 28))
      clear B5
      have z6 : w5.heap.size + 1 ≤ (w5.alloc (.cells #[.slice a5 r'.1.length c5, .slice a5' r'.2.1.length c5'] 28)).heap.size := by simp
      generalize w5.alloc (.cells #[.slice a5 r'.1.length c5, .slice a5' r'.2.1.length c5'] 28) = w6 at *
      have d20 := row_cell R2.out 0
      have d21 := row_cell R2.out 1
      have l2 : w2.heap.size < w6.heap.size := by omega
      have d30 := row_cell R3.out 0
      have d31 := row_cell R3.out 1
      have l3 : w3.heap.size < w6.heap.size := by omega
      go_wp2_with fail
      refine (sameHistory_eq _ _ _ _ r.1 r.2.1 _ O2.out.sl O3.out.sl E2.out.sl E3.out.sl).mono ?_
      rintro e w7 ⟨rfl, b7⟩
      have B7 := hid (B6.out.trans (b7.mono (B6.out.size)))
      have z7 := b7.size
      clear B6 d20 d21 d30 d31
      have R4 := hid (row_below R4.out b7 (by first | omega | (simp <;> omega)))
      have O4 := hid (OwnF.below O4.out b7)
      have E4 := hid (OwnF.below E4.out b7)
      have R5 := hid (row_below R5.out b7 (by first | omega | (simp <;> omega)))
      have O5 := hid (OwnF.below O5.out b7)
      have E5 := hid (OwnF.below E5.out b7)
      have d40 := row_cell R4.out 0
      have d41 := row_cell R4.out 1
      have l4 : w4.heap.size < w7.heap.size := by omega
      have d50 := row_cell R5.out 0
      have d51 := row_cell R5.out 1
      have l5 : w5.heap.size < w7.heap.size := by omega
      go_wp2_with fail
      refine (sameHistory_eq _ _ _ _ r'.1 r'.2.1 _ O4.out.sl O5.out.sl E4.out.sl E5.out.sl).mono ?_
      rintro e w8 ⟨rfl, b8⟩
      have B8 := hid (B7.out.trans (b8.mono (B7.out.size)))
      clear B7 d40 d41 d50 d51 b8
      go_wp2_with fail
      refine (p_names _).mono ?_
      intro e w9 h
      obtain ⟨g9, k9, rfl, N9, -, -, b9⟩ := h.ex (by decide)
      clear h
      have B9 := hid (B8.out.trans (b9.mono (B8.out.size)))
      have H9 := hid N9
      clear B8 b9 N9
      go_wp2_with fail
      refine (r_names _).mono ?_
      intro e w10 h
      obtain ⟨g10, k10, rfl, N10, -, -, b10⟩ := h.ex (by decide)
      clear h
      have B10 := hid (B9.out.trans (b10.mono (B9.out.size)))
      have H10 := hid N10
      have H9n := hid (OwnF.below H9.out b10)
      clear B9 b10 N10 H9
      go_wp2_with fail
      refine (sameTexts_eq _ _ nameL 4 _ (by have h := H9n.out.sl; rw [flat_str] at h; exact h) (by have h := H10.out.sl; rw [flat_str] at h; exact h)).mono ?_
      rintro e w11 ⟨rfl, b11⟩
      have B11 := hid (B10.out.trans (b11.mono (B10.out.size)))
      clear B10 b11
      go_wp2
      go_ret
      exact ⟨by simp, B11.out⟩
end Go.Proofs.Ytcombolmacokbaa
