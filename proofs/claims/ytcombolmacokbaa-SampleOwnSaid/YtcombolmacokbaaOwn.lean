/- The law of samples of one's own. Conditions: those of each theorem, as typed. -/
import Derived.Test.YtcombolmacokbaaFirst
import Derived.Test.YtcombolmacokbaaSame
import Derived.Test.YtcombolmacokbaaSameP
import Derived.Test.YtcombolmacokbaaShape
namespace Go.Proofs.Ytcombolmacokbaa
open Go.RowKit

theorem Shape.down {w : World} {B B' : Nat} {e : TypeId} {sz g n cap : Nat} (h : Shape w B e sz g n cap) (hB : B' ≤ B) : Shape w B' e sz g n cap := ⟨h.row, h.le, h.most, Nat.le_trans hB h.base⟩
theorem RetP.ex {w w' : World} {e : Ending} (h : RetP w e w') : ∃ ac kc at' kt as' ks, e = .returned (.tuple #[.agg #[.slice ac 2 kc, .slice at' 2 kt], .slice as' 13 ks]) ∧ OwnI w' w.heap.size (.slice ac 2 kc) [0, 0] ∧
    IsThr w' w'.heap.size (.slice at' 2 kt) caughtT ∧ OwnI w' w.heap.size (.slice as' 13 ks) caughtS ∧ Below w.heap.size w w' := by
  obtain ⟨c, t, s, vs, rfl, h1, h2, h3, h4, h5, h6⟩ := h
  obtain ⟨ac, kc, rfl, -⟩ := h1.sl.ex
  obtain ⟨gt, kt, rfl, -⟩ := h4.ex
  obtain ⟨gs, ks, rfl, -⟩ := h5.sl.ex
  exact ⟨ac, kc, gt, kt, gs, ks, rfl, h1, h4, h5, h6⟩
theorem hid_nameL : nameL.length = 4 := rfl


set_option maxRecDepth 100000 in
set_option maxHeartbeats 2000000 in
theorem law_own (n : Int) (w : World) : Calls Try.prog 3 #[.int .i64 n] w fun e w' => e = .returned (.bool true) ∧ Below w.heap.size w w' := by
  go_enter Try.func3, Try.ntmps3
  go_wp2_with fail
  refine (p_first _).mono ?_
  rintro e w1 ⟨rfl, b1⟩
  have B1 := hid b1
  clear b1
  go_wp2_with fail
  generalize (wrap64 (n.tmod 14 + 14)).tmod 14 = m
  have pw := fun w => p_wide m w
  have rw := fun w => r_wide m w
  generalize wideOf m = r' at pw rw
  have PW := hid pw
  have RW := hid rw
  clear pw rw
  go_loopw [4] (fun i wr => ∃ k : Nat, k ≤ 2 ∧ i = .int .i64 k ∧ Below w.heap.size w wr) (fun i _ => 2 - (intOf i).toNat)
  case atStart => exact ⟨0, by omega, by go_num, B1.out⟩
  case round =>
    obtain ⟨k, hk, rfl, hB⟩ := hrel
    have HB := hid hB
    clear hB B1
    by_cases hlt : k < 2
    · go_wp2_with fail
      refine (p_names _).mono ?_
      intro e w2 h
      obtain ⟨g5, k5, rfl, N2, -, -, b2⟩ := h.parts (by decide)
      clear h
      rw [hid_nameL]
      rw [hid_nameL] at N2
      have S5 := hid N2.shape
      have B2 := hid (HB.out.trans (b2.mono HB.out.size))
      have z2 := b2.size
      clear N2 b2
      go_wp2_with fail
      refine (p_get _ _).mono ?_
      rw [hist3]
      intro e w3 h
      obtain ⟨o6, l6, g6, k6, rfl, so, se, b3⟩ := h.parts (by decide) (by decide)
      clear h
      rw [show plainO.length = 4 from rfl] at so ⊢
      rw [show plainE.length = 25 from rfl] at se ⊢
      have B3 := hid (B2.out.trans (b3.mono B2.out.size))
      have z3 := b3.size
      have S5 := hid (S5.out.below b3)
      have SO := hid so
      have SE := hid se
      clear so se b3 B2
      go_wp2_with fail
      refine (PW.out _).mono ?_
      intro e w4 h
      obtain ⟨a8o, l8, a8, k8, rfl, s8, h8, b4⟩ := h.maybe
      clear h
      generalize r'.1.length = m8
      generalize r'.2.1.length = n8 at s8 h8 ⊢
      have z4 : w3.heap.size + 1 ≤ w4.heap.size := by have := b4.size; simpa using this
      have B4 := hid ((B3.out.alloc B3.out.size _).trans (b4.mono (by have := B3.out.size; simp; omega)))
      have S5 := hid ((S5.out.alloc _).below b4)
      have SO := hid ((SO.out.alloc _).below b4)
      have SE := hid ((SE.out.alloc _).below b4)
      have R6 := hid (row_below (row_new w3 (.cells #[.slice (some ⟨o6, 0, none⟩) 4 l6, .slice (some ⟨g6, 0, none⟩) 25 k6] 28)) b4 (by first | omega | (simp <;> omega)))
      have S8 := hid s8
      clear s8 b4 B3
      go_wp2_with fail
      refine (p_caught _).mono ?_
      intro e w5 h
      obtain ⟨ac, kc, gt, kt, gs, ks, rfl, st, ss, -, -, -, b5⟩ := h.parts
      clear h
      have z5 : w4.heap.size + 1 ≤ w5.heap.size := by have := b5.size; simpa using this
      have B5 := hid ((B4.out.alloc B4.out.size _).trans (b5.mono (by have := B4.out.size; simp; omega)))
      have S5 := hid (((S5.out.alloc _).below b5).down (B' := wr.heap.size) (by first | exact Nat.le_refl _ | omega | (simp <;> omega)))
      have SO := hid (((SO.out.alloc _).below b5).down (B' := wr.heap.size) (by first | exact Nat.le_refl _ | omega | (simp <;> omega)))
      have SE := hid (((SE.out.alloc _).below b5).down (B' := wr.heap.size) (by first | exact Nat.le_refl _ | omega | (simp <;> omega)))
      have R6 := hid (row_below (row_old R6.out) b5 (by first | omega | (simp <;> omega)))
      have R8 := hid (row_below (row_new w4 (.cells #[.slice a8o m8 l8, .slice a8 n8 k8] 28)) b5 (by first | omega | (simp <;> omega)))
      have S8 : Hid (n8 = 0 ∨ ∃ g, a8 = some ⟨g, 0, none⟩ ∧ Shape w5 wr.heap.size 39 8 g n8 k8) := hid (S8.out.imp id fun ⟨g, h1, h2⟩ => ⟨g, h1, ((h2.alloc _).below b5).down (by first | exact Nat.le_refl _ | omega | (simp <;> omega))⟩)
      have ST := hid (st.down (B' := wr.heap.size) (by first | exact Nat.le_refl _ | omega | (simp <;> omega)))
      have SS := hid (ss.down (B' := wr.heap.size) (by first | exact Nat.le_refl _ | omega | (simp <;> omega)))
      clear st ss b5 B4
      have L5 : Live wr.heap.size w3.heap.size w4.heap.size w5.heap.size #[.slice (some ⟨o6, 0, none⟩) 4 l6, .slice (some ⟨g6, 0, none⟩) 25 k6] #[.slice a8o m8 l8, .slice a8 n8 k8] #[.slice ac 2 kc, .slice (some ⟨gt, 0, none⟩) 2 kt] g5 4 k5 g6 25 k6 o6 4 l6 a8 n8 k8 gt 2 kt gs 13 ks (w5.alloc (.cells #[.slice ac 2 kc, .slice (some ⟨gt, 0, none⟩) 2 kt] 35)) :=
        ⟨row_old R6.out, row_old R8.out, row_new _ _, S5.out.alloc _, SE.out.alloc _, SO.out.alloc _, S8.out.imp id fun ⟨g, h1, h2⟩ => ⟨g, h1, h2.alloc _⟩, ST.out.alloc _, SS.out.alloc _⟩
      have B6 : Below w.heap.size w (w5.alloc (.cells #[.slice ac 2 kc, .slice (some ⟨gt, 0, none⟩) 2 kt] 35)) := B5.out.alloc B5.out.size _
      have LL := hid L5
      have BB := hid B6
      have hw : w.heap.size ≤ wr.heap.size := HB.out.size
      clear L5 B6 S5 SO SE R6 R8 S8 ST SS B5 HB
      go_wp2_with fail
      generalize w5.alloc (.cells #[.slice ac 2 kc, .slice (some ⟨gt, 0, none⟩) 2 kt] 35) = wa at *
      generalize wr.heap.size = B0 at *
      generalize w3.heap.size = p6 at *
      generalize w4.heap.size = p8 at *
      generalize w5.heap.size = p10 at *
      clear z2 z3 z4 z5
      go_loopw [12] (fun i wb => ∃ j : Nat, j ≤ 4 ∧ i = .int .i64 j ∧ Live B0 p6 p8 p10 #[.slice (some ⟨o6, 0, none⟩) 4 l6, .slice (some ⟨g6, 0, none⟩) 25 k6] #[.slice a8o m8 l8, .slice a8 n8 k8] #[.slice ac 2 kc, .slice (some ⟨gt, 0, none⟩) 2 kt] g5 4 k5 g6 25 k6 o6 4 l6 a8 n8 k8 gt 2 kt gs 13 ks wb ∧ Below w.heap.size w wb) (fun i _ => 4 - (intOf i).toNat)
      case atStart => exact ⟨0, by omega, by go_num, LL.out, BB.out⟩
      case round =>
        obtain ⟨j, hj, rfl, hL, hBq⟩ := hrel
        have LM := hid hL
        have BM := hid hBq
        clear LL BB hL hBq
        by_cases hlj : j < 4
        · obtain ⟨u, hu⟩ := LM.out.s5.at (j := j) (by have := LM.out.s5.le; omega)
          have hf := LM.out.s5.free (j)
          have hg := LM.out.s5.lt
          go_wp2_with fail
          go_roundw
          case rel => exact ⟨j + 1, by omega, by go_num, LM.out.set LM.out.s5 (by decide) (by decide) (j) (.string ⟨#[115, 112, 111, 105, 108, 116]⟩), BM.out.setCell (p := ⟨g5, j, none⟩) (by have := LM.out.s5.base; show _ ≤ g5; omega) _⟩
          case measure => simp [intOf]; omega
        have LL := LM
        have BB := BM
        clear LM BM
        obtain rfl : j = 4 := by omega
        go_wp2_with fail
        go_loopw [13] (fun i wc => ∃ j : Nat, j ≤ 25 ∧ i = .int .i64 j ∧ Live B0 p6 p8 p10 #[.slice (some ⟨o6, 0, none⟩) 4 l6, .slice (some ⟨g6, 0, none⟩) 25 k6] #[.slice a8o m8 l8, .slice a8 n8 k8] #[.slice ac 2 kc, .slice (some ⟨gt, 0, none⟩) 2 kt] g5 4 k5 g6 25 k6 o6 4 l6 a8 n8 k8 gt 2 kt gs 13 ks wc ∧ Below w.heap.size w wc) (fun i _ => 25 - (intOf i).toNat)
        case atStart => exact ⟨0, by omega, by go_num, LL.out, BB.out⟩
        case round =>
          obtain ⟨j, hj, rfl, hL, hBq⟩ := hrel
          have LM := hid hL
          have BM := hid hBq
          clear LL BB hL hBq
          have dd := row_cell LM.out.r6 1
          have dl : p6 < wr.heap.size := row_lt LM.out.r6
          by_cases hlj : j < 25
          · obtain ⟨u, hu⟩ := LM.out.s6.at (j := j * 8 + 1) (by have := LM.out.s6.le; omega)
            have hf := LM.out.s6.free (j * 8 + 1)
            have hg := LM.out.s6.lt
            go_wp2_with fail
            go_roundw
            case rel => exact ⟨j + 1, by omega, by go_num, LM.out.set LM.out.s6 (by decide) (by decide) (j * 8 + 1) (.int .i64 (-9)), BM.out.setCell (p := ⟨g6, j * 8 + 1, none⟩) (by have := LM.out.s6.base; show _ ≤ g6; omega) _⟩
            case measure => simp [intOf]; omega
          have LL := LM
          have BB := BM
          clear LM BM dd dl
          have dd := row_cell LL.out.r6 1
          have dl : p6 < wr.heap.size := row_lt LL.out.r6
          obtain rfl : j = 25 := by omega
          go_wp2_with fail
          clear dd dl
          go_loopw [14] (fun i wd => ∃ j : Nat, j ≤ 4 ∧ i = .int .i64 j ∧ Live B0 p6 p8 p10 #[.slice (some ⟨o6, 0, none⟩) 4 l6, .slice (some ⟨g6, 0, none⟩) 25 k6] #[.slice a8o m8 l8, .slice a8 n8 k8] #[.slice ac 2 kc, .slice (some ⟨gt, 0, none⟩) 2 kt] g5 4 k5 g6 25 k6 o6 4 l6 a8 n8 k8 gt 2 kt gs 13 ks wd ∧ Below w.heap.size w wd) (fun i _ => 4 - (intOf i).toNat)
          case atStart => exact ⟨0, by omega, by go_num, LL.out, BB.out⟩
          case round =>
            obtain ⟨j, hj, rfl, hL, hBq⟩ := hrel
            have LM := hid hL
            have BM := hid hBq
            clear LL BB hL hBq
            have dd := row_cell LM.out.r6 0
            have dl : p6 < wr.heap.size := row_lt LM.out.r6
            by_cases hlj : j < 4
            · obtain ⟨u, hu⟩ := LM.out.t6.at (j := j * 2) (by have := LM.out.t6.le; omega)
              have hf := LM.out.t6.free (j * 2)
              have hg := LM.out.t6.lt
              go_wp2_with fail
              go_roundw
              case rel => exact ⟨j + 1, by omega, by go_num, LM.out.set LM.out.t6 (by decide) (by decide) (j * 2) (.int .i64 (-9)), BM.out.setCell (p := ⟨o6, j * 2, none⟩) (by have := LM.out.t6.base; show _ ≤ o6; omega) _⟩
              case measure => simp [intOf]; omega
            have LL := LM
            have BB := BM
            clear LM BM dd dl
            have dd := row_cell LL.out.r6 0
            have dl : p6 < wr.heap.size := row_lt LL.out.r6
            obtain rfl : j = 4 := by omega
            go_wp2_with fail
            clear dd dl
            go_loopw [15] (fun i we => ∃ j : Nat, j ≤ n8 ∧ i = .int .i64 j ∧ Live B0 p6 p8 p10 #[.slice (some ⟨o6, 0, none⟩) 4 l6, .slice (some ⟨g6, 0, none⟩) 25 k6] #[.slice a8o m8 l8, .slice a8 n8 k8] #[.slice ac 2 kc, .slice (some ⟨gt, 0, none⟩) 2 kt] g5 4 k5 g6 25 k6 o6 4 l6 a8 n8 k8 gt 2 kt gs 13 ks we ∧ Below w.heap.size w we) (fun i _ => n8 - (intOf i).toNat)
            case atStart => exact ⟨0, by omega, by go_num, LL.out, BB.out⟩
            case round =>
              obtain ⟨j, hj, rfl, hL, hBq⟩ := hrel
              have LM := hid hL
              have BM := hid hBq
              clear LL BB hL hBq
              have dd := row_cell LM.out.r8 1
              have dl : p8 < wr.heap.size := row_lt LM.out.r8
              by_cases hlj : j < n8
              · rcases LM.out.s8 with h0 | ⟨g8, rfl, hs⟩
                · omega
                obtain ⟨u, hu⟩ := hs.at (j := j * 8 + 1) (by have := hs.le; omega)
                have hf := hs.free (j * 8 + 1)
                have hg := hs.lt
                go_wp2_with fail
                go_roundw
                case rel => exact ⟨j + 1, by omega, by go_num, LM.out.set hs (by decide) (by decide) (j * 8 + 1) (.int .i64 (-9)), BM.out.setCell (p := ⟨g8, j * 8 + 1, none⟩) (by have := hs.base; show _ ≤ g8; omega) _⟩
                case measure => simp [intOf]; omega
              have LL := LM
              have BB := BM
              clear LM BM dd dl
              have dd := row_cell LL.out.r8 1
              have dl : p8 < wr.heap.size := row_lt LL.out.r8
              have hge : n8 ≤ j := by omega
              go_wp2_with fail
              clear dd dl
              go_loopw [16] (fun i wf => ∃ j : Nat, j ≤ 13 ∧ i = .int .i64 j ∧ Live B0 p6 p8 p10 #[.slice (some ⟨o6, 0, none⟩) 4 l6, .slice (some ⟨g6, 0, none⟩) 25 k6] #[.slice a8o m8 l8, .slice a8 n8 k8] #[.slice ac 2 kc, .slice (some ⟨gt, 0, none⟩) 2 kt] g5 4 k5 g6 25 k6 o6 4 l6 a8 n8 k8 gt 2 kt gs 13 ks wf ∧ Below w.heap.size w wf) (fun i _ => 13 - (intOf i).toNat)
              case atStart => exact ⟨0, by omega, by go_num, LL.out, BB.out⟩
              case round =>
                obtain ⟨j, hj, rfl, hL, hBq⟩ := hrel
                have LM := hid hL
                have BM := hid hBq
                clear LL BB hL hBq
                by_cases hlj : j < 13
                · obtain ⟨u, hu⟩ := LM.out.ss.at (j := j) (by have := LM.out.ss.le; omega)
                  have hf := LM.out.ss.free (j)
                  have hg := LM.out.ss.lt
                  go_wp2_with fail
                  go_roundw
                  case rel => exact ⟨j + 1, by omega, by go_num, LM.out.set LM.out.ss (by decide) (by decide) (j) (.int .i64 (-9)), BM.out.setCell (p := ⟨gs, j, none⟩) (by have := LM.out.ss.base; show _ ≤ gs; omega) _⟩
                  case measure => simp [intOf]; omega
                have LL := LM
                have BB := BM
                clear LM BM
                obtain rfl : j = 13 := by omega
                go_wp2_with fail
                go_loopw [17] (fun i wg => ∃ j : Nat, j ≤ 2 ∧ i = .int .i64 j ∧ Live B0 p6 p8 p10 #[.slice (some ⟨o6, 0, none⟩) 4 l6, .slice (some ⟨g6, 0, none⟩) 25 k6] #[.slice a8o m8 l8, .slice a8 n8 k8] #[.slice ac 2 kc, .slice (some ⟨gt, 0, none⟩) 2 kt] g5 4 k5 g6 25 k6 o6 4 l6 a8 n8 k8 gt 2 kt gs 13 ks wg ∧ Below w.heap.size w wg) (fun i _ => 2 - (intOf i).toNat)
                case atStart => exact ⟨0, by omega, by go_num, LL.out, BB.out⟩
                case round =>
                  obtain ⟨j, hj, rfl, hL, hBq⟩ := hrel
                  have LM := hid hL
                  have BM := hid hBq
                  clear LL BB hL hBq
                  have dd := row_cell LM.out.r10 1
                  have dl : p10 < wr.heap.size := row_lt LM.out.r10
                  by_cases hlj : j < 2
                  · obtain ⟨u, hu⟩ := LM.out.st.at (j := j) (by have := LM.out.st.le; omega)
                    have hf := LM.out.st.free (j)
                    have hg := LM.out.st.lt
                    go_wp2_with fail
                    go_roundw
                    case rel => exact ⟨j + 1, by omega, by go_num, LM.out.set LM.out.st (by decide) (by decide) (j) (.slice none 0 0), BM.out.setCell (p := ⟨gt, j, none⟩) (by have := LM.out.st.base; show _ ≤ gt; omega) _⟩
                    case measure => simp [intOf]; omega
                  have LL := LM
                  have BB := BM
                  clear LM BM dd dl
                  have dd := row_cell LL.out.r10 1
                  have dl : p10 < wr.heap.size := row_lt LL.out.r10
                  obtain rfl : j = 2 := by omega
                  obtain ⟨x5, hx5, o5⟩ := LL.out.s5.own
                  have O5 := hid o5
                  clear o5
                  have zz : B0 ≤ wr.heap.size := Nat.le_trans LL.out.s5.base (Nat.le_of_lt LL.out.s5.lt)
                  go_wp2_with (at_builtin; (refine wpList_appF rfl _ _ _ rfl _ 16 Try.underlying23 infoS rfl O5.out (.string ⟨#[120]⟩) (by first | omega | (simp <;> omega)) (by rfl) (by rfl) (by simp) rfl (by simp [valC, Value.oneCell']) (by omega) (by omega) ?_); refine Stop.halt ?_)
                  refine Stop.go ?_
                  intro h1g h1k wx h1 G1
                  have B7 := hid (BB.out.trans (G1.below (B := w.heap.size) (by omega) (by intro q hq; have h3 := LL.out.s5.base; simp only [Value.ownBlock, Option.some.injEq] at hq; omega)))
                  have S7 := hid (LL.out.ss.grw G1 (by have := Shape.ne LL.out.s5 LL.out.ss (by decide); simpa [Value.ownBlock] using this))
                  have zx : wr.heap.size ≤ wx.heap.size := G1.size
                  clear h1 G1 O5 BB LL dd dl
                  obtain ⟨x6, hx6, o6'⟩ := S7.out.own
                  have O6 := hid o6'
                  clear o6'
                  go_wp2_with (at_builtin; (refine wpList_appF rfl _ _ _ rfl _ 8 Try.underlying32 infoI rfl O6.out (.int .i64 1) (by first | omega | (simp <;> omega)) (by rfl) (by rfl) (by simp) rfl (by simp [valC, Value.oneCell']) (by omega) (by omega) ?_); refine Stop.halt ?_)
                  refine Stop.go ?_
                  intro h2g h2k wy h2 G2
                  have B8 := hid (B7.out.trans (G2.below (B := w.heap.size) (by omega) (by intro q hq; have h3 := S7.out.base; simp only [Value.ownBlock, Option.some.injEq] at hq; omega)))
                  clear h2 G2 O6 B7 S7
                  go_wp2_with fail
                  go_roundw
                  case rel => exact ⟨k + 1, by omega, by go_num, B8.out⟩
                  case measure => simp [intOf]; omega
    · obtain rfl : k = 2 := by omega
      clear hlt hk
      go_wp2_with fail
      refine (p_get _ _).mono ?_
      rw [hist3]
      intro e w2 h
      obtain ⟨a2, c2, a2', c2', rfl, o2, e2, b2⟩ := h.ex
      clear h
      have z2 := b2.size
      have HB := hid (HB.out.trans (b2.mono HB.out.size))
      have O2 := hid o2
      have E2 := hid e2
      clear b2 o2 e2
      go_wp2_with fail
      refine (r_get _ _).mono ?_
      rw [hist3]
      intro e w3 h
      obtain ⟨a3, c3, a3', c3', rfl, o3, e3, b3⟩ := h.ex
      clear h
      have z3 : w2.heap.size + 1 ≤ w3.heap.size := by have := b3.size; simpa using this
      have HB := hid ((HB.out.alloc HB.out.size _).trans (b3.mono (by have := HB.out.size; simp; omega)))
      have O2 := hid (OwnF.below (O2.out.alloc (.cells #[.slice a2 plainO.length c2, .slice a2' plainE.length c2'] 28)) b3)
      have E2 := hid (OwnF.below (E2.out.alloc (.cells #[.slice a2 plainO.length c2, .slice a2' plainE.length c2'] 28)) b3)
      have R2 := hid (row_below (row_new w2 (.cells #[.slice a2 plainO.length c2, .slice a2' plainE.length c2'] 28)) b3 (by first | omega | (simp <;> omega)))
      have O3 := hid o3
      have E3 := hid e3
      clear b3 o3 e3
      go_wp2_with fail
      refine (PW.out _).mono ?_
      intro e w4 h
      obtain ⟨a4, c4, a4', c4', rfl, o4, e4, b4⟩ := h.ex
      clear h
      have z4 : w3.heap.size + 1 ≤ w4.heap.size := by have := b4.size; simpa using this
      have HB := hid ((HB.out.alloc HB.out.size _).trans (b4.mono (by have := HB.out.size; simp; omega)))
      have O2 := hid (OwnF.below (O2.out.alloc (.cells #[.slice a3 plainO.length c3, .slice a3' plainE.length c3'] 28)) b4)
      have E2 := hid (OwnF.below (E2.out.alloc (.cells #[.slice a3 plainO.length c3, .slice a3' plainE.length c3'] 28)) b4)
      have R2 := hid (row_below (row_old R2.out) b4 (by first | omega | (simp <;> omega)))
      have O3 := hid (OwnF.below (O3.out.alloc (.cells #[.slice a3 plainO.length c3, .slice a3' plainE.length c3'] 28)) b4)
      have E3 := hid (OwnF.below (E3.out.alloc (.cells #[.slice a3 plainO.length c3, .slice a3' plainE.length c3'] 28)) b4)
      have R3 := hid (row_below (row_new w3 (.cells #[.slice a3 plainO.length c3, .slice a3' plainE.length c3'] 28)) b4 (by first | omega | (simp <;> omega)))
      have O4 := hid o4
      have E4 := hid e4
      clear b4 o4 e4
      go_wp2_with fail
      refine (RW.out _).mono ?_
      intro e w5 h
      obtain ⟨a5, c5, a5', c5', rfl, o5, e5, b5⟩ := h.ex
      clear h
      have z5 : w4.heap.size + 1 ≤ w5.heap.size := by have := b5.size; simpa using this
      have HB := hid ((HB.out.alloc HB.out.size _).trans (b5.mono (by have := HB.out.size; simp; omega)))
      have O2 := hid (OwnF.below (O2.out.alloc (.cells #[.slice a4 r'.1.length c4, .slice a4' r'.2.1.length c4'] 28)) b5)
      have E2 := hid (OwnF.below (E2.out.alloc (.cells #[.slice a4 r'.1.length c4, .slice a4' r'.2.1.length c4'] 28)) b5)
      have R2 := hid (row_below (row_old R2.out) b5 (by first | omega | (simp <;> omega)))
      have O3 := hid (OwnF.below (O3.out.alloc (.cells #[.slice a4 r'.1.length c4, .slice a4' r'.2.1.length c4'] 28)) b5)
      have E3 := hid (OwnF.below (E3.out.alloc (.cells #[.slice a4 r'.1.length c4, .slice a4' r'.2.1.length c4'] 28)) b5)
      have R3 := hid (row_below (row_old R3.out) b5 (by first | omega | (simp <;> omega)))
      have O4 := hid (OwnF.below (O4.out.alloc (.cells #[.slice a4 r'.1.length c4, .slice a4' r'.2.1.length c4'] 28)) b5)
      have E4 := hid (OwnF.below (E4.out.alloc (.cells #[.slice a4 r'.1.length c4, .slice a4' r'.2.1.length c4'] 28)) b5)
      have R4 := hid (row_below (row_new w4 (.cells #[.slice a4 r'.1.length c4, .slice a4' r'.2.1.length c4'] 28)) b5 (by first | omega | (simp <;> omega)))
      have O5 := hid o5
      have E5 := hid e5
      clear b5 o5 e5
      go_wp2_with fail
      refine (p_caught _).mono ?_
      intro e w6 h
      obtain ⟨a6, c6, a6', c6', s6, v6, rfl, o6, e6, f6, b6⟩ := h.ex
      clear h
      have z6 : w5.heap.size + 1 ≤ w6.heap.size := by have := b6.size; simpa using this
      have HB := hid ((HB.out.alloc HB.out.size _).trans (b6.mono (by have := HB.out.size; simp; omega)))
      have O2 := hid (OwnF.below (O2.out.alloc (.cells #[.slice a5 r'.1.length c5, .slice a5' r'.2.1.length c5'] 28)) b6)
      have E2 := hid (OwnF.below (E2.out.alloc (.cells #[.slice a5 r'.1.length c5, .slice a5' r'.2.1.length c5'] 28)) b6)
      have R2 := hid (row_below (row_old R2.out) b6 (by first | omega | (simp <;> omega)))
      have O3 := hid (OwnF.below (O3.out.alloc (.cells #[.slice a5 r'.1.length c5, .slice a5' r'.2.1.length c5'] 28)) b6)
      have E3 := hid (OwnF.below (E3.out.alloc (.cells #[.slice a5 r'.1.length c5, .slice a5' r'.2.1.length c5'] 28)) b6)
      have R3 := hid (row_below (row_old R3.out) b6 (by first | omega | (simp <;> omega)))
      have O4 := hid (OwnF.below (O4.out.alloc (.cells #[.slice a5 r'.1.length c5, .slice a5' r'.2.1.length c5'] 28)) b6)
      have E4 := hid (OwnF.below (E4.out.alloc (.cells #[.slice a5 r'.1.length c5, .slice a5' r'.2.1.length c5'] 28)) b6)
      have R4 := hid (row_below (row_old R4.out) b6 (by first | omega | (simp <;> omega)))
      have O5 := hid (OwnF.below (O5.out.alloc (.cells #[.slice a5 r'.1.length c5, .slice a5' r'.2.1.length c5'] 28)) b6)
      have E5 := hid (OwnF.below (E5.out.alloc (.cells #[.slice a5 r'.1.length c5, .slice a5' r'.2.1.length c5'] 28)) b6)
      have R5 := hid (row_below (row_new w5 (.cells #[.slice a5 r'.1.length c5, .slice a5' r'.2.1.length c5'] 28)) b6 (by first | omega | (simp <;> omega)))
      have O6 := hid o6
      have T6 := hid e6
      have E6 := hid f6
      clear b6 o6 e6 f6
      go_wp2_with fail
      refine (r_caught _).mono ?_
      intro e w7 h
      obtain ⟨a7, c7, a7', c7', s7, v7, rfl, o7, e7, f7, b7⟩ := h.ex
      clear h
      have z7 : w6.heap.size + 1 ≤ w7.heap.size := by have := b7.size; simpa using this
      have HB := hid ((HB.out.alloc HB.out.size _).trans (b7.mono (by have := HB.out.size; simp; omega)))
      have O2 := hid (OwnF.below (O2.out.alloc (.cells #[.slice a6 2 c6, .slice a6' 2 c6'] 35)) b7)
      have E2 := hid (OwnF.below (E2.out.alloc (.cells #[.slice a6 2 c6, .slice a6' 2 c6'] 35)) b7)
      have R2 := hid (row_below (row_old R2.out) b7 (by first | omega | (simp <;> omega)))
      have O3 := hid (OwnF.below (O3.out.alloc (.cells #[.slice a6 2 c6, .slice a6' 2 c6'] 35)) b7)
      have E3 := hid (OwnF.below (E3.out.alloc (.cells #[.slice a6 2 c6, .slice a6' 2 c6'] 35)) b7)
      have R3 := hid (row_below (row_old R3.out) b7 (by first | omega | (simp <;> omega)))
      have O4 := hid (OwnF.below (O4.out.alloc (.cells #[.slice a6 2 c6, .slice a6' 2 c6'] 35)) b7)
      have E4 := hid (OwnF.below (E4.out.alloc (.cells #[.slice a6 2 c6, .slice a6' 2 c6'] 35)) b7)
      have R4 := hid (row_below (row_old R4.out) b7 (by first | omega | (simp <;> omega)))
      have O5 := hid (OwnF.below (O5.out.alloc (.cells #[.slice a6 2 c6, .slice a6' 2 c6'] 35)) b7)
      have E5 := hid (OwnF.below (E5.out.alloc (.cells #[.slice a6 2 c6, .slice a6' 2 c6'] 35)) b7)
      have R5 := hid (row_below (row_old R5.out) b7 (by first | omega | (simp <;> omega)))
      have O6 := hid (OwnF.below (O6.out.alloc (.cells #[.slice a6 2 c6, .slice a6' 2 c6'] 35)) b7)
      have T6 := hid ((T6.out.below ((Below.refl _ _).alloc (Nat.le_refl _) (.cells #[.slice a6 2 c6, .slice a6' 2 c6'] 35))).below (b7.mono (by first | omega | (simp <;> omega))))
      have E6 := hid (OwnF.below (E6.out.alloc (.cells #[.slice a6 2 c6, .slice a6' 2 c6'] 35)) b7)
      have R6 := hid (row_below (row_new w6 (.cells #[.slice a6 2 c6, .slice a6' 2 c6'] 35)) b7 (by first | omega | (simp <;> omega)))
      have O7 := hid o7
      have T7 := hid e7
      have E7 := hid f7
      clear b7 o7 e7 f7
      have d20 := row_cell R2.out 0
      have d21 := row_cell R2.out 1
      have l2 : w2.heap.size < w7.heap.size := row_lt R2.out
      have d30 := row_cell R3.out 0
      have d31 := row_cell R3.out 1
      have l3 : w3.heap.size < w7.heap.size := row_lt R3.out
      go_wp2_with fail
      clear d20 d21 d30 d31
      have R7 := hid (row_new w7 (.cells #[.slice a7 2 c7, .slice a7' 2 c7'] 35))
      have O2 := hid (O2.out.alloc (.cells #[.slice a7 2 c7, .slice a7' 2 c7'] 35))
      have E2 := hid (E2.out.alloc (.cells #[.slice a7 2 c7, .slice a7' 2 c7'] 35))
      have R2 := hid (row_old (o := (.cells #[.slice a7 2 c7, .slice a7' 2 c7'] 35)) R2.out)
      have O3 := hid (O3.out.alloc (.cells #[.slice a7 2 c7, .slice a7' 2 c7'] 35))
      have E3 := hid (E3.out.alloc (.cells #[.slice a7 2 c7, .slice a7' 2 c7'] 35))
      have R3 := hid (row_old (o := (.cells #[.slice a7 2 c7, .slice a7' 2 c7'] 35)) R3.out)
      have O4 := hid (O4.out.alloc (.cells #[.slice a7 2 c7, .slice a7' 2 c7'] 35))
      have E4 := hid (E4.out.alloc (.cells #[.slice a7 2 c7, .slice a7' 2 c7'] 35))
      have R4 := hid (row_old (o := (.cells #[.slice a7 2 c7, .slice a7' 2 c7'] 35)) R4.out)
      have O5 := hid (O5.out.alloc (.cells #[.slice a7 2 c7, .slice a7' 2 c7'] 35))
      have E5 := hid (E5.out.alloc (.cells #[.slice a7 2 c7, .slice a7' 2 c7'] 35))
      have R5 := hid (row_old (o := (.cells #[.slice a7 2 c7, .slice a7' 2 c7'] 35)) R5.out)
      have O6 := hid (O6.out.alloc (.cells #[.slice a7 2 c7, .slice a7' 2 c7'] 35))
      have T6 := hid (T6.out.below ((Below.refl _ _).alloc (by first | omega | (simp <;> omega)) (.cells #[.slice a7 2 c7, .slice a7' 2 c7'] 35)))
      have E6 := hid (E6.out.alloc (.cells #[.slice a7 2 c7, .slice a7' 2 c7'] 35))
      have R6 := hid (row_old (o := (.cells #[.slice a7 2 c7, .slice a7' 2 c7'] 35)) R6.out)
      have O7 := hid (O7.out.alloc (.cells #[.slice a7 2 c7, .slice a7' 2 c7'] 35))
      have T7 := hid (T7.out.below ((Below.refl _ _).alloc (by first | omega | (simp <;> omega)) (.cells #[.slice a7 2 c7, .slice a7' 2 c7'] 35)))
      have E7 := hid (E7.out.alloc (.cells #[.slice a7 2 c7, .slice a7' 2 c7'] 35))
      have HB := hid (HB.out.alloc HB.out.size (.cells #[.slice a7 2 c7, .slice a7' 2 c7'] 35))
      have z8 : w7.heap.size + 1 ≤ (w7.alloc (.cells #[.slice a7 2 c7, .slice a7' 2 c7'] 35)).heap.size := by simp
      have T6 := hid (T6.out.more (B' := (w7.alloc (.cells #[.slice a7 2 c7, .slice a7' 2 c7'] 35)).heap.size) (by first | omega | (simp <;> omega)))
      have T7 := hid (T7.out.more (B' := (w7.alloc (.cells #[.slice a7 2 c7, .slice a7' 2 c7'] 35)).heap.size) (by first | omega | (simp <;> omega)))
      generalize w7.alloc (.cells #[.slice a7 2 c7, .slice a7' 2 c7'] 35) = w8 at *
      refine (sameHistory_eq _ _ _ _ plainO plainE _ O2.out.sl O3.out.sl E2.out.sl E3.out.sl).mono ?_
      rintro e w9 ⟨rfl, b9⟩
      have HB := hid (HB.out.trans (b9.mono HB.out.size))
      have z9 := b9.size
      have O2 := hid (OwnF.below O2.out b9)
      have E2 := hid (OwnF.below E2.out b9)
      have R2 := hid (row_below R2.out b9 (by first | omega | (simp <;> omega)))
      have O3 := hid (OwnF.below O3.out b9)
      have E3 := hid (OwnF.below E3.out b9)
      have R3 := hid (row_below R3.out b9 (by first | omega | (simp <;> omega)))
      have O4 := hid (OwnF.below O4.out b9)
      have E4 := hid (OwnF.below E4.out b9)
      have R4 := hid (row_below R4.out b9 (by first | omega | (simp <;> omega)))
      have O5 := hid (OwnF.below O5.out b9)
      have E5 := hid (OwnF.below E5.out b9)
      have R5 := hid (row_below R5.out b9 (by first | omega | (simp <;> omega)))
      have O6 := hid (OwnF.below O6.out b9)
      have T6 := hid ((T6.out.below b9).more z9)
      have E6 := hid (OwnF.below E6.out b9)
      have R6 := hid (row_below R6.out b9 (by first | omega | (simp <;> omega)))
      have O7 := hid (OwnF.below O7.out b9)
      have T7 := hid ((T7.out.below b9).more z9)
      have E7 := hid (OwnF.below E7.out b9)
      have R7 := hid (row_below R7.out b9 (by first | omega | (simp <;> omega)))
      clear b9 
      clear O2 O3 E2 E3 R2 R3
      have d40 := row_cell R4.out 0
      have d41 := row_cell R4.out 1
      have l4 : w4.heap.size < w9.heap.size := row_lt R4.out
      have d50 := row_cell R5.out 0
      have d51 := row_cell R5.out 1
      have l5 : w5.heap.size < w9.heap.size := row_lt R5.out
      go_wp2_with fail
      refine (sameHistory_eq _ _ _ _ r'.1 r'.2.1 _ O4.out.sl O5.out.sl E4.out.sl E5.out.sl).mono ?_
      rintro e w10 ⟨rfl, b10⟩
      have HB := hid (HB.out.trans (b10.mono HB.out.size))
      have z10 := b10.size
      have O4 := hid (OwnF.below O4.out b10)
      have E4 := hid (OwnF.below E4.out b10)
      have R4 := hid (row_below R4.out b10 (by first | omega | (simp <;> omega)))
      have O5 := hid (OwnF.below O5.out b10)
      have E5 := hid (OwnF.below E5.out b10)
      have R5 := hid (row_below R5.out b10 (by first | omega | (simp <;> omega)))
      have O6 := hid (OwnF.below O6.out b10)
      have T6 := hid ((T6.out.below b10).more z10)
      have E6 := hid (OwnF.below E6.out b10)
      have R6 := hid (row_below R6.out b10 (by first | omega | (simp <;> omega)))
      have O7 := hid (OwnF.below O7.out b10)
      have T7 := hid ((T7.out.below b10).more z10)
      have E7 := hid (OwnF.below E7.out b10)
      have R7 := hid (row_below R7.out b10 (by first | omega | (simp <;> omega)))
      clear b10 d40 d41 d50 d51
      clear O4 O5 E4 E5 R4 R5
      have d60 := row_cell R6.out 0
      have d61 := row_cell R6.out 1
      have l6 : w6.heap.size < w10.heap.size := row_lt R6.out
      have d70 := row_cell R7.out 0
      have d71 := row_cell R7.out 1
      have l7 : w7.heap.size < w10.heap.size := row_lt R7.out
      go_wp2_with fail
      refine (sameProgram_eq _ _ _ _ [0, 0] caughtT _ (by have h := O6.out.sl; rw [flat_int] at h; exact h) (by have h := O7.out.sl; rw [flat_int] at h; exact h) T6.out T7.out).mono ?_
      rintro e w11 ⟨rfl, b11⟩
      have HB := hid (HB.out.trans (b11.mono HB.out.size))
      have z11 := b11.size
      have O6 := hid (OwnF.below O6.out b11)
      have T6 := hid ((T6.out.below b11).more z11)
      have E6 := hid (OwnF.below E6.out b11)
      have R6 := hid (row_below R6.out b11 (by first | omega | (simp <;> omega)))
      have O7 := hid (OwnF.below O7.out b11)
      have T7 := hid ((T7.out.below b11).more z11)
      have E7 := hid (OwnF.below E7.out b11)
      have R7 := hid (row_below R7.out b11 (by first | omega | (simp <;> omega)))
      clear b11 d60 d61 d70 d71
      clear O6 O7 T6 T7 R6 R7
      go_wp2_with fail
      refine (sameInts_eq _ _ caughtS 13 _ (by have h := E6.out.sl; rw [flat_int] at h; exact h) (by have h := E7.out.sl; rw [flat_int] at h; exact h)).mono ?_
      rintro e w12 ⟨rfl, b12⟩
      have HB := hid (HB.out.trans (b12.mono HB.out.size))
      have z12 := b12.size
      have E6 := hid (OwnF.below E6.out b12)
      have E7 := hid (OwnF.below E7.out b12)
      clear b12 
      clear E6 E7
      go_wp2_with fail
      refine (p_names _).mono ?_
      intro e w13 h
      obtain ⟨g9, k9, rfl, N9, -, -, b9⟩ := h.parts (by decide)
      clear h
      have HB := hid (HB.out.trans (b9.mono HB.out.size))
      have H9 := hid N9
      clear b9 N9
      go_wp2_with fail
      refine (r_names _).mono ?_
      intro e w14 h
      obtain ⟨g10, k10, rfl, N10, -, -, b10⟩ := h.parts (by decide)
      clear h
      have HB := hid (HB.out.trans (b10.mono HB.out.size))
      have H10 := hid N10
      have H9 := hid (OwnF.below H9.out b10)
      clear b10 N10
      go_wp2_with fail
      refine (sameTexts_eq _ _ nameL 4 _ (by have h := H9.out.sl; rw [flat_str] at h; exact h) (by have h := H10.out.sl; rw [flat_str] at h; exact h)).mono ?_
      rintro e w15 ⟨rfl, b11⟩
      have HB := hid (HB.out.trans (b11.mono HB.out.size))
      clear b11
      go_wp2
      go_ret
      exact ⟨rfl, HB.out⟩
end Go.Proofs.Ytcombolmacokbaa
