/- The program's samples, event by event. Conditions: those of each theorem, as typed. -/
import Derived.Test.YtcombolmacokbaaMaker
namespace Go.Proofs.Ytcombolmacokbaa
open Go.RowKit
theorem Mk.alloc {w : World} {bm : Nat} {ov : Value} {es : List Ev} (h : Mk w bm ov es) (o : Obj) : Mk (w.alloc o) bm ov es := let ⟨ev, h1, h2⟩ := h; ⟨ev, row_old h1, h2.alloc _⟩
theorem Mk.lt {w : World} {bm : Nat} {ov : Value} {es : List Ev} (h : Mk w bm ov es) : bm < w.heap.size := let ⟨_, h1, _⟩ := h; row_lt h1

theorem p_stale (bm : Nat) (ov : Value) (w : World) (h0 : Mk w bm ov []) : Calls Try.prog 43 #[.pointer (some ⟨bm, 0, none⟩)] w (RetM bm w ov staleE) := by
  go_enter Try.func43, Try.ntmps43
  go_wp2_with fail
  refine (m_begin bm ov _ 1 0 _ h0 (by simp)).mono ?_
  rintro e w1 ⟨rfl, h1, B1, T1⟩
  go_wp2_with fail
  refine (m_write bm ov _ 1 0 1 _ h1 (by simp)).mono ?_
  rintro e w2 ⟨rfl, h2, b2, t2⟩
  have B2 := B1.trans b2
  have T2 := T1.trans t2
  go_wp2_with fail
  refine (m_commit bm ov _ 1 _ h2 (by simp)).mono ?_
  rintro e w3 ⟨rfl, h3, b3, t3⟩
  have B3 := B2.trans b3
  have T3 := T2.trans t3
  go_wp2_with fail
  refine (m_begin bm ov _ 2 1 _ h3 (by simp)).mono ?_
  rintro e w4 ⟨rfl, h4, b4, t4⟩
  have B4 := B3.trans b4
  have T4 := T3.trans t4
  go_wp2_with fail
  refine (m_read bm ov _ 2 0 0 _ h4 (by simp)).mono ?_
  rintro e w5 ⟨rfl, h5, b5, t5⟩
  have B5 := B4.trans b5
  have T5 := T4.trans t5
  go_wp2_with fail
  refine (m_commit bm ov _ 2 _ h5 (by simp)).mono ?_
  rintro e w6 ⟨rfl, h6, b6, t6⟩
  have B6 := B5.trans b6
  have T6 := T5.trans t6
  go_wp2
  go_end0
  exact ⟨rfl, h6, B6, T6⟩

theorem p_torn (bm : Nat) (ov : Value) (w : World) (h0 : Mk w bm ov []) : Calls Try.prog 44 #[.pointer (some ⟨bm, 0, none⟩)] w (RetM bm w ov tornE) := by
  go_enter Try.func44, Try.ntmps44
  go_wp2_with fail
  refine (m_begin bm ov _ 2 1 _ h0 (by simp)).mono ?_
  rintro e w1 ⟨rfl, h1, B1, T1⟩
  go_wp2_with fail
  refine (m_read bm ov _ 2 0 0 _ h1 (by simp)).mono ?_
  rintro e w2 ⟨rfl, h2, b2, t2⟩
  have B2 := B1.trans b2
  have T2 := T1.trans t2
  go_wp2_with fail
  refine (m_begin bm ov _ 1 0 _ h2 (by simp)).mono ?_
  rintro e w3 ⟨rfl, h3, b3, t3⟩
  have B3 := B2.trans b3
  have T3 := T2.trans t3
  go_wp2_with fail
  refine (m_write bm ov _ 1 0 1 _ h3 (by simp)).mono ?_
  rintro e w4 ⟨rfl, h4, b4, t4⟩
  have B4 := B3.trans b4
  have T4 := T3.trans t4
  go_wp2_with fail
  refine (m_write bm ov _ 1 1 1 _ h4 (by simp)).mono ?_
  rintro e w5 ⟨rfl, h5, b5, t5⟩
  have B5 := B4.trans b5
  have T5 := T4.trans t5
  go_wp2_with fail
  refine (m_commit bm ov _ 1 _ h5 (by simp)).mono ?_
  rintro e w6 ⟨rfl, h6, b6, t6⟩
  have B6 := B5.trans b6
  have T6 := T5.trans t6
  go_wp2_with fail
  refine (m_read bm ov _ 2 1 1 _ h6 (by simp)).mono ?_
  rintro e w7 ⟨rfl, h7, b7, t7⟩
  have B7 := B6.trans b7
  have T7 := T6.trans t7
  go_wp2_with fail
  have hlt := h7.lt
  refine (m_plainly bm w7.heap.size ov _ 2 [7, 6] 2 3 _ (row_new w7 _) (by decide) (by omega) rfl (h7.alloc _) (by simp)).mono ?_
  rintro e w8 ⟨rfl, h8, b8, t8⟩
  have T8 := T7.trans (fun k c t fz hk ht hne => t8 k c t fz (row_old hk) ht hne)
  have B8 := B7.trans (((Below.refl bm w7).alloc (by omega) (.cells ([7, 6].flatMap intV).toArray 3)).trans b8)
  go_wp2
  go_end0
  exact ⟨rfl, h8, B8, T8⟩

theorem p_early (bm : Nat) (ov : Value) (w : World) (h0 : Mk w bm ov []) : Calls Try.prog 46 #[.pointer (some ⟨bm, 0, none⟩)] w (RetM bm w ov earlyE) := by
  go_enter Try.func46, Try.ntmps46
  go_wp2_with fail
  refine (m_begin bm ov _ 1 0 _ h0 (by simp)).mono ?_
  rintro e w1 ⟨rfl, h1, B1, T1⟩
  go_wp2_with fail
  refine (m_write bm ov _ 1 0 1 _ h1 (by simp)).mono ?_
  rintro e w2 ⟨rfl, h2, b2, t2⟩
  have B2 := B1.trans b2
  have T2 := T1.trans t2
  go_wp2_with fail
  refine (m_begin bm ov _ 2 1 _ h2 (by simp)).mono ?_
  rintro e w3 ⟨rfl, h3, b3, t3⟩
  have B3 := B2.trans b3
  have T3 := T2.trans t3
  go_wp2_with fail
  refine (m_read bm ov _ 2 0 1 _ h3 (by simp)).mono ?_
  rintro e w4 ⟨rfl, h4, b4, t4⟩
  have B4 := B3.trans b4
  have T4 := T3.trans t4
  go_wp2_with fail
  refine (m_commit bm ov _ 1 _ h4 (by simp)).mono ?_
  rintro e w5 ⟨rfl, h5, b5, t5⟩
  have B5 := B4.trans b5
  have T5 := T4.trans t5
  go_wp2_with fail
  refine (m_commit bm ov _ 2 _ h5 (by simp)).mono ?_
  rintro e w6 ⟨rfl, h6, b6, t6⟩
  have B6 := B5.trans b6
  have T6 := T5.trans t6
  go_wp2
  go_end0
  exact ⟨rfl, h6, B6, T6⟩

theorem p_plain (bm : Nat) (ov : Value) (w : World) (h0 : Mk w bm ov []) : Calls Try.prog 47 #[.pointer (some ⟨bm, 0, none⟩)] w (RetM bm w ov plainE) := by
  go_enter Try.func47, Try.ntmps47
  go_wp2_with fail
  refine (m_begin bm ov _ 1 0 _ h0 (by simp)).mono ?_
  rintro e w1 ⟨rfl, h1, B1, T1⟩
  go_wp2_with fail
  refine (m_read bm ov _ 1 0 5 _ h1 (by simp)).mono ?_
  rintro e w2 ⟨rfl, h2, b2, t2⟩
  have B2 := B1.trans b2
  have T2 := T1.trans t2
  go_wp2_with fail
  refine (m_call bm ov _ 1 1 3 0 2 1 0 _ h2 (by simp)).mono ?_
  rintro e w3 ⟨rfl, h3, b3, t3⟩
  have B3 := B2.trans b3
  have T3 := T2.trans t3
  go_wp2_with fail
  refine (m_call bm ov _ 1 2 5 0 7 1 0 _ h3 (by simp)).mono ?_
  rintro e w4 ⟨rfl, h4, b4, t4⟩
  have B4 := B3.trans b4
  have T4 := T3.trans t4
  go_wp2_with fail
  refine (m_call bm ov _ 1 3 7 1 3 1 0 _ h4 (by simp)).mono ?_
  rintro e w5 ⟨rfl, h5, b5, t5⟩
  have B5 := B4.trans b5
  have T5 := T4.trans t5
  go_wp2_with fail
  refine (m_commit bm ov _ 1 _ h5 (by simp)).mono ?_
  rintro e w6 ⟨rfl, h6, b6, t6⟩
  have B6 := B5.trans b6
  have T6 := T5.trans t6
  go_wp2_with fail
  refine (m_begin bm ov _ 2 1 _ h6 (by simp)).mono ?_
  rintro e w7 ⟨rfl, h7, b7, t7⟩
  have B7 := B6.trans b7
  have T7 := T6.trans t7
  go_wp2_with fail
  refine (m_read bm ov _ 2 0 5 _ h7 (by simp)).mono ?_
  rintro e w8 ⟨rfl, h8, b8, t8⟩
  have B8 := B7.trans b8
  have T8 := T7.trans t8
  go_wp2_with fail
  refine (m_call bm ov _ 2 1 4 0 0 3 2 _ h8 (by simp)).mono ?_
  rintro e w9 ⟨rfl, h9, b9, t9⟩
  have B9 := B8.trans b9
  have T9 := T8.trans t9
  go_wp2_with fail
  refine (m_call bm ov _ 2 2 6 0 0 3 7 _ h9 (by simp)).mono ?_
  rintro e w10 ⟨rfl, h10, b10, t10⟩
  have B10 := B9.trans b10
  have T10 := T9.trans t10
  go_wp2_with fail
  refine (m_call bm ov _ 2 2 6 0 0 2 0 _ h10 (by simp)).mono ?_
  rintro e w11 ⟨rfl, h11, b11, t11⟩
  have B11 := B10.trans b11
  have T11 := T10.trans t11
  go_wp2_with fail
  refine (m_call bm ov _ 2 3 8 1 0 3 3 _ h11 (by simp)).mono ?_
  rintro e w12 ⟨rfl, h12, b12, t12⟩
  have B12 := B11.trans b12
  have T12 := T11.trans t12
  go_wp2_with fail
  refine (m_call bm ov _ 2 3 9 1 0 3 3 _ h12 (by simp)).mono ?_
  rintro e w13 ⟨rfl, h13, b13, t13⟩
  have B13 := B12.trans b13
  have T13 := T12.trans t13
  go_wp2_with fail
  have hlt := h13.lt
  refine (m_plainly bm w13.heap.size ov _ 2 [4] 1 3 _ (row_new w13 _) (by decide) (by omega) rfl (h13.alloc _) (by simp)).mono ?_
  rintro e w14 ⟨rfl, h14, b14, t14⟩
  have T14 := T13.trans (fun k c t fz hk ht hne => t14 k c t fz (row_old hk) ht hne)
  have B14 := B13.trans (((Below.refl bm w13).alloc (by omega) (.cells ([4].flatMap intV).toArray 3)).trans b14)
  go_wp2
  go_end0
  exact ⟨rfl, h14, B14, T14⟩

set_option maxHeartbeats 400000 in
theorem p_wideF (n : Nat) (hn : n ≤ 13) (bn bm : Nat) (ov : Value) (w : World) (h0 : Mk w bm ov []) (hc : w.cell? ⟨bn, 0, none⟩ = some (.int .i64 n)) (hbn : bn < bm) :
    Calls Try.prog 23 #[.pointer (some ⟨bm, 0, none⟩), .pointer (some ⟨bn, 0, none⟩)] w (RetM bm w ov (wideE n)) := by
  go_enter Try.func23, Try.ntmps23
  go_wp2
  go_loopw [3] (fun i wr => ∃ k : Nat, k ≤ n ∧ i = .int .i64 ((k : Int) + 1) ∧ Mk wr bm ov (wideE k) ∧ Below bm w wr ∧ KeepT bm w wr) (fun i _ => n + 1 - (intOf i).toNat)
  case atStart => exact ⟨0, by omega, by go_num, h0, Below.refl _ _, KeepT.refl _ _⟩
  case round =>
    obtain ⟨k, hk, rfl, hm, hB, hT⟩ := hrel
    have hw := wideE_length k
    have HW := hid hw
    clear hw
    have hc1 := cell_below hB hbn hc
    by_cases hlt : k < n
    · go_wp2_with fail
      refine (m_begin bm ov _ _ 0 _ hm (by rw [HW.out]; omega)).mono ?_
      rintro e w1 ⟨rfl, h1, b1, t1⟩
      go_wp2_with fail
      refine (m_read bm ov _ _ 0 _ _ h1 (by simp [HW.out]; omega)).mono ?_
      rintro e w2 ⟨rfl, h2, b2, t2⟩
      go_wp2_with fail
      refine (m_write bm ov _ _ 0 _ _ h2 (by simp [HW.out]; omega)).mono ?_
      rintro e w3 ⟨rfl, h3, b3, t3⟩
      go_wp2_with fail
      refine (m_commit bm ov _ _ _ h3 (by simp [HW.out]; omega)).mono ?_
      rintro e w4 ⟨rfl, h4, b4, t4⟩
      have B4 := hB.trans (b1.trans (b2.trans (b3.trans b4)))
      have T4 := hT.trans (t1.trans (t2.trans (t3.trans t4)))
      clear h1 h2 h3 b1 b2 b3 b4 t1 t2 t3 t4 hm hB hT hc1
      go_wp2
      go_roundw
      case rel => exact ⟨k + 1, by omega, by go_num, by simpa [wideE, evsI] using h4, B4, T4⟩
      case measure => simp [intOf]; omega
    · go_wp2
      go_end0
      obtain rfl : k = n := by omega
      exact ⟨rfl, hm, hB, hT⟩
end Go.Proofs.Ytcombolmacokbaa
