/- The maker of histories: what each of its methods leaves. Conditions: those of each theorem, as typed. -/
import Derived.Test.YtcombolmacokbaaGet22
namespace Go.Proofs.Ytcombolmacokbaa
open Go.RowKit

/-- Block bm holds a maker: its objects, and the events up to now, in memory behind it. -/
def Mk (w : World) (bm : Nat) (ov : Value) (es : List Ev) : Prop := ∃ ev, w.heap[bm]? = some (.cells #[ov, ev] 79 (0, 0)) ∧ OwnE w (bm + 1) ev es
def intV (n : Int) : List Value := [.int .i64 n]
theorem flat_intV (l : List Int) : l.flatMap intV = l.map (.int .i64) := by induction l with | nil => rfl | cons x l ih => simp [intV, ih]
/-- Rows of other things than events lie as they lay. -/
def KeepT (bm : Nat) (w w' : World) : Prop := ∀ (k : Nat) (c : Array Value) (t : TypeId) (fz : Nat × Nat), w.heap[k]? = some (.cells c t fz) → t ≠ 39 → k ≠ bm → w'.heap[k]? = some (.cells c t fz)
theorem KeepT.trans {bm : Nat} {a b c : World} (h : KeepT bm a b) (k : KeepT bm b c) : KeepT bm a c := fun i x t fz h1 h2 h3 => k i x t fz (h i x t fz h1 h2 h3) h2 h3
theorem KeepT.refl (bm : Nat) (w : World) : KeepT bm w w := fun _ _ _ _ h _ _ => h
theorem own_type {w : World} {B : Nat} {v : Value} {es : List Ev} (h : OwnE w B v es) {g : Nat} (hg : v.ownBlock = some g) : ∃ cur, w.heap[g]? = some (.cells cur 39 (0, 0)) := by
  obtain ⟨_, h2⟩ := h
  rcases h2 with ⟨rfl, _⟩ | ⟨g', cap, cur, rfl, _, hh, _⟩
  · simp [Value.ownBlock] at hg
  · simp only [Value.ownBlock, Option.some.injEq] at hg
    subst hg
    exact ⟨cur, hh⟩
def RetM (bm : Nat) (w : World) (ov : Value) (es : List Ev) (e : Ending) (w' : World) : Prop := e = .returned (.tuple #[]) ∧ Mk w' bm ov es ∧ Below bm w w' ∧ KeepT bm w w'

set_option maxHeartbeats 400000 in
theorem m_event (bm : Nat) (ov : Value) (es : List Ev) (a b c d e f g h : Int) (w : World) (hm : Mk w bm ov es) (hn : es.length ≤ 1000) :
    Calls Try.prog 50 #[.pointer (some ⟨bm, 0, none⟩), .agg #[.int .i64 a, .int .i64 b, .int .i64 c, .int .i64 d, .int .i64 e, .int .i64 f, .int .i64 g, .int .i64 h]] w (RetM bm w ov (es ++ [⟨a, b, c, d, e, f, g, h⟩])) := by
  obtain ⟨ev, hr, hown⟩ := hm
  have hlt := row_lt hr
  have h0 := row_cell (row_old (o := .cells #[.int .i64 a, .int .i64 b, .int .i64 c, .int .i64 d, .int .i64 e, .int .i64 f, .int .i64 g, .int .i64 h] 39) hr) 1
  obtain ⟨a1, k1, n1, e1⟩ : ∃ a c n, ev = .slice a n c := by
    rcases hown.form with ⟨e, _⟩ | ⟨g, c, e, _⟩ <;> exact ⟨_, _, _, e⟩
  subst e1
  have HR := hid hr
  clear hr
  go_enter Try.func50, Try.ntmps50
  go_wp2
  refine wp_region_x [0, 0, 0, 0, 0, 1, 1, 3, 2, 0, 0, 0, 2] [0, 1, 2, 3, 4, 5, 6, 7, 8, 9, 10, 11, 12] (by kernel_rfl) (by kernel_rfl) rfl (by kernel_rfl) ?_
  simp only [selX, guardAt, List.getElem?_cons_zero, List.getElem?_cons_succ, List.getD_cons_zero, List.getD_cons_succ]
  repeat (first
    | (refine wpL_p (fun K hK => ?_); go_simp; refine hK _ _ ?_; clear hK K)
    | (refine wpL_r (fun K hK => ?_); apply Exists.intro; refine ⟨fun w2 hw2 => ?_, hK _ _ ?_⟩; (have hk1 := hw2.cell; have hk3 := hw2.heap; clear hw2; go_simp; with_reducible rfl); clear hK K; simp only [Act.put, List.setIfInBounds_toArray, List.set_cons_zero, List.set_cons_succ])
    | (refine wpL_yes rfl rfl ?_)
    | (refine wpL_no rfl rfl (fun K hK => ?_); simp only [Act.put, List.setIfInBounds_toArray, List.set_cons_zero, List.set_cons_succ]; refine hK _ _ ?_; clear hK K)
    | (refine wpL_nil ?_))
  refine wpL_k (fun K hK => ?_)
  go_simp
  refine hK _ _ (Keeps.alloc _ _) ?_
  clear hK K
  refine wpL_e (fun K hK => ?_)
  rw [drew_alloc]
  have hge := (hown.lt)
  refine wp_appF _ _ _ rfl _ 64 Try.underlying26 infoE rfl (hown.alloc _).drew ⟨a, b, c, d, e, f, g, h⟩ (by first | omega | (simp <;> omega)) (by rfl) (by rfl) (by first | rfl | simp) rfl (ev_one _) (by first | omega | (simp only [List.length_append, List.length_cons, List.length_nil, List.length_replicate]; omega)) (by first | omega | (simp only [List.length_append, List.length_cons, List.length_nil, List.length_replicate]; omega)) ?_
  intro g1 k2 w1 h1 G1
  have hr1 := row_grw (row_drew (row_old HR.out)) G1 (fun e => by have := (hge _ e).1; omega)
  have hB1 : Below bm w w1 := ((Below.refl bm w).alloc (by omega) _).drew.trans (G1.below (by simp; omega) (fun k hk => by have := (hge _ hk).1; omega))
  have hK1 : KeepT bm w w1 := fun k c t fz hk ht _ => row_grw (row_drew (row_old hk)) G1 (fun hb => by
    obtain ⟨cur, hc⟩ := own_type hown hb
    rw [hk] at hc
    simp only [Option.some.injEq, Obj.cells.injEq] at hc
    exact ht hc.2.1)
  have HK1 := hid hK1
  clear hK1
  have c1 := row_cell hr1 1
  have f1 := row_free hr1 1
  have HR1 := hid hr1
  have HB1 := hid hB1
  have HH1 := hid h1
  clear HR hr1 hB1 h1 G1 h0 hown hge
  refine hK _ _ ?_
  clear hK K
  repeat (first
    | (refine wpL_p (fun K hK => ?_); go_simp; refine hK _ _ ?_; clear hK K)
    | (refine wpL_r (fun K hK => ?_); apply Exists.intro; refine ⟨fun w2 hw2 => ?_, hK _ _ ?_⟩; (have hk1 := hw2.cell; have hk3 := hw2.heap; clear hw2; go_simp; with_reducible rfl); clear hK K; simp only [Act.put, List.setIfInBounds_toArray, List.set_cons_zero, List.set_cons_succ])
    | (refine wpL_yes rfl rfl ?_)
    | (refine wpL_no rfl rfl (fun K hK => ?_); simp only [Act.put, List.setIfInBounds_toArray, List.set_cons_zero, List.set_cons_succ]; refine hK _ _ ?_; clear hK K)
    | (refine wpL_nil ?_))
  refine wpL_e (fun K hK => ?_)
  go_simp
  refine hK _ _ ?_
  clear hK K
  repeat (first
    | (refine wpL_p (fun K hK => ?_); go_simp; refine hK _ _ ?_; clear hK K)
    | (refine wpL_r (fun K hK => ?_); apply Exists.intro; refine ⟨fun w2 hw2 => ?_, hK _ _ ?_⟩; (have hk1 := hw2.cell; have hk3 := hw2.heap; clear hw2; go_simp; with_reducible rfl); clear hK K; simp only [Act.put, List.setIfInBounds_toArray, List.set_cons_zero, List.set_cons_succ])
    | (refine wpL_yes rfl rfl ?_)
    | (refine wpL_no rfl rfl (fun K hK => ?_); simp only [Act.put, List.setIfInBounds_toArray, List.set_cons_zero, List.set_cons_succ]; refine hK _ _ ?_; clear hK K)
    | (refine wpL_nil ?_))
  go_wp2
  go_end0
  exact ⟨rfl, ⟨_, row_set HR1.out 1 _, HH1.out.set (by omega)⟩, HB1.out.setCell (p := ⟨bm, 1, none⟩) (Nat.le_refl _) _, fun k c t fz hk ht hne => row_other (HK1.out k c t fz hk ht hne) (fun e => hne e.symm)⟩

theorem m_begin (bm : Nat) (ov : Value) (es : List Ev) (tx th : Int) (w : World) (hm : Mk w bm ov es) (hn : es.length ≤ 900) :
    Calls Try.prog 24 #[.pointer (some ⟨bm, 0, none⟩), .int .i64 tx, .int .i64 th] w (RetM bm w ov (es ++ [⟨1, tx, th, 0, 0, 0, 0, 0⟩])) := by
  go_enter Try.func24, Try.ntmps24
  go_wp2_with fail
  refine (m_event bm ov es 1 tx th 0 0 0 0 0 _ hm (by omega)).mono ?_
  rintro e w1 ⟨rfl, h1, b1, t1⟩
  go_wp2
  go_end0
  exact ⟨rfl, h1, b1, t1⟩

theorem m_call (bm : Nat) (ov : Value) (es : List Ev) (tx obj op key val ret got : Int) (w : World) (hm : Mk w bm ov es) (hn : es.length ≤ 900) :
    Calls Try.prog 48 #[.pointer (some ⟨bm, 0, none⟩), .int .i64 tx, .int .i64 obj, .int .i64 op, .int .i64 key, .int .i64 val, .int .i64 ret, .int .i64 got] w
      (RetM bm w ov (es ++ [⟨2, tx, 0, obj, op, key, val, 0⟩] ++ [⟨3, tx, 0, 0, 0, 0, got, ret⟩])) := by
  go_enter Try.func48, Try.ntmps48
  go_wp2_with fail
  refine (m_event bm ov es 2 tx 0 obj op key val 0 _ hm (by omega)).mono ?_
  rintro e w1 ⟨rfl, h1, b1, t1⟩
  go_wp2_with fail
  refine (m_event bm ov _ 3 tx 0 0 0 0 got ret _ h1 (by simp; omega)).mono ?_
  rintro e w2 ⟨rfl, h2, b2, t2⟩
  go_wp2
  go_end0
  exact ⟨rfl, h2, b1.trans b2, t1.trans t2⟩

theorem m_read (bm : Nat) (ov : Value) (es : List Ev) (tx obj got : Int) (w : World) (hm : Mk w bm ov es) (hn : es.length ≤ 900) :
    Calls Try.prog 25 #[.pointer (some ⟨bm, 0, none⟩), .int .i64 tx, .int .i64 obj, .int .i64 got] w
      (RetM bm w ov (es ++ [⟨2, tx, 0, obj, 1, 0, 0, 0⟩] ++ [⟨3, tx, 0, 0, 0, 0, got, 3⟩])) := by
  go_enter Try.func25, Try.ntmps25
  go_wp2_with fail
  refine (m_call bm ov es tx obj 1 0 0 3 got _ hm hn).mono ?_
  rintro e w1 ⟨rfl, h1, b1, t1⟩
  go_wp2
  go_end0
  exact ⟨rfl, h1, b1, t1⟩

theorem m_write (bm : Nat) (ov : Value) (es : List Ev) (tx obj val : Int) (w : World) (hm : Mk w bm ov es) (hn : es.length ≤ 900) :
    Calls Try.prog 26 #[.pointer (some ⟨bm, 0, none⟩), .int .i64 tx, .int .i64 obj, .int .i64 val] w
      (RetM bm w ov (es ++ [⟨2, tx, 0, obj, 2, 0, val, 0⟩] ++ [⟨3, tx, 0, 0, 0, 0, 0, 1⟩])) := by
  go_enter Try.func26, Try.ntmps26
  go_wp2_with fail
  refine (m_call bm ov es tx obj 2 0 val 1 0 _ hm hn).mono ?_
  rintro e w1 ⟨rfl, h1, b1, t1⟩
  go_wp2
  go_end0
  exact ⟨rfl, h1, b1, t1⟩

theorem m_plainly (bm bk : Nat) (ov : Value) (es : List Ev) (tx : Int) (ks : List Int) (n : Nat) (tk : TypeId) (w : World) (hk : w.heap[bk]? = some (.cells (ks.flatMap intV).toArray tk (0, 0))) (htk : tk ≠ 39) (hbk : bk ≠ bm) (hkn : ks.length = n) (hm : Mk w bm ov es) (hn : es.length + n ≤ 900) :
    Calls Try.prog 45 #[.pointer (some ⟨bm, 0, none⟩), .int .i64 tx, .slice (some ⟨bk, 0, none⟩) n n] w
      (RetM bm w ov (es ++ ks.map fun k => ⟨k, tx, 0, 0, 0, 0, 0, 0⟩)) := by
  have HK := hid hk
  have HN := hid hkn
  clear hk hkn
  go_enter Try.func45, Try.ntmps45
  go_wp2
  go_loopw [10] (fun i wr => ∃ k : Nat, k ≤ n ∧ i = .int .i64 k ∧ Mk wr bm ov (es ++ (ks.take k).map fun k => ⟨k, tx, 0, 0, 0, 0, 0, 0⟩) ∧ Below bm w wr ∧ KeepT bm w wr) (fun i _ => n - (intOf i).toNat)
  case atStart => exact ⟨0, by omega, rfl, by simpa using hm, Below.refl _ _, KeepT.refl _ _⟩
  case round =>
    obtain ⟨k, hk, rfl, hm1, hB, hT⟩ := hrel
    by_cases hlt : k < n
    · obtain ⟨z, hz⟩ : ∃ z : Int, ks[k]? = some z := ⟨_, List.getElem?_eq_getElem (by have := HN.out; omega)⟩
      have hc1 := row_cell (hT bk _ _ _ HK.out htk hbk) k
      rw [List.getElem?_toArray, flat_intV, List.getElem?_map, hz] at hc1
      simp only [Option.map_some] at hc1
      have HZ := hid hz
      have HB := hid hB
      have HT := hid hT
      clear hz hB hT
      go_wp2_with fail
      refine (m_event bm ov _ z tx 0 0 0 0 0 0 _ hm1 (by simp only [List.length_append, List.length_map, List.length_take]; omega)).mono ?_
      rintro e w1 ⟨rfl, h1, b1, t1⟩
      go_wp2
      go_roundw
      case rel => exact ⟨k + 1, by omega, by go_num, by rw [List.take_add_one, HZ.out]; simpa using h1, HB.out.trans b1, HT.out.trans t1⟩
      case measure => simp [intOf]; omega
    · go_wp2
      go_end0
      obtain rfl : k = n := by omega
      exact ⟨rfl, by rw [List.take_of_length_le (by rw [HN.out]; omega)] at hm1; exact hm1, hB, hT⟩

theorem m_commit (bm : Nat) (ov : Value) (es : List Ev) (tx : Int) (w : World) (hm : Mk w bm ov es) (hn : es.length ≤ 800) :
    Calls Try.prog 27 #[.pointer (some ⟨bm, 0, none⟩), .int .i64 tx] w
      (RetM bm w ov (es ++ [⟨4, tx, 0, 0, 0, 0, 0, 0⟩, ⟨5, tx, 0, 0, 0, 0, 0, 0⟩])) := by
  go_enter Try.func27, Try.ntmps27
  go_wp2_with fail
  have hm' : Mk (w.alloc (.cells ([4, 5].flatMap intV).toArray 3)) bm ov es := by
    obtain ⟨ev, h1, h2⟩ := hm
    exact ⟨ev, row_old h1, h2.alloc _⟩
  have hlt : bm < w.heap.size := by obtain ⟨ev, h1, h2⟩ := hm; exact row_lt h1
  refine (m_plainly bm w.heap.size ov es tx [4, 5] 2 3 _ (row_new w _) (by decide) (by omega) rfl hm' (by omega)).mono ?_
  rintro e w1 ⟨rfl, h1, b1, t1⟩
  go_wp2
  go_end0
  exact ⟨rfl, h1, ((Below.refl bm w).alloc (by omega) _).trans b1, fun k c t fz hk ht hne => t1 k c t fz (row_old hk) ht hne⟩
end Go.Proofs.Ytcombolmacokbaa
