/- The document's equalities, at two things that are the same: each answers true, and turns nothing that was there. Conditions: those of each theorem, as typed. -/
import Derived.Test.YtcombolmacokbaaChecked
import Derived.Test.YtcombolmacokbaaLib
import Derived.Outline
namespace Go.Proofs.Ytcombolmacokbaa
open Go.RowKit

set_option maxHeartbeats 400000 in
theorem sameInts_eq (v1 v2 : Value) (xs : List Int) (n : Nat) (w : World) (h1 : Sl w w.heap.size 1 v1 n (xs.map (.int .i64))) (h2 : Sl w w.heap.size 1 v2 n (xs.map (.int .i64))) :
    Calls Try.prog 16 #[v1, v2] w fun e w' => e = .returned (.bool true) ∧ Below w.heap.size w w' := by
  obtain ⟨a1, c1, rfl, m1⟩ := h1.ex
  obtain ⟨a2, c2, rfl, m2⟩ := h2.ex
  have H1 := hid h1
  have H2 := hid h2
  clear h1 h2
  have hb : ((n : Int) != (n : Int)) = false := by simp
  go_enter Try.func16, Try.ntmps16
  go_wp2
  go_loopw [5] (fun i wr => ∃ k : Nat, k ≤ n ∧ i = .int .i64 k ∧ Below w.heap.size w wr) (fun i _ => n - (intOf i).toNat)
  case atStart => exact ⟨0, by omega, rfl, Below.refl _ _⟩
  case round =>
    obtain ⟨k, hk, rfl, hB⟩ := hrel
    by_cases hlt : k < n
    · obtain ⟨b1, o1, x, rfl, -, gx, hc1⟩ := (H1.out.below hB).at1 hlt
      obtain ⟨b2, o2, y, rfl, -, gy, hc2⟩ := (H2.out.below hB).at1 hlt
      obtain rfl : x = y := by rw [gx] at gy; exact Option.some.inj gy
      obtain ⟨z, hz⟩ : ∃ z : Int, x = .int .i64 z := by
        obtain ⟨z, -, hz⟩ := List.mem_map.1 (List.mem_of_getElem? gx)
        exact ⟨z, hz.symm⟩
      subst hz
      clear gx gy
      have HB := hid hB
      clear hB
      go_wp2
      refine wp_region_x [0, 0, 0, 1, 0, 0, 0, 1, 0, 0] [0, 1, 2, 3, 4, 5, 6, 7, 8, 9] (by kernel_rfl) (by kernel_rfl) rfl (by kernel_rfl) ?_
      simp only [selX, guardAt, List.getElem?_cons_zero, List.getElem?_cons_succ, List.getD_cons_zero, List.getD_cons_succ]
      repeat (first
        | (refine wpL_p (fun K hK => ?_); go_simp; refine hK _ _ ?_; clear hK K)
        | (refine wpL_r (fun K hK => ?_); apply Exists.intro; refine ⟨fun w2 hw2 => ?_, hK _ _ ?_⟩; (have hk1 := hw2.cell; have hk3 := hw2.heap; clear hw2; go_simp; with_reducible rfl); clear hK K; simp only [Act.put, List.setIfInBounds_toArray, List.set_cons_zero, List.set_cons_succ])
        | (refine wpL_yes rfl rfl ?_)
        | (refine wpL_no rfl rfl (fun K hK => ?_); simp only [Act.put, List.setIfInBounds_toArray, List.set_cons_zero, List.set_cons_succ]; refine hK _ _ ?_; clear hK K)
        | (refine wpL_nil ?_))
      go_wp2
      go_roundw
      case rel => exact ⟨k + 1, by omega, by go_num, HB.out.drew⟩
      case measure => simp [intOf]; omega
    · go_wp2
      go_ret
      exact ⟨rfl, hB⟩

set_option maxHeartbeats 400000 in
theorem sameTexts_eq (v1 v2 : Value) (xs : List ByteArray) (n : Nat) (w : World) (h1 : Sl w w.heap.size 1 v1 n (xs.map .string)) (h2 : Sl w w.heap.size 1 v2 n (xs.map .string)) :
    Calls Try.prog 17 #[v1, v2] w fun e w' => e = .returned (.bool true) ∧ Below w.heap.size w w' := by
  obtain ⟨a1, c1, rfl, m1⟩ := h1.ex
  obtain ⟨a2, c2, rfl, m2⟩ := h2.ex
  have H1 := hid h1
  have H2 := hid h2
  clear h1 h2
  have hb : ((n : Int) != (n : Int)) = false := by simp
  go_enter Try.func17, Try.ntmps17
  go_wp2
  go_loopw [5] (fun i wr => ∃ k : Nat, k ≤ n ∧ i = .int .i64 k ∧ Below w.heap.size w wr) (fun i _ => n - (intOf i).toNat)
  case atStart => exact ⟨0, by omega, rfl, Below.refl _ _⟩
  case round =>
    obtain ⟨k, hk, rfl, hB⟩ := hrel
    by_cases hlt : k < n
    · obtain ⟨b1, o1, x, rfl, -, gx, hc1⟩ := (H1.out.below hB).at1 hlt
      obtain ⟨b2, o2, y, rfl, -, gy, hc2⟩ := (H2.out.below hB).at1 hlt
      obtain rfl : x = y := by rw [gx] at gy; exact Option.some.inj gy
      obtain ⟨z, hz⟩ : ∃ z : ByteArray, x = .string z := by
        obtain ⟨z, -, hz⟩ := List.mem_map.1 (List.mem_of_getElem? gx)
        exact ⟨z, hz.symm⟩
      subst hz
      clear gx gy
      have HB := hid hB
      clear hB
      go_wp2
      refine wp_region_x [0, 0, 0, 1, 0, 0, 0, 1, 0, 0] [0, 1, 2, 3, 4, 5, 6, 7, 8, 9] (by kernel_rfl) (by kernel_rfl) rfl (by kernel_rfl) ?_
      simp only [selX, guardAt, List.getElem?_cons_zero, List.getElem?_cons_succ, List.getD_cons_zero, List.getD_cons_succ]
      repeat (first
        | (refine wpL_p (fun K hK => ?_); go_simp; refine hK _ _ ?_; clear hK K)
        | (refine wpL_r (fun K hK => ?_); apply Exists.intro; refine ⟨fun w2 hw2 => ?_, hK _ _ ?_⟩; (have hk1 := hw2.cell; have hk3 := hw2.heap; clear hw2; go_simp; with_reducible rfl); clear hK K; simp only [Act.put, List.setIfInBounds_toArray, List.set_cons_zero, List.set_cons_succ])
        | (refine wpL_yes rfl rfl ?_)
        | (refine wpL_no rfl rfl (fun K hK => ?_); simp only [Act.put, List.setIfInBounds_toArray, List.set_cons_zero, List.set_cons_succ]; refine hK _ _ ?_; clear hK K)
        | (refine wpL_nil ?_))
      go_wp2
      go_roundw
      case rel => exact ⟨k + 1, by omega, by go_num, HB.out.drew⟩
      case measure => simp [intOf]; omega
    · go_wp2
      go_ret
      exact ⟨rfl, hB⟩

/-! ### Objects, events, acts: plain data -/
structure Ob where
  kind : Int
  init : Int
structure Ev where
  kind : Int
  tx : Int
  thread : Int
  obj : Int
  op : Int
  key : Int
  val : Int
  ret : Int
structure Ac where
  kind : Int
  cell : Int
  val : Int
def Ob.cells (x : Ob) : List Value := [.int .i64 x.kind, .int .i64 x.init]
def Ev.cells (x : Ev) : List Value := [.int .i64 x.kind, .int .i64 x.tx, .int .i64 x.thread, .int .i64 x.obj, .int .i64 x.op, .int .i64 x.key, .int .i64 x.val, .int .i64 x.ret]
def Ac.cells (x : Ac) : List Value := [.int .i64 x.kind, .int .i64 x.cell, .int .i64 x.val]
theorem Ob.len (x : Ob) : x.cells.length = 2 := rfl
theorem Ev.len (x : Ev) : x.cells.length = 8 := rfl
theorem Ac.len (x : Ac) : x.cells.length = 3 := rfl

theorem sameObject_eq (a b : Int) (w : World) :
    Calls Try.prog 52 #[.agg #[.int .i64 a, .int .i64 b], .agg #[.int .i64 a, .int .i64 b]] w fun e w' => e = .returned (.bool true) ∧ Below w.heap.size w w' := by
  go_enter Try.func52, Try.ntmps52
  go_wp2
  go_ret
  exact ⟨rfl, ((Below.refl _ _).alloc (Nat.le_refl _) _).alloc (by simp) _⟩

set_option maxHeartbeats 400000 in
theorem sameEvent_eq (a b c d e f g h : Int) (w : World) :
    Calls Try.prog 53 #[.agg #[.int .i64 a, .int .i64 b, .int .i64 c, .int .i64 d, .int .i64 e, .int .i64 f, .int .i64 g, .int .i64 h], .agg #[.int .i64 a, .int .i64 b, .int .i64 c, .int .i64 d, .int .i64 e, .int .i64 f, .int .i64 g, .int .i64 h]] w fun e w' => e = .returned (.bool true) ∧ Below w.heap.size w w' := by
  go_enter Try.func53, Try.ntmps53
  go_wp2
  go_ret
  exact ⟨rfl, ((Below.refl _ _).alloc (Nat.le_refl _) _).alloc (by simp) _⟩

set_option maxHeartbeats 400000 in
theorem sameObjects_eq (v1 v2 : Value) (l : List Ob) (n : Nat) (w : World) (hn : l.length = n) (h1 : Sl w w.heap.size 2 v1 n (l.flatMap Ob.cells)) (h2 : Sl w w.heap.size 2 v2 n (l.flatMap Ob.cells)) :
    Calls Try.prog 39 #[v1, v2] w fun e w' => e = .returned (.bool true) ∧ Below w.heap.size w w' := by
  obtain ⟨a1, c1, rfl, m1⟩ := h1.ex
  obtain ⟨a2, c2, rfl, m2⟩ := h2.ex
  have H1 := hid h1
  have H2 := hid h2
  have HN := hid hn
  clear h1 h2 hn
  have hb : ((n : Int) != (n : Int)) = false := by simp
  go_enter Try.func39, Try.ntmps39
  go_wp2
  go_loopw [5] (fun i wr => ∃ k : Nat, k ≤ n ∧ i = .int .i64 k ∧ Below w.heap.size w wr) (fun i _ => n - (intOf i).toNat)
  case atStart => exact ⟨0, by omega, rfl, Below.refl _ _⟩
  case round =>
    obtain ⟨k, hk, rfl, hB⟩ := hrel
    by_cases hlt : k < n
    · obtain ⟨b1, o1, x, rfl, -, gx, hc⟩ := (H1.out.below hB).atF Ob.len HN.out hlt
      obtain ⟨b2, o2, y, rfl, -, gy, hd⟩ := (H2.out.below hB).atF Ob.len HN.out hlt
      obtain rfl : x = y := by rw [gx] at gy; exact Option.some.inj gy
      clear gx gy
      have c0 := hc 0 (by omega)
      have c1 := hc 1 (by omega)
      have d0 := hd 0 (by omega)
      have d1 := hd 1 (by omega)
      clear hc hd
      simp only [Ob.cells, Nat.add_zero, List.getElem?_cons_zero, List.getElem?_cons_succ] at c0 c1 d0 d1
      have HB := hid hB
      clear hB
      go_wp2
      refine wp_region_x [0, 0, 0, 1, 0, 0, 0, 1, 2, 0] [0, 1, 2, 3, 4, 5, 6, 7, 8, 9] (by kernel_rfl) (by kernel_rfl) rfl (by kernel_rfl) ?_
      simp only [selX, guardAt, List.getElem?_cons_zero, List.getElem?_cons_succ, List.getD_cons_zero, List.getD_cons_succ]
      repeat (first
        | (refine wpL_p (fun K hK => ?_); go_simp; refine hK _ _ ?_; clear hK K)
        | (refine wpL_r (fun K hK => ?_); apply Exists.intro; refine ⟨fun w2 hw2 => ?_, hK _ _ ?_⟩; (have hk1 := hw2.cell; have hk3 := hw2.heap; clear hw2; go_simp; with_reducible rfl); clear hK K; simp only [Act.put, List.setIfInBounds_toArray, List.set_cons_zero, List.set_cons_succ])
        | (refine wpL_yes rfl rfl ?_)
        | (refine wpL_no rfl rfl (fun K hK => ?_); simp only [Act.put, List.setIfInBounds_toArray, List.set_cons_zero, List.set_cons_succ]; refine hK _ _ ?_; clear hK K)
        | (refine wpL_nil ?_))
      refine wpL_e (fun K hK => ?_)
      go_simp
      refine (sameObject_eq _ _ _).mono ?_
      rintro e w1 ⟨rfl, hb1⟩
      refine hK _ _ ?_
      clear hK K
      repeat (first
        | (refine wpL_p (fun K hK => ?_); go_simp; refine hK _ _ ?_; clear hK K)
        | (refine wpL_r (fun K hK => ?_); apply Exists.intro; refine ⟨fun w2 hw2 => ?_, hK _ _ ?_⟩; (have hk1 := hw2.cell; have hk3 := hw2.heap; clear hw2; go_simp; with_reducible rfl); clear hK K; simp only [Act.put, List.setIfInBounds_toArray, List.set_cons_zero, List.set_cons_succ])
        | (refine wpL_yes rfl rfl ?_)
        | (refine wpL_no rfl rfl (fun K hK => ?_); simp only [Act.put, List.setIfInBounds_toArray, List.set_cons_zero, List.set_cons_succ]; refine hK _ _ ?_; clear hK K)
        | (refine wpL_nil ?_))
      go_wp2
      go_roundw
      case rel => exact ⟨k + 1, by omega, by go_num, HB.out.drew.trans (hb1.mono HB.out.size)⟩
      case measure => simp [intOf]; omega
    · go_wp2
      go_ret
      exact ⟨rfl, hB⟩

set_option maxHeartbeats 400000 in
theorem sameEvents_eq (v1 v2 : Value) (l : List Ev) (n : Nat) (w : World) (hn : l.length = n) (h1 : Sl w w.heap.size 8 v1 n (l.flatMap Ev.cells)) (h2 : Sl w w.heap.size 8 v2 n (l.flatMap Ev.cells)) :
    Calls Try.prog 40 #[v1, v2] w fun e w' => e = .returned (.bool true) ∧ Below w.heap.size w w' := by
  obtain ⟨a1, c1, rfl, m1⟩ := h1.ex
  obtain ⟨a2, c2, rfl, m2⟩ := h2.ex
  have H1 := hid h1
  have H2 := hid h2
  have HN := hid hn
  clear h1 h2 hn
  have hb : ((n : Int) != (n : Int)) = false := by simp
  go_enter Try.func40, Try.ntmps40
  go_wp2
  go_loopw [5] (fun i wr => ∃ k : Nat, k ≤ n ∧ i = .int .i64 k ∧ Below w.heap.size w wr) (fun i _ => n - (intOf i).toNat)
  case atStart => exact ⟨0, by omega, rfl, Below.refl _ _⟩
  case round =>
    obtain ⟨k, hk, rfl, hB⟩ := hrel
    by_cases hlt : k < n
    · obtain ⟨b1, o1, x, rfl, -, gx, hc⟩ := (H1.out.below hB).atF Ev.len HN.out hlt
      obtain ⟨b2, o2, y, rfl, -, gy, hd⟩ := (H2.out.below hB).atF Ev.len HN.out hlt
      obtain rfl : x = y := by rw [gx] at gy; exact Option.some.inj gy
      clear gx gy
      have c0 := hc 0 (by omega)
      have c1 := hc 1 (by omega)
      have c2 := hc 2 (by omega)
      have c3 := hc 3 (by omega)
      have c4 := hc 4 (by omega)
      have c5 := hc 5 (by omega)
      have c6 := hc 6 (by omega)
      have c7 := hc 7 (by omega)
      have d0 := hd 0 (by omega)
      have d1 := hd 1 (by omega)
      have d2 := hd 2 (by omega)
      have d3 := hd 3 (by omega)
      have d4 := hd 4 (by omega)
      have d5 := hd 5 (by omega)
      have d6 := hd 6 (by omega)
      have d7 := hd 7 (by omega)
      clear hc hd
      simp only [Ev.cells, Nat.add_zero, List.getElem?_cons_zero, List.getElem?_cons_succ] at c0 c1 c2 c3 c4 c5 c6 c7 d0 d1 d2 d3 d4 d5 d6 d7
      have HB := hid hB
      clear hB
      go_wp2
      refine wp_region_x [0, 0, 0, 1, 0, 0, 0, 1, 2, 0] [0, 1, 2, 3, 4, 5, 6, 7, 8, 9] (by kernel_rfl) (by kernel_rfl) rfl (by kernel_rfl) ?_
      simp only [selX, guardAt, List.getElem?_cons_zero, List.getElem?_cons_succ, List.getD_cons_zero, List.getD_cons_succ]
      repeat (first
        | (refine wpL_p (fun K hK => ?_); go_simp; refine hK _ _ ?_; clear hK K)
        | (refine wpL_r (fun K hK => ?_); apply Exists.intro; refine ⟨fun w2 hw2 => ?_, hK _ _ ?_⟩; (have hk1 := hw2.cell; have hk3 := hw2.heap; clear hw2; go_simp; with_reducible rfl); clear hK K; simp only [Act.put, List.setIfInBounds_toArray, List.set_cons_zero, List.set_cons_succ])
        | (refine wpL_yes rfl rfl ?_)
        | (refine wpL_no rfl rfl (fun K hK => ?_); simp only [Act.put, List.setIfInBounds_toArray, List.set_cons_zero, List.set_cons_succ]; refine hK _ _ ?_; clear hK K)
        | (refine wpL_nil ?_))
      refine wpL_e (fun K hK => ?_)
      go_simp
      refine (sameEvent_eq _ _ _ _ _ _ _ _ _).mono ?_
      rintro e w1 ⟨rfl, hb1⟩
      refine hK _ _ ?_
      clear hK K
      repeat (first
        | (refine wpL_p (fun K hK => ?_); go_simp; refine hK _ _ ?_; clear hK K)
        | (refine wpL_r (fun K hK => ?_); apply Exists.intro; refine ⟨fun w2 hw2 => ?_, hK _ _ ?_⟩; (have hk1 := hw2.cell; have hk3 := hw2.heap; clear hw2; go_simp; with_reducible rfl); clear hK K; simp only [Act.put, List.setIfInBounds_toArray, List.set_cons_zero, List.set_cons_succ])
        | (refine wpL_yes rfl rfl ?_)
        | (refine wpL_no rfl rfl (fun K hK => ?_); simp only [Act.put, List.setIfInBounds_toArray, List.set_cons_zero, List.set_cons_succ]; refine hK _ _ ?_; clear hK K)
        | (refine wpL_nil ?_))
      go_wp2
      go_roundw
      case rel => exact ⟨k + 1, by omega, by go_num, HB.out.drew.trans (hb1.mono HB.out.size)⟩
      case measure => simp [intOf]; omega
    · go_wp2
      go_ret
      exact ⟨rfl, hB⟩


set_option maxHeartbeats 400000 in
theorem sameActs_eq (v1 v2 : Value) (l : List Ac) (n : Nat) (w : World) (hn : l.length = n) (h1 : Sl w w.heap.size 3 v1 n (l.flatMap Ac.cells)) (h2 : Sl w w.heap.size 3 v2 n (l.flatMap Ac.cells)) :
    Calls Try.prog 41 #[v1, v2] w fun e w' => e = .returned (.bool true) ∧ Below w.heap.size w w' := by
  obtain ⟨a1, c1, rfl, m1⟩ := h1.ex
  obtain ⟨a2, c2, rfl, m2⟩ := h2.ex
  have H1 := hid h1
  have H2 := hid h2
  have HN := hid hn
  clear h1 h2 hn
  have hb : ((n : Int) != (n : Int)) = false := by simp
  go_enter Try.func41, Try.ntmps41
  go_wp2
  go_loopw [5] (fun i wr => ∃ k : Nat, k ≤ n ∧ i = .int .i64 k ∧ Below w.heap.size w wr) (fun i _ => n - (intOf i).toNat)
  case atStart => exact ⟨0, by omega, rfl, Below.refl _ _⟩
  case round =>
    obtain ⟨k, hk, rfl, hB⟩ := hrel
    by_cases hlt : k < n
    · obtain ⟨b1, o1, x, rfl, -, gx, hc⟩ := (H1.out.below hB).atF Ac.len HN.out hlt
      obtain ⟨b2, o2, y, rfl, -, gy, hd⟩ := (H2.out.below hB).atF Ac.len HN.out hlt
      obtain rfl : x = y := by rw [gx] at gy; exact Option.some.inj gy
      clear gx gy
      have c0 := hc 0 (by omega)
      have c1 := hc 1 (by omega)
      have c2 := hc 2 (by omega)
      have d0 := hd 0 (by omega)
      have d1 := hd 1 (by omega)
      have d2 := hd 2 (by omega)
      clear hc hd
      simp only [Ac.cells, Nat.add_zero, List.getElem?_cons_zero, List.getElem?_cons_succ] at c0 c1 c2 d0 d1 d2
      have HB := hid hB
      clear hB
      go_wp2
      refine wp_region_x [0, 0, 0, 0, 1, 0, 0, 0, 0, 1, 0, 0, 0, 0, 0, 0, 1, 0, 0, 0, 0, 1, 0, 0, 0, 0, 0, 0, 0, 1, 0, 0, 0, 0, 1, 0, 0, 0] [0, 1, 2, 3, 4, 5, 6, 7, 8, 9, 10, 11, 12, 13, 14, 15, 16, 17, 18, 19, 20, 21, 22, 23, 24, 25, 26, 27, 28, 29, 30, 31, 32, 33, 34, 35, 36, 37] (by kernel_rfl) (by kernel_rfl) rfl (by kernel_rfl) ?_
      simp only [selX, guardAt, List.getElem?_cons_zero, List.getElem?_cons_succ, List.getD_cons_zero, List.getD_cons_succ, Option.bind_some]
      repeat (first
        | (refine wpL_p (fun K hK => ?_); go_simp; refine hK _ _ ?_; clear hK K)
        | (refine wpL_r (fun K hK => ?_); apply Exists.intro; refine ⟨fun w2 hw2 => ?_, hK _ _ ?_⟩; (have hk1 := hw2.cell; have hk3 := hw2.heap; clear hw2; go_simp; with_reducible rfl); clear hK K; simp only [Act.put, List.setIfInBounds_toArray, List.set_cons_zero, List.set_cons_succ])
        | (refine wpL_yes rfl rfl ?_)
        | (refine wpL_no rfl rfl (fun K hK => ?_); simp only [Act.put, List.setIfInBounds_toArray, List.set_cons_zero, List.set_cons_succ]; refine hK _ _ ?_; clear hK K)
        | (refine wpL_nil ?_))
      go_wp2
      go_roundw
      case rel => exact ⟨k + 1, by omega, by go_num, HB.out.drew⟩
      case measure => simp [intOf]; omega
    · go_wp2
      go_ret
      exact ⟨rfl, hB⟩

theorem sameHistory_eq (o1 e1 o2 e2 : Value) (os : List Ob) (es : List Ev) (w : World)
    (h1 : Sl w w.heap.size 2 o1 os.length (os.flatMap Ob.cells)) (h2 : Sl w w.heap.size 2 o2 os.length (os.flatMap Ob.cells))
    (h3 : Sl w w.heap.size 8 e1 es.length (es.flatMap Ev.cells)) (h4 : Sl w w.heap.size 8 e2 es.length (es.flatMap Ev.cells)) :
    Calls Try.prog 14 #[.agg #[o1, e1], .agg #[o2, e2]] w fun e w' => e = .returned (.bool true) ∧ Below w.heap.size w w' := by
  obtain ⟨a1, c1, rfl, -⟩ := h1.ex
  obtain ⟨a2, c2, rfl, -⟩ := h2.ex
  obtain ⟨a3, c3, rfl, -⟩ := h3.ex
  obtain ⟨a4, c4, rfl, -⟩ := h4.ex
  have H1 := hid h1
  have H2 := hid h2
  have H3 := hid h3
  have H4 := hid h4
  clear h1 h2 h3 h4
  go_enter Try.func14, Try.ntmps14
  go_wp2_with fail
  have hB0 : Below w.heap.size w ((w.alloc (.cells #[.slice a1 os.length c1, .slice a3 es.length c3] 28)).alloc (.cells #[.slice a2 os.length c2, .slice a4 es.length c4] 28)) := ((Below.refl _ _).alloc (Nat.le_refl _) _).alloc (by simp) _
  refine (sameObjects_eq _ _ os os.length _ rfl ((H1.out.below hB0).more hB0.size) ((H2.out.below hB0).more hB0.size)).mono ?_
  rintro e w1 ⟨rfl, hb1⟩
  have g0 : w1.cell? ⟨w.heap.size, 1, none⟩ = some (.slice a3 es.length c3) := cell_below hb1 (by simp; omega) (cell_old' (by simp) (cell_new' rfl rfl))
  have g1 : w1.cell? ⟨w.heap.size + 1, 1, none⟩ = some (.slice a4 es.length c4) := cell_below hb1 (by simp) (cell_new' (by simp) rfl)
  have hB1 := hB0.trans (hb1.mono hB0.size)
  have HB0 := hid hB0
  have HB1 := hid hB1
  clear hB0 hB1 hb1
  go_wp2_with fail
  refine (sameEvents_eq _ _ es es.length _ rfl ((H3.out.below HB1.out).more HB1.out.size) ((H4.out.below HB1.out).more HB1.out.size)).mono ?_
  rintro e w2 ⟨rfl, hb2⟩
  go_wp2
  go_ret
  exact ⟨rfl, HB1.out.trans (hb2.mono HB1.out.size)⟩

end Go.Proofs.Ytcombolmacokbaa
