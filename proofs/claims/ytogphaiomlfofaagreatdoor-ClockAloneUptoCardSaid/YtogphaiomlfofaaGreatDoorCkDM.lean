/- The engine clock: it locks, ticks, looks, writes. Printed by wip/tools/genckc.py. Conditions: those of each theorem, as typed. -/
import Derived.Test.YtogphaiomlfofaaGreatDoorCkCM
import Derived.Test.YtogphaiomlfofaaGreatDoorKeysCM
set_option linter.unusedVariables false
set_option linter.unusedSimpArgs false
namespace Go.Proofs.YtogphaiomlfofaaGreatDoor
open Go.RowKit Go.Maps
set_option linter.unusedVariables false
set_option linter.unusedSimpArgs false
attribute [local irreducible] wpL

theorem sizeIn (w : World) : (sizeOf (Tryz.prog.elem 22)).run Tryz.prog w = .ok 1 w := by kernel_rfl
def LsAt (w : World) (C : LC) (v : Value) (l : List Int) : Prop := ∃ (a : Option Addr) (cap : Nat), v = .slice a l.length cap ∧ (l ≠ [] → ∃ (g off : Nat) (cs : Array Value), a = some ⟨g, off, none⟩ ∧ w.heap[g]? = some (.cells cs 3 (0, 0)) ∧ C.B ≤ g ∧ l.length ≤ cap ∧ ∀ (j : Nat) (x : Int), l[j]? = some x → cs[off + j]? = some (.int .i64 x))
section
variable {w w' : World} {C : LC} {ve : Value} {P : Pg} {M : LM} {us : List WkV}
theorem LsAt.below {v : Value} {l : List Int} (h : LsAt w C v l) (hb : Below w.heap.size w w') : LsAt w' C v l := by
  obtain ⟨a, cap, e, h1⟩ := h
  refine ⟨a, cap, e, fun hl => ?_⟩
  obtain ⟨g, off, cs, e2, h2, r⟩ := h1 hl
  exact ⟨g, off, cs, e2, row_below h2 hb (row_lt h2), r⟩
theorem LsAt.ofOwn {B : Nat} {v : Value} {l : List Int} (h : OwnI w B v l) (hB : C.B ≤ B) : LsAt w C v l := by
  obtain ⟨a, c, rfl, hm⟩ := h.form2
  refine ⟨a, c, rfl, fun hne => ?_⟩
  obtain ⟨h1, ⟨-, h2⟩ | ⟨g, cap, cur, hv, hg, hh, hle, hmx, hsz, htk⟩⟩ := h
  · exact absurd (List.length_eq_zero_iff.1 h2) hne
  · simp only [Value.slice.injEq] at hv
    obtain ⟨rfl, -, rfl⟩ := hv
    refine ⟨g, 0, cur, rfl, hh, by omega, hle, fun j x hj => ?_⟩
    have hjl := (List.getElem?_eq_some_iff.1 hj).1
    have h2 : (cur.toList.take (l.length * 1))[j]? = some (.int .i64 x) := by rw [htk, flat_int, List.getElem?_map, hj]; rfl
    rw [List.getElem?_take_of_lt (by omega)] at h2
    simpa using h2
theorem LsBx.open {p3 : Nat} {k : Int} {l : List Int} (h : LsBx w C p3 (k :: l)) : ∃ (g off cap n : Nat) (cs : Array Value), w.heap[p3]? = some (.cells #[.slice (some ⟨g, off, none⟩) n cap] 22 (0, 0)) ∧ w.heap[g]? = some (.cells cs 3 (0, 0)) ∧ w.cell? ⟨g, off, none⟩ = some (.int .i64 k) ∧ 0 < n ∧ (cap = 1 → n - 1 = 0) ∧ n ≤ cap ∧
    ∀ X : World, X.heap[g]? = some (.cells cs 3 (0, 0)) → LsAt X C (.slice (if cap = 1 then some ⟨g, off, none⟩ else some ⟨g, off + 1, none⟩) (n - 1) (cap - 1)) l := by
  obtain ⟨g, off, cap, cs, r3, rg, hB3, hBg, hcap, hcs⟩ := h
  have hn1 : (k :: l).length = l.length + 1 := rfl
  refine ⟨g, off, cap, _, cs, r3, rg, ?_, by rw [hn1]; omega, fun e => by rw [hn1] at hcap ⊢; omega, hcap, fun X hX => ?_⟩
  · rw [row_cell rg off]
    have := hcs 0 k rfl
    simpa using this
  · refine ⟨_, _, by rw [hn1, Nat.add_sub_cancel], fun hne => ?_⟩
    have : l.length ≠ 0 := fun e => hne (List.length_eq_zero_iff.1 e)
    rw [if_neg (by omega)]
    refine ⟨g, off + 1, cs, rfl, hX, hBg, by omega, fun j x hj => ?_⟩
    have := hcs (j + 1) x (by simpa using hj)
    rwa [show off + 1 + j = off + (j + 1) by omega]
set_option maxRecDepth 100000 in
set_option maxHeartbeats 1000000 in
theorem la_lock (h : LaAt w C ve us P M) (i : Nat) (hi : i < P.threads.length) (v : Value) (l : List Int) (hv : LsAt w C v l) (hl4 : l.length ≤ 4) :
    Calls Tryz.prog 104 #[.pointer (some ⟨C.bM, 0, none⟩), .int .i64 i, v] w (LaNext C P i (M, lockNx l) w) := by
  obtain ⟨a, cap, rfl, hls⟩ := hv
  have hn4 := h.ok.threads.2
  have bA : Below w.heap.size w ((((w).alloc (.cells #[.pointer (some ⟨C.bM, 0, none⟩)] 62)).alloc (.cells #[.int .i64 i] 3)).alloc (.cells #[.slice a l.length cap] 22)) := ((((Below.refl w.heap.size w).alloc (by simp <;> omega) _).alloc (by simp <;> omega) _).alloc (by simp <;> omega) _)
  have zA : ((((w).alloc (.cells #[.pointer (some ⟨C.bM, 0, none⟩)] 62)).alloc (.cells #[.int .i64 i] 3)).alloc (.cells #[.slice a l.length cap] 22)).heap.size = w.heap.size + 3 := by simp
  have r0 := (row_old (o := .cells #[.slice a l.length cap] 22) (row_old (o := .cells #[.int .i64 i] 3) (row_new' (w := w) (o := .cells #[.pointer (some ⟨C.bM, 0, none⟩)] 62) (g := w.heap.size) (by simp))))
  have r1 := (row_old (o := .cells #[.slice a l.length cap] 22) (row_new' (w := (w).alloc (.cells #[.pointer (some ⟨C.bM, 0, none⟩)] 62)) (o := .cells #[.int .i64 i] 3) (g := w.heap.size + 1) (by simp)))
  have r2 := (row_new' (w := ((w).alloc (.cells #[.pointer (some ⟨C.bM, 0, none⟩)] 62)).alloc (.cells #[.int .i64 i] 3)) (o := .cells #[.slice a l.length cap] 22) (g := w.heap.size + 2) (by simp))
  have hB := h.size
  have HA := hid (h.below bA)
  have BA := hid (bA.mono hB)
  have R0 := hid r0
  have R1 := hid r1
  have R2 := hid r2
  have HLS := hid hls
  have BW := hid bA
  have ZA := hid zA
  clear bA h hls r0 r1 r2 zA
  cases l with
  | nil =>
    have y0 := row_cell R0.out 0
    have y1 := row_cell R1.out 0
    have k0 := row_lt R0.out
    have k1 := row_lt R1.out
    go_enter Tryz.func104, Tryz.ntmps104
    go_wp2_with fail
    generalize (((w).alloc (.cells #[.pointer (some ⟨C.bM, 0, none⟩)] 62)).alloc (.cells #[.int .i64 i] 3)).alloc (.cells #[.slice a 0 cap] 22) = X at *
    refine (la_mkTick HA.out i).mono ?_
    rintro e X1 ⟨p1, p2, rfl, b1, hx⟩
    have B1 := hid (BA.out.trans (b1.mono HA.out.size))
    have L1 := hid (HA.out.below b1)
    have X1' := hid hx
    clear b1 hx y0 y1
    go_wp2
    go_ret
    exact ⟨_, ve, us, rfl, B1.out, L1.out, p1, p2, rfl, X1'.out⟩
  | cons k l =>
    obtain ⟨n, hn⟩ : ∃ n, n = (k :: l).length := ⟨_, rfl⟩
    have q0 : ((n : Int) == 0) = false := by simp only [List.length_cons] at hn; simp; omega
    have HN := hid hn
    rw [← hn] at HA BA R0 R1 R2 hl4 BW ZA ⊢
    clear hn
    go_enter Tryz.func104, Tryz.ntmps104
    go_wp2
    go_ret
    refine ⟨_, ve, us, rfl, BA.out, HA.out, w.heap.size, w.heap.size + 1, w.heap.size + 1 + 1, rfl, ⟨R0.out, R1.out, hB, by omega⟩, ?_⟩
    obtain ⟨g, off, cs, rfl, h1, h2, h3, h6⟩ := HLS.out (by simp)
    refine ⟨g, off, cap, cs, ?_, row_below h1 BW.out (row_lt h1), by omega, h2, h3, h6⟩
    rw [← HN.out]
    exact R2.out
set_option maxRecDepth 100000 in
set_option maxHeartbeats 1000000 in
theorem la_write (h : LaAt w C ve us P M) (i : Nat) (hi : i < P.threads.length) (now : Int) (v : Value) (l : List Int) (hv : LsAt w C v l) (hl4 : l.length ≤ 4) :
    Calls Tryz.prog 213 #[.pointer (some ⟨C.bM, 0, none⟩), .int .i64 i, .int .i64 now, v] w (LaNext C P i (M, writeNx now l) w) := by
  obtain ⟨a, cap, rfl, hls⟩ := hv
  have hn4 := h.ok.threads.2
  have bA : Below w.heap.size w (((((w).alloc (.cells #[.pointer (some ⟨C.bM, 0, none⟩)] 62)).alloc (.cells #[.int .i64 i] 3)).alloc (.cells #[.int .i64 now] 3)).alloc (.cells #[.slice a l.length cap] 22)) := (((((Below.refl w.heap.size w).alloc (by simp <;> omega) _).alloc (by simp <;> omega) _).alloc (by simp <;> omega) _).alloc (by simp <;> omega) _)
  have zA : (((((w).alloc (.cells #[.pointer (some ⟨C.bM, 0, none⟩)] 62)).alloc (.cells #[.int .i64 i] 3)).alloc (.cells #[.int .i64 now] 3)).alloc (.cells #[.slice a l.length cap] 22)).heap.size = w.heap.size + 4 := by simp
  have r0 := (row_old (o := .cells #[.slice a l.length cap] 22) (row_old (o := .cells #[.int .i64 now] 3) (row_old (o := .cells #[.int .i64 i] 3) (row_new' (w := w) (o := .cells #[.pointer (some ⟨C.bM, 0, none⟩)] 62) (g := w.heap.size) (by simp)))))
  have r1 := (row_old (o := .cells #[.slice a l.length cap] 22) (row_old (o := .cells #[.int .i64 now] 3) (row_new' (w := (w).alloc (.cells #[.pointer (some ⟨C.bM, 0, none⟩)] 62)) (o := .cells #[.int .i64 i] 3) (g := w.heap.size + 1) (by simp))))
  have r2 := (row_old (o := .cells #[.slice a l.length cap] 22) (row_new' (w := ((w).alloc (.cells #[.pointer (some ⟨C.bM, 0, none⟩)] 62)).alloc (.cells #[.int .i64 i] 3)) (o := .cells #[.int .i64 now] 3) (g := w.heap.size + 2) (by simp)))
  have r3 := (row_new' (w := (((w).alloc (.cells #[.pointer (some ⟨C.bM, 0, none⟩)] 62)).alloc (.cells #[.int .i64 i] 3)).alloc (.cells #[.int .i64 now] 3)) (o := .cells #[.slice a l.length cap] 22) (g := w.heap.size + 3) (by simp))
  have hB := h.size
  have HA := hid (h.below bA)
  have BA := hid (bA.mono hB)
  have R0 := hid r0
  have R1 := hid r1
  have R2 := hid r2
  have R3 := hid r3
  have HLS := hid hls
  have BW := hid bA
  have ZA := hid zA
  clear bA h hls r0 r1 r2 r3 zA
  cases l with
  | nil =>
    have y0 := row_cell R0.out 0
    have y1 := row_cell R1.out 0
    have k0 := row_lt R0.out
    have k1 := row_lt R1.out
    go_enter Tryz.func213, Tryz.ntmps213
    go_wp2_with fail
    generalize ((((w).alloc (.cells #[.pointer (some ⟨C.bM, 0, none⟩)] 62)).alloc (.cells #[.int .i64 i] 3)).alloc (.cells #[.int .i64 now] 3)).alloc (.cells #[.slice a 0 cap] 22) = X at *
    refine (la_mkCommit HA.out i).mono ?_
    rintro e X1 ⟨p1, p2, rfl, b1, hx⟩
    have B1 := hid (BA.out.trans (b1.mono HA.out.size))
    have L1 := hid (HA.out.below b1)
    have X1' := hid hx
    clear b1 hx y0 y1
    go_wp2
    go_ret
    exact ⟨_, ve, us, rfl, B1.out, L1.out, p1, p2, rfl, X1'.out⟩
  | cons k l =>
    obtain ⟨n, hn⟩ : ∃ n, n = (k :: l).length := ⟨_, rfl⟩
    have q0 : ((n : Int) == 0) = false := by simp only [List.length_cons] at hn; simp; omega
    have HN := hid hn
    rw [← hn] at HA BA R0 R1 R2 R3 hl4 BW ZA ⊢
    clear hn
    go_enter Tryz.func213, Tryz.ntmps213
    go_wp2
    go_ret
    refine ⟨_, ve, us, rfl, BA.out, HA.out, w.heap.size, w.heap.size + 1, w.heap.size + 1 + 1 + 1, w.heap.size + 1 + 1, rfl, ⟨R0.out, R1.out, hB, by omega⟩, ?_, R2.out, by omega⟩
    obtain ⟨g, off, cs, rfl, h1, h2, h3, h6⟩ := HLS.out (by simp)
    refine ⟨g, off, cap, cs, ?_, row_below h1 BW.out (row_lt h1), by omega, h2, h3, h6⟩
    rw [← HN.out]
    exact R3.out
set_option maxRecDepth 100000 in
set_option maxHeartbeats 1000000 in
theorem la_look (h : LaAt w C ve us P M) (i : Nat) (hi : i < P.threads.length) (now : Int) (v : Value) (l : List Int) (hv : LsAt w C v l) (hl4 : l.length ≤ 4) {tm : Int} {r : MB} {s : MI} (hws : M.ws[i]? = some (some (tm, r, s))) :
    Calls Tryz.prog 176 #[.pointer (some ⟨C.bM, 0, none⟩), .int .i64 i, .int .i64 now, v] w (LaNext C P i (M, lookNx now s l) w) := by
  obtain ⟨a, cap, rfl, hls⟩ := hv
  have hn4 := h.ok.threads.2
  have bA : Below w.heap.size w (((((w).alloc (.cells #[.pointer (some ⟨C.bM, 0, none⟩)] 62)).alloc (.cells #[.int .i64 i] 3)).alloc (.cells #[.int .i64 now] 3)).alloc (.cells #[.slice a l.length cap] 22)) := (((((Below.refl w.heap.size w).alloc (by simp <;> omega) _).alloc (by simp <;> omega) _).alloc (by simp <;> omega) _).alloc (by simp <;> omega) _)
  have zA : (((((w).alloc (.cells #[.pointer (some ⟨C.bM, 0, none⟩)] 62)).alloc (.cells #[.int .i64 i] 3)).alloc (.cells #[.int .i64 now] 3)).alloc (.cells #[.slice a l.length cap] 22)).heap.size = w.heap.size + 4 := by simp
  have r0 := (row_old (o := .cells #[.slice a l.length cap] 22) (row_old (o := .cells #[.int .i64 now] 3) (row_old (o := .cells #[.int .i64 i] 3) (row_new' (w := w) (o := .cells #[.pointer (some ⟨C.bM, 0, none⟩)] 62) (g := w.heap.size) (by simp)))))
  have r1 := (row_old (o := .cells #[.slice a l.length cap] 22) (row_old (o := .cells #[.int .i64 now] 3) (row_new' (w := (w).alloc (.cells #[.pointer (some ⟨C.bM, 0, none⟩)] 62)) (o := .cells #[.int .i64 i] 3) (g := w.heap.size + 1) (by simp))))
  have r2 := (row_old (o := .cells #[.slice a l.length cap] 22) (row_new' (w := ((w).alloc (.cells #[.pointer (some ⟨C.bM, 0, none⟩)] 62)).alloc (.cells #[.int .i64 i] 3)) (o := .cells #[.int .i64 now] 3) (g := w.heap.size + 2) (by simp)))
  have r3 := (row_new' (w := (((w).alloc (.cells #[.pointer (some ⟨C.bM, 0, none⟩)] 62)).alloc (.cells #[.int .i64 i] 3)).alloc (.cells #[.int .i64 now] 3)) (o := .cells #[.slice a l.length cap] 22) (g := w.heap.size + 3) (by simp))
  have hB := h.size
  have HA := hid (h.below bA)
  have BA := hid (bA.mono hB)
  have R0 := hid r0
  have R1 := hid r1
  have R2 := hid r2
  have R3 := hid r3
  have HLS := hid hls
  have BW := hid bA
  have ZA := hid zA
  obtain ⟨br, bs, hu, hwo, hgW, w0, w1, w2⟩ := HA.out.woAt hi hws
  have HP := hid hwo
  have d2 := row_cell HA.out.row 2
  have lM := row_lt HA.out.row
  clear bA h hls r0 r1 r2 r3 zA hu hwo hws
  cases l with
  | nil =>
    have y0 := row_cell R0.out 0
    have y1 := row_cell R1.out 0
    have y2 := row_cell R2.out 0
    have k0 := row_lt R0.out
    have k1 := row_lt R1.out
    have k2 := row_lt R2.out
    go_enter Tryz.func176, Tryz.ntmps176
    go_wp2_with fail
    generalize ((((w).alloc (.cells #[.pointer (some ⟨C.bM, 0, none⟩)] 62)).alloc (.cells #[.int .i64 i] 3)).alloc (.cells #[.int .i64 now] 3)).alloc (.cells #[.slice a 0 cap] 22) = W at *
    have hBW : C.B ≤ W.heap.size := HA.out.size
    have hBs : C.B ≤ C.gW := (HA.out.wks.own.lt C.gW rfl).1
    obtain ⟨br', bs', hu, hbr, hbs, hne, hmr, hms, hcr, hsr, hcs, hss⟩ := HP.out
    simp only [Prod.mk.injEq, Value.map.injEq, Option.some.injEq, true_and] at hu
    obtain ⟨rfl, rfl⟩ := hu
    have hs4 := hcs.len hss
    have HSS := hid hss
    have HMS := hid hms
    clear hmr hms hcr hsr hcs hss
    refine RN.wp_region_t (W.heap.size) [1, 1, 1, 1, 0, 0, 1, 1, 0, 0, 1, 3, 3, 2, 0] (.fin [0, 1, 2, 3, 4, 5, 6, 7, 8, 9, 10, 11, 12, 13, 14]) (by kernel_rfl) (by kernel_rfl) (by kernel_rfl) (by kernel_rfl) ?_
    simp only [RN.wpT, selX, guardAt, sD, sE, sF, sG]
    repeat (first | (refine RN.wpL_p (fun K hK => ?_); go_simp; refine hK _ _ ?_; clear hK K) | (apply RN.wpL_s; (intro w2 hw2; have hk1 := hw2.cell; have hk3 := hw2.1; clear hw2; go_simp; with_reducible rfl); simp only [Act.put, sA, sB, sC]) | (refine RN.wpL_nil ?_))
    refine RN.wpL_k (fun K hK => ?_)
    go_simp
    refine (keysI (some bs) W.drew).mono ?_
    rintro e W1 ⟨rfl, rfl⟩
    refine hK _ _ (RN.KeepsN.alloc _ _ (Nat.le_refl _)) ?_
    clear hK K
    repeat (first | (refine RN.wpL_p (fun K hK => ?_); go_simp; refine hK _ _ ?_; clear hK K) | (apply RN.wpL_s; (intro w2 hw2; have hk1 := hw2.cell; have hk3 := hw2.1; clear hw2; go_simp; with_reducible rfl); simp only [Act.put, sA, sB, sC]) | (refine RN.wpL_nil ?_))
    refine RN.wpL_k (fun K hK => ?_)
    go_simp
    refine (sortedI (w := W.drew) (HMS.out.drew) HSS.out (by omega)).mono ?_
    rintro e W2 ⟨v, rfl, ho, hb2⟩
    have b2 : Below W.heap.size W W2 := ((Below.refl _ W).drew.alloc (Nat.le_refl _) _).trans (hb2.mono (by show W.heap.size ≤ W.heap.size + 1; omega))
    refine hK _ _ (RN.KeepsN.of_below (hb2.mono (by show W.heap.size ≤ W.heap.size + 1; omega))) ?_
    clear hK K
    have L2 := hid (HA.out.below b2)
    have LS := hid (LsAt.ofOwn (C := C) ho (show C.B ≤ W.heap.size + 1 by omega))
    have B2 := hid (BA.out.trans (b2.mono hBW))
    clear ho hb2 b2
    repeat (first | (refine RN.wpL_p (fun K hK => ?_); go_simp; refine hK _ _ ?_; clear hK K) | (apply RN.wpL_s; (intro w2 hw2; have hk1 := hw2.cell; have hk3 := hw2.1; clear hw2; go_simp; with_reducible rfl); simp only [Act.put, sA, sB, sC]) | (refine RN.wpL_nil ?_))
    refine RN.wpL_e (fun K hK => ?_)
    go_simp
    refine (la_write L2.out i hi now v _ LS.out (by rw [List.length_map]; exact hs4)).mono ?_
    rintro e W3 ⟨v3, ve', us', rfl, hb, hla, hx⟩
    refine hK _ _ ?_
    clear hK K
    have B3 := hid (B2.out.trans hb)
    have L3 := hid hla
    have X3 := hid hx
    clear hb hla hx y0 y1 y2 d2 w0 w1 w2
    repeat (first | (refine RN.wpL_p (fun K hK => ?_); go_simp; refine hK _ _ ?_; clear hK K) | (apply RN.wpL_s; (intro w2 hw2; have hk1 := hw2.cell; have hk3 := hw2.1; clear hw2; go_simp; with_reducible rfl); simp only [Act.put, sA, sB, sC]) | (refine RN.wpL_nil ?_))
    go_wp2
    go_ret
    exact ⟨v3, ve', us', rfl, B3.out, L3.out, X3.out⟩
  | cons k l =>
    obtain ⟨n, hn⟩ : ∃ n, n = (k :: l).length := ⟨_, rfl⟩
    have q0 : ((n : Int) == 0) = false := by simp only [List.length_cons] at hn; simp; omega
    have HN := hid hn
    rw [← hn] at HA BA R0 R1 R2 R3 hl4 BW ZA ⊢
    clear hn d2 w0 w1 w2 HP lM hgW
    go_enter Tryz.func176, Tryz.ntmps176
    go_wp2
    go_ret
    refine ⟨_, ve, us, rfl, BA.out, HA.out, w.heap.size, w.heap.size + 1, w.heap.size + 1 + 1 + 1, w.heap.size + 1 + 1, rfl, ⟨R0.out, R1.out, hB, by omega⟩, ?_, R2.out, by omega⟩
    obtain ⟨g, off, cs, rfl, h1, h2, h3, h6⟩ := HLS.out (by simp)
    refine ⟨g, off, cap, cs, ?_, row_below h1 BW.out (row_lt h1), by omega, h2, h3, h6⟩
    rw [← HN.out]
    exact R3.out
end
end Go.Proofs.YtogphaiomlfofaaGreatDoor
