/- The document's samples: what each function of that package answers, in memory of its own. Conditions: those of each theorem, as typed. -/
import Derived.Test.YtcombolmacokbaaSameP
import Derived.Test.YtcombolmacokbaaApp
namespace Go.Proofs.Ytcombolmacokbaa
open Go.RowKit

/-- The events es, in a list of the call's own (from block B on). -/
abbrev OwnE := OwnF Ev.cells 39 8
abbrev OwnO := OwnF Ob.cells 41 2
def RetE (B : Nat) (w : World) (v : Value) (es : List Ev) (e : Ending) (w' : World) : Prop := ∃ v', e = .returned v' ∧ OwnE w' B v' es ∧ Grw w w' v v'
theorem infoE : (Try.prog.info? 39).map (fun i => (i.zero, i.size, i.bytes)) = some (some (.agg #[.int .i64 0, .int .i64 0, .int .i64 0, .int .i64 0, .int .i64 0, .int .i64 0, .int .i64 0, .int .i64 0]), 8, 64) := by kernel_rfl
theorem infoO : (Try.prog.info? 41).map (fun i => (i.zero, i.size, i.bytes)) = some (some (.agg #[.int .i64 0, .int .i64 0]), 2, 16) := by kernel_rfl
theorem ev_one (e : Ev) : ∀ u ∈ e.cells, u.oneCell' = true := by
  intro u hu
  simp only [Ev.cells, List.mem_cons, List.not_mem_nil, or_false] at hu
  rcases hu with rfl | rfl | rfl | rfl | rfl | rfl | rfl | rfl <;> rfl
theorem ob_one (e : Ob) : ∀ u ∈ e.cells, u.oneCell' = true := by
  intro u hu
  simp only [Ob.cells, List.mem_cons, List.not_mem_nil, or_false] at hu
  rcases hu with rfl | rfl <;> rfl
theorem r_begin (B : Nat) (v : Value) (es : List Ev) (tx th : Int) (w : World) (hown : OwnE w B v es) (hB : B ≤ w.heap.size) (hn : es.length ≤ 1000) :
    Calls Try.prog 37 #[v, .int .i64 tx, .int .i64 th] w (RetE B w v (es ++ [⟨1, tx, th, 0, 0, 0, 0, 0⟩])) := by
  go_enter Try.func37, Try.ntmps37
  go_wp2_with (at_builtin; refine wpList_appF rfl _ _ _ rfl _ 64 Try.underlying26 infoE rfl hown ⟨1, tx, th, 0, 0, 0, 0, 0⟩ hB (by rfl) (by rfl) (by first | rfl | simp) rfl (ev_one _) (by first | omega | (simp only [List.length_append, List.length_cons, List.length_nil, List.length_replicate]; omega)) (by first | omega | (simp only [List.length_append, List.length_cons, List.length_nil, List.length_replicate]; omega)) ?_; intro g cap w' h1 h2)
  go_ret
  exact ⟨_, rfl, h1, h2⟩

theorem r_call (B : Nat) (v : Value) (es : List Ev) (tx obj op key val ret got : Int) (w : World) (hown : OwnE w B v es) (hB : B ≤ w.heap.size) (hn : es.length ≤ 1000) :
    Calls Try.prog 51 #[v, .int .i64 tx, .int .i64 obj, .int .i64 op, .int .i64 key, .int .i64 val, .int .i64 ret, .int .i64 got] w
      (RetE B w v (es ++ [⟨2, tx, 0, obj, op, key, val, 0⟩] ++ [⟨3, tx, 0, 0, 0, 0, got, ret⟩])) := by
  go_enter Try.func51, Try.ntmps51
  go_wp2_with (first | (at_builtin; refine wpList_appF rfl _ _ _ rfl _ 64 Try.underlying26 infoE rfl hown ⟨2, tx, 0, obj, op, key, val, 0⟩ hB (by rfl) (by rfl) (by first | rfl | simp) rfl (ev_one _) (by first | omega | (simp only [List.length_append, List.length_cons, List.length_nil, List.length_replicate]; omega)) (by first | omega | (simp only [List.length_append, List.length_cons, List.length_nil, List.length_replicate]; omega)) ?_; intro g cap w1 h1 h2; have h3 := h1; have h4 := Nat.le_trans hB h2.size; clear hown hB h1) | (at_builtin; refine wpList_appF rfl _ _ _ rfl _ 64 Try.underlying26 infoE rfl h3 ⟨3, tx, 0, 0, 0, 0, got, ret⟩ h4 (by rfl) (by rfl) (by first | rfl | simp) rfl (ev_one _) (by first | omega | (simp only [List.length_append, List.length_cons, List.length_nil, List.length_replicate]; omega)) (by first | omega | (simp only [List.length_append, List.length_cons, List.length_nil, List.length_replicate]; omega)) ?_; intro g2 cap2 w2 h5 h6))
  go_ret
  exact ⟨_, rfl, (by have h := h5; simp only [List.length_append, List.length_cons, List.length_nil, Nat.zero_add, List.length_replicate] at h; exact h), h2.trans (by have h := h6; simp only [List.length_append, List.length_cons, List.length_nil, Nat.zero_add, List.length_replicate] at h; exact h)⟩

theorem r_commit (B : Nat) (v : Value) (es : List Ev) (tx : Int) (w : World) (hown : OwnE w B v es) (hB : B ≤ w.heap.size) (hn : es.length ≤ 1000) :
    Calls Try.prog 34 #[v, .int .i64 tx] w
      (RetE B w v (es ++ [⟨4, tx, 0, 0, 0, 0, 0, 0⟩] ++ [⟨5, tx, 0, 0, 0, 0, 0, 0⟩])) := by
  go_enter Try.func34, Try.ntmps34
  go_wp2_with (first | (at_builtin; refine wpList_appF rfl _ _ _ rfl _ 64 Try.underlying26 infoE rfl hown ⟨4, tx, 0, 0, 0, 0, 0, 0⟩ hB (by rfl) (by rfl) (by first | rfl | simp) rfl (ev_one _) (by first | omega | (simp only [List.length_append, List.length_cons, List.length_nil, List.length_replicate]; omega)) (by first | omega | (simp only [List.length_append, List.length_cons, List.length_nil, List.length_replicate]; omega)) ?_; intro g cap w1 h1 h2; have h3 := h1; have h4 := Nat.le_trans hB h2.size; clear hown hB h1) | (at_builtin; refine wpList_appF rfl _ _ _ rfl _ 64 Try.underlying26 infoE rfl h3 ⟨5, tx, 0, 0, 0, 0, 0, 0⟩ h4 (by rfl) (by rfl) (by first | rfl | simp) rfl (ev_one _) (by first | omega | (simp only [List.length_append, List.length_cons, List.length_nil, List.length_replicate]; omega)) (by first | omega | (simp only [List.length_append, List.length_cons, List.length_nil, List.length_replicate]; omega)) ?_; intro g2 cap2 w2 h5 h6))
  go_ret
  exact ⟨_, rfl, (by have h := h5; simp only [List.length_append, List.length_cons, List.length_nil, Nat.zero_add, List.length_replicate] at h; exact h), h2.trans (by have h := h6; simp only [List.length_append, List.length_cons, List.length_nil, Nat.zero_add, List.length_replicate] at h; exact h)⟩

theorem r_read (B : Nat) (v : Value) (es : List Ev) (tx obj got : Int) (w : World) (hown : OwnE w B v es) (hB : B ≤ w.heap.size) (hn : es.length ≤ 1000) :
    Calls Try.prog 36 #[v, .int .i64 tx, .int .i64 obj, .int .i64 got] w
      (RetE B w v (es ++ [⟨2, tx, 0, obj, 1, 0, 0, 0⟩] ++ [⟨3, tx, 0, 0, 0, 0, got, 3⟩])) := by
  go_enter Try.func36, Try.ntmps36
  go_wp2_with fail
  refine (r_call B v es tx obj 1 0 0 3 got w hown hB hn).mono ?_
  rintro e w1 ⟨v', rfl, h1, h2⟩
  go_wp2
  go_ret
  exact ⟨_, rfl, h1, h2⟩

theorem r_write (B : Nat) (v : Value) (es : List Ev) (tx obj val : Int) (w : World) (hown : OwnE w B v es) (hB : B ≤ w.heap.size) (hn : es.length ≤ 1000) :
    Calls Try.prog 35 #[v, .int .i64 tx, .int .i64 obj, .int .i64 val] w
      (RetE B w v (es ++ [⟨2, tx, 0, obj, 2, 0, val, 0⟩] ++ [⟨3, tx, 0, 0, 0, 0, 0, 1⟩])) := by
  go_enter Try.func35, Try.ntmps35
  go_wp2_with fail
  refine (r_call B v es tx obj 2 0 val 1 0 w hown hB hn).mono ?_
  rintro e w1 ⟨v', rfl, h1, h2⟩
  go_wp2
  go_ret
  exact ⟨_, rfl, h1, h2⟩

def RetO (w : World) (os : List Ob) (e : Ending) (w' : World) : Prop := ∃ v', e = .returned v' ∧ OwnO w' w.heap.size v' os ∧ Below w.heap.size w w'

theorem r_registers (n : Nat) (hn : n ≤ 1000) (w : World) :
    Calls Try.prog 38 #[.int .i64 n] w (RetO w (List.replicate n ⟨1, 0⟩)) := by
  go_enter Try.func38, Try.ntmps38
  go_wp2
  go_loopw [3, 4] (fun v i wr => ∃ k : Nat, k ≤ n ∧ i = .int .i64 k ∧ OwnO wr w.heap.size v (List.replicate k ⟨1, 0⟩) ∧ Below w.heap.size w wr) (fun _ i _ => n - (intOf i).toNat)
  case atStart => exact ⟨0, by omega, rfl, OwnF.nil _ _, Below.refl _ _⟩
  case round =>
    obtain ⟨k, hk, rfl, hown, hB⟩ := hrel
    have hs := hB.size
    by_cases hlt : k < n
    · go_wp2_with (at_builtin; refine wpList_appF rfl _ _ _ rfl _ 16 Try.underlying25 infoO rfl hown ⟨1, 0⟩ hs (by rfl) (by rfl) (by first | rfl | simp) rfl (ob_one _) (by first | omega | (simp only [List.length_append, List.length_cons, List.length_nil, List.length_replicate]; omega)) (by first | omega | (simp only [List.length_append, List.length_cons, List.length_nil, List.length_replicate]; omega)) ?_; intro g cap w1 h1 h2)
      go_roundw
      case rel => exact ⟨k + 1, by omega, by go_num, by rw [List.replicate_succ']; simpa only [List.length_replicate] using h1, hB.trans (h2.below hs (fun k hk => (hown.lt k hk).1))⟩
      case measure => simp [intOf]; omega
    · go_wp2
      go_ret
      obtain rfl : k = n := by omega
      exact ⟨_, rfl, hown, hB⟩

/-- A history, in memory of the call's own. -/
def RetH (w : World) (os : List Ob) (es : List Ev) (e : Ending) (w' : World) : Prop :=
  ∃ ov ev, e = .returned (.agg #[ov, ev]) ∧ OwnO w' w.heap.size ov os ∧ OwnE w' w.heap.size ev es ∧ Below w.heap.size w w'

def staleO : List Ob := [⟨1, 0⟩]
def staleE : List Ev := [⟨1, 1, 0, 0, 0, 0, 0, 0⟩, ⟨2, 1, 0, 0, 2, 0, 1, 0⟩, ⟨3, 1, 0, 0, 0, 0, 0, 1⟩, ⟨4, 1, 0, 0, 0, 0, 0, 0⟩, ⟨5, 1, 0, 0, 0, 0, 0, 0⟩,
  ⟨1, 2, 1, 0, 0, 0, 0, 0⟩, ⟨2, 2, 0, 0, 1, 0, 0, 0⟩, ⟨3, 2, 0, 0, 0, 0, 0, 3⟩, ⟨4, 2, 0, 0, 0, 0, 0, 0⟩, ⟨5, 2, 0, 0, 0, 0, 0, 0⟩]

theorem own_ge {w : World} {B : Nat} {v : Value} {es : List Ev} (h : OwnE w B v es) : ∀ k, v.ownBlock = some k → B ≤ k := fun k hk => (h.lt k hk).1
theorem resH (cs : Array Value) (w w7 : World) (hb : Below w.heap.size w w7) (hr : w7.heap[w.heap.size]? = some (.cells cs 28)) {ov ev : Value} {os : List Ob} {es : List Ev} (ho : OwnO w7 (w.heap.size + 1) ov os) (he : OwnE w7 (w.heap.size + 1) ev es) :
    RetH w os es (.returned (.agg #[ov, ev])) ((w7.setCell ⟨w.heap.size, 0, none⟩ ov).setCell ⟨w.heap.size, 1, none⟩ ev) :=
  ⟨ov, ev, rfl, ((ho.set (by omega)).set (by omega)).base (by omega), ((he.set (by omega)).set (by omega)).base (by omega), (hb.setCell (p := ⟨w.heap.size, 0, none⟩) (Nat.le_refl _) _).setCell (p := ⟨w.heap.size, 1, none⟩) (Nat.le_refl _) _⟩

theorem r_stale (w : World) : Calls Try.prog 30 #[] w (RetH w staleO staleE) := by
  go_enter Try.func30, Try.ntmps30
  go_wp2_with fail
  have hz : w.heap.size + 1 ≤ (w.alloc (.cells #[.slice none 0 0, .slice none 0 0] 28)).heap.size := by simp
  have hr0 := row_new w (.cells #[.slice none 0 0, .slice none 0 0] 28)
  refine (r_begin (w.heap.size + 1) _ [] 1 0 _ (OwnF.nil _ _) hz (by simp)).mono ?_
  rintro e w1 ⟨v1, rfl, h1, G1⟩
  go_wp2_with fail
  refine (r_write (w.heap.size + 1) _ _ 1 0 1 _ h1 (Nat.le_trans hz G1.size) (by simp)).mono ?_
  rintro e w2 ⟨v2, rfl, h2, g2⟩
  have G2 := G1.trans g2
  go_wp2_with fail
  refine (r_commit (w.heap.size + 1) _ _ 1 _ h2 (Nat.le_trans hz G2.size) (by simp)).mono ?_
  rintro e w3 ⟨v3, rfl, h3, g3⟩
  have G3 := G2.trans g3
  go_wp2_with fail
  refine (r_begin (w.heap.size + 1) _ _ 2 1 _ h3 (Nat.le_trans hz G3.size) (by simp)).mono ?_
  rintro e w4 ⟨v4, rfl, h4, g4⟩
  have G4 := G3.trans g4
  go_wp2_with fail
  refine (r_read (w.heap.size + 1) _ _ 2 0 0 _ h4 (Nat.le_trans hz G4.size) (by simp)).mono ?_
  rintro e w5 ⟨v5, rfl, h5, g5⟩
  have G5 := G4.trans g5
  go_wp2_with fail
  refine (r_commit (w.heap.size + 1) _ _ 2 _ h5 (Nat.le_trans hz G5.size) (by simp)).mono ?_
  rintro e w6 ⟨v6, rfl, h6, g6⟩
  have G6 := G5.trans g6
  go_wp2_with fail
  refine (r_registers 1 (by omega) _).mono ?_
  rintro e w7 ⟨v7, rfl, h7, g7⟩
  have hr7 := row_below (row_grw hr0 G6 (by simp [Value.ownBlock])) g7 (by have := G6.size; simp at this; omega)
  have c0 := row_cell hr7 0
  have c1 := row_cell hr7 1
  have f0 := row_free hr7 0
  have f1 := row_free hr7 1
  have hb : Below w.heap.size w w7 := (((Below.refl _ _).alloc (Nat.le_refl _) _).trans (G6.below (by simp) (by simp [Value.ownBlock]))).trans (g7.mono (by have := G6.size; simp at this; omega))
  have HB := hid hb
  have HR := hid hr7
  have HO : Hid (OwnO w7 (w.heap.size + 1) v7 staleO) := hid (h7.base (by have := G6.size; simp at this; omega))
  have HE : Hid (OwnE w7 (w.heap.size + 1) v6 staleE) := hid (OwnF.below h6 g7)
  clear hb hr7 h7 h6 g7 g6 g5 g4 g3 g2 G6 G5 G4 G3 G2 G1 h1 h2 h3 h4 h5 hr0
  obtain ⟨a6, k6, n6, e6⟩ : ∃ a c n, v6 = .slice a n c := by
    rcases HE.out.form with ⟨e, _⟩ | ⟨g, c, e, _⟩ <;> exact ⟨_, _, _, e⟩
  obtain ⟨a7, k7, n7, e7⟩ : ∃ a c n, v7 = .slice a n c := by
    rcases HO.out.form with ⟨e, _⟩ | ⟨g, c, e, _⟩ <;> exact ⟨_, _, _, e⟩
  subst e6 e7
  go_wp2
  exact bodyPost_ret (v := .agg #[.slice a7 n7 k7, .slice a6 n6 k6]) (by simp [results, Try.results30, go_sem, c0, c1]) rfl (resH _ w w7 HB.out HR.out HO.out HE.out)
end Go.Proofs.Ytcombolmacokbaa
