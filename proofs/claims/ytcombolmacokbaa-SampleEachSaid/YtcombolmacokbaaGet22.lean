/- The document's Get, Names, Wide, Caught: what each answers, in memory of its own. Conditions: those of each theorem, as typed. -/
import Derived.Test.YtcombolmacokbaaRef22b
namespace Go.Proofs.Ytcombolmacokbaa
open Go.RowKit

def histOf (s : List UInt8) : List Ob × List Ev × Bool :=
  if s == [115, 116, 97, 108, 101] then (staleO, staleE, true) else
  if s == [116, 111, 114, 110] then (tornO, tornE, true) else
  if s == [101, 97, 114, 108, 121] then (earlyO, earlyE, true) else
  if s == [112, 108, 97, 105, 110] then (plainO, plainE, true) else
  ([], [], false)
/-- A history and whether there is one, in memory of the call's own. -/
def RetHB (w : World) (r : List Ob × List Ev × Bool) (e : Ending) (w' : World) : Prop :=
  ∃ ov ev, e = .returned (.tuple #[.agg #[ov, ev], .bool r.2.2]) ∧ OwnO w' w.heap.size ov r.1 ∧ OwnE w' w.heap.size ev r.2.1 ∧ Below w.heap.size w w'
theorem resHB (cs : Array Value) (w w7 : World) (hb : Below w.heap.size w w7) (hr : w7.heap[w.heap.size]? = some (.cells cs 28)) {ov ev : Value} {os : List Ob} {es : List Ev} {b : Bool} {r : List Ob × List Ev × Bool} (hr : r = (os, es, b)) (ho : OwnO w7 (w.heap.size + 1) ov os) (he : OwnE w7 (w.heap.size + 1) ev es) :
    RetHB w r (.returned (.tuple #[.agg #[ov, ev], .bool b])) ((w7.setCell ⟨w.heap.size, 0, none⟩ ov).setCell ⟨w.heap.size, 1, none⟩ ev) := by
  subst hr
  exact ⟨ov, ev, rfl, ((ho.set (by omega)).set (by omega)).base (by omega), ((he.set (by omega)).set (by omega)).base (by omega), (hb.setCell (p := ⟨w.heap.size, 0, none⟩) (Nat.le_refl _) _).setCell (p := ⟨w.heap.size, 1, none⟩) (Nat.le_refl _) _⟩

theorem r_get (s : ByteArray) (w : World) : Calls Try.prog 11 #[.string s] w (RetHB w (histOf s.toList)) := by
  go_enter Try.func11, Try.ntmps11
  go_wp2_with fail
  · have hh : histOf s.toList = (staleO, staleE, true) := by simp only [histOf, *]; rfl
    have HH := hid hh
    clear hh
    refine (r_stale _).mono ?_
    rintro e w1 ⟨ov, ev, rfl, h1, h2, b1⟩
    have hr := row_below (row_new w (.cells #[.slice none 0 0, .slice none 0 0] 28)) b1 (by simp)
    have c0 := row_cell hr 0
    have c1 := row_cell hr 1
    have f0 := row_free hr 0
    have f1 := row_free hr 1
    have hb : Below w.heap.size w w1 := ((Below.refl _ _).alloc (Nat.le_refl _) _).trans (b1.mono (by simp))
    obtain ⟨a1, k1, n1, e1⟩ : ∃ a c n, ev = .slice a n c := by
      rcases h2.form with ⟨e, _⟩ | ⟨g, c, e, _⟩ <;> exact ⟨_, _, _, e⟩
    obtain ⟨a2, k2, n2, e2⟩ : ∃ a c n, ov = .slice a n c := by
      rcases h1.form with ⟨e, _⟩ | ⟨g, c, e, _⟩ <;> exact ⟨_, _, _, e⟩
    subst e1 e2
    have HB := hid hb
    have HR := hid hr
    have HO := hid (h1.base (B' := w.heap.size + 1) (by simp))
    have HE := hid (h2.base (B' := w.heap.size + 1) (by simp))
    clear hb hr h1 h2 b1
    go_wp2
    exact bodyPost_ret (v := .tuple #[.agg #[.slice a2 n2 k2, .slice a1 n1 k1], .bool true]) (by simp [results, Try.results11, go_sem, c0, c1]) rfl (resHB _ w w1 HB.out HR.out HH.out HO.out HE.out)
  · have hh : histOf s.toList = (tornO, tornE, true) := by simp only [histOf, *]; rfl
    have HH := hid hh
    clear hh
    refine (r_torn _).mono ?_
    rintro e w1 ⟨ov, ev, rfl, h1, h2, b1⟩
    have hr := row_below (row_new w (.cells #[.slice none 0 0, .slice none 0 0] 28)) b1 (by simp)
    have c0 := row_cell hr 0
    have c1 := row_cell hr 1
    have f0 := row_free hr 0
    have f1 := row_free hr 1
    have hb : Below w.heap.size w w1 := ((Below.refl _ _).alloc (Nat.le_refl _) _).trans (b1.mono (by simp))
    obtain ⟨a1, k1, n1, e1⟩ : ∃ a c n, ev = .slice a n c := by
      rcases h2.form with ⟨e, _⟩ | ⟨g, c, e, _⟩ <;> exact ⟨_, _, _, e⟩
    obtain ⟨a2, k2, n2, e2⟩ : ∃ a c n, ov = .slice a n c := by
      rcases h1.form with ⟨e, _⟩ | ⟨g, c, e, _⟩ <;> exact ⟨_, _, _, e⟩
    subst e1 e2
    have HB := hid hb
    have HR := hid hr
    have HO := hid (h1.base (B' := w.heap.size + 1) (by simp))
    have HE := hid (h2.base (B' := w.heap.size + 1) (by simp))
    clear hb hr h1 h2 b1
    go_wp2
    exact bodyPost_ret (v := .tuple #[.agg #[.slice a2 n2 k2, .slice a1 n1 k1], .bool true]) (by simp [results, Try.results11, go_sem, c0, c1]) rfl (resHB _ w w1 HB.out HR.out HH.out HO.out HE.out)
  · have hh : histOf s.toList = (earlyO, earlyE, true) := by simp only [histOf, *]; rfl
    have HH := hid hh
    clear hh
    refine (r_early _).mono ?_
    rintro e w1 ⟨ov, ev, rfl, h1, h2, b1⟩
    have hr := row_below (row_new w (.cells #[.slice none 0 0, .slice none 0 0] 28)) b1 (by simp)
    have c0 := row_cell hr 0
    have c1 := row_cell hr 1
    have f0 := row_free hr 0
    have f1 := row_free hr 1
    have hb : Below w.heap.size w w1 := ((Below.refl _ _).alloc (Nat.le_refl _) _).trans (b1.mono (by simp))
    obtain ⟨a1, k1, n1, e1⟩ : ∃ a c n, ev = .slice a n c := by
      rcases h2.form with ⟨e, _⟩ | ⟨g, c, e, _⟩ <;> exact ⟨_, _, _, e⟩
    obtain ⟨a2, k2, n2, e2⟩ : ∃ a c n, ov = .slice a n c := by
      rcases h1.form with ⟨e, _⟩ | ⟨g, c, e, _⟩ <;> exact ⟨_, _, _, e⟩
    subst e1 e2
    have HB := hid hb
    have HR := hid hr
    have HO := hid (h1.base (B' := w.heap.size + 1) (by simp))
    have HE := hid (h2.base (B' := w.heap.size + 1) (by simp))
    clear hb hr h1 h2 b1
    go_wp2
    exact bodyPost_ret (v := .tuple #[.agg #[.slice a2 n2 k2, .slice a1 n1 k1], .bool true]) (by simp [results, Try.results11, go_sem, c0, c1]) rfl (resHB _ w w1 HB.out HR.out HH.out HO.out HE.out)
  · have hh : histOf s.toList = (plainO, plainE, true) := by simp only [histOf, *]; rfl
    have HH := hid hh
    clear hh
    refine (r_plain _).mono ?_
    rintro e w1 ⟨ov, ev, rfl, h1, h2, b1⟩
    have hr := row_below (row_new w (.cells #[.slice none 0 0, .slice none 0 0] 28)) b1 (by simp)
    have c0 := row_cell hr 0
    have c1 := row_cell hr 1
    have f0 := row_free hr 0
    have f1 := row_free hr 1
    have hb : Below w.heap.size w w1 := ((Below.refl _ _).alloc (Nat.le_refl _) _).trans (b1.mono (by simp))
    obtain ⟨a1, k1, n1, e1⟩ : ∃ a c n, ev = .slice a n c := by
      rcases h2.form with ⟨e, _⟩ | ⟨g, c, e, _⟩ <;> exact ⟨_, _, _, e⟩
    obtain ⟨a2, k2, n2, e2⟩ : ∃ a c n, ov = .slice a n c := by
      rcases h1.form with ⟨e, _⟩ | ⟨g, c, e, _⟩ <;> exact ⟨_, _, _, e⟩
    subst e1 e2
    have HB := hid hb
    have HR := hid hr
    have HO := hid (h1.base (B' := w.heap.size + 1) (by simp))
    have HE := hid (h2.base (B' := w.heap.size + 1) (by simp))
    clear hb hr h1 h2 b1
    go_wp2
    exact bodyPost_ret (v := .tuple #[.agg #[.slice a2 n2 k2, .slice a1 n1 k1], .bool true]) (by simp [results, Try.results11, go_sem, c0, c1]) rfl (resHB _ w w1 HB.out HR.out HH.out HO.out HE.out)
  · have hh : histOf s.toList = ([], [], false) := by simp only [histOf, *]; rfl
    go_wp2
    exact bodyPost_ret (v := .tuple #[.agg #[.slice none 0 0, .slice none 0 0], .bool false]) (by simp [results, Try.results11, go_sem]) rfl
      (by rw [hh]; exact ⟨_, _, rfl, OwnF.nil _ _, OwnF.nil _ _, (Below.refl _ _).alloc (Nat.le_refl _) _⟩)

/-- The events of the i-th transaction of a wide history. -/
def evsI (i : Int) : List Ev :=
  [⟨1, i, 0, 0, 0, 0, 0, 0⟩, ⟨2, i, 0, 0, 1, 0, 0, 0⟩, ⟨3, i, 0, 0, 0, 0, i - 1, 3⟩, ⟨2, i, 0, 0, 2, 0, i, 0⟩, ⟨3, i, 0, 0, 0, 0, 0, 1⟩, ⟨4, i, 0, 0, 0, 0, 0, 0⟩, ⟨5, i, 0, 0, 0, 0, 0, 0⟩]
def wideE : Nat → List Ev
  | 0 => []
  | k + 1 => wideE k ++ evsI ((k : Int) + 1)
theorem wideE_length : ∀ k, (wideE k).length = 7 * k
  | 0 => rfl
  | k + 1 => by simp [wideE, wideE_length k, evsI]; omega
def wideOf (n : Int) : List Ob × List Ev × Bool := if 0 ≤ n ∧ n ≤ 13 then ([⟨1, 0⟩], wideE n.toNat, true) else ([], [], false)

theorem r_wide_no (n : Int) (hn : n < 0 ∨ 13 < n) (w : World) : Calls Try.prog 12 #[.int .i64 n] w (RetHB w (wideOf n)) := by
  have hh : wideOf n = ([], [], false) := by unfold wideOf; rw [if_neg (by omega)]
  rw [hh]
  clear hh
  by_cases h0 : n < 0
  · go_enter Try.func12, Try.ntmps12
    go_wp2
    exact bodyPost_ret (v := .tuple #[.agg #[.slice none 0 0, .slice none 0 0], .bool false]) (by simp [results, Try.results12, go_sem]) rfl
      ⟨_, _, rfl, OwnF.nil _ _, OwnF.nil _ _, (Below.refl _ _).alloc (Nat.le_refl _) _⟩
  · have h1 : 13 < n := by omega
    go_enter Try.func12, Try.ntmps12
    go_wp2
    exact bodyPost_ret (v := .tuple #[.agg #[.slice none 0 0, .slice none 0 0], .bool false]) (by simp [results, Try.results12, go_sem]) rfl
      ⟨_, _, rfl, OwnF.nil _ _, OwnF.nil _ _, (Below.refl _ _).alloc (Nat.le_refl _) _⟩

set_option maxHeartbeats 400000 in
theorem r_wide_yes (n : Nat) (hn : n ≤ 13) (w : World) : Calls Try.prog 12 #[.int .i64 n] w (RetHB w (wideOf n)) := by
  have hh : wideOf n = ([⟨1, 0⟩], wideE n, true) := by unfold wideOf; rw [if_pos (by omega)]; rfl
  rw [hh]
  clear hh
  have h0 : ¬ ((n : Int) < 0) := by omega
  have h1 : ¬ ((13 : Int) < (n : Int)) := by omega
  go_enter Try.func12, Try.ntmps12
  go_wp2
  have hz : w.heap.size + 1 ≤ (w.alloc (.cells #[.slice none 0 0, .slice none 0 0] 28)).heap.size := by simp
  have hr0 := row_new w (.cells #[.slice none 0 0, .slice none 0 0] 28)
  have HR0 := hid hr0
  clear hr0
  go_loopw [4, 5] (fun v i wr => ∃ k : Nat, k ≤ n ∧ i = .int .i64 ((k : Int) + 1) ∧ OwnE wr (w.heap.size + 1) v (wideE k) ∧ Grw (w.alloc (.cells #[.slice none 0 0, .slice none 0 0] 28)) wr (.slice none 0 0) v) (fun _ i _ => n + 1 - (intOf i).toNat)
  case atStart => exact ⟨0, by omega, by go_num, OwnF.nil _ _, Grw.refl _ _⟩
  case round =>
    obtain ⟨k, hk, rfl, ho, G⟩ := hrel
    have hw := wideE_length k
    have HW := hid hw
    clear hw
    have hz1 := Nat.le_trans hz G.size
    by_cases hlt : k < n
    · go_wp2_with fail
      refine (r_begin (w.heap.size + 1) _ _ _ 0 _ ho hz1 (by rw [HW.out]; omega)).mono ?_
      rintro e w1 ⟨v1, rfl, h1, g1⟩
      go_wp2_with fail
      refine (r_read (w.heap.size + 1) _ _ _ 0 _ _ h1 (Nat.le_trans hz1 g1.size) (by simp [HW.out]; omega)).mono ?_
      rintro e w2 ⟨v2, rfl, h2, g2⟩
      have G2 := g1.trans g2
      go_wp2_with fail
      refine (r_write (w.heap.size + 1) _ _ _ 0 _ _ h2 (Nat.le_trans hz1 G2.size) (by simp [HW.out]; omega)).mono ?_
      rintro e w3 ⟨v3, rfl, h3, g3⟩
      have G3 := G2.trans g3
      go_wp2_with fail
      refine (r_commit (w.heap.size + 1) _ _ _ _ h3 (Nat.le_trans hz1 G3.size) (by simp [HW.out]; omega)).mono ?_
      rintro e w4 ⟨v4, rfl, h4, g4⟩
      have G4 := G.trans (G3.trans g4)
      clear h1 h2 h3 g1 g2 g3 g4 G G2 G3 ho
      go_wp2
      go_roundw
      case rel => exact ⟨k + 1, by omega, by go_num, by simpa [wideE, evsI] using h4, G4⟩
      case measure => simp [intOf]; omega
    · obtain rfl : k = n := by omega
      go_wp2_with fail
      refine (r_registers 1 (by omega) _).mono ?_
      rintro e w7 ⟨v7, rfl, h7, g7⟩
      have hrf := row_below (row_grw HR0.out G (by simp [Value.ownBlock])) g7 (by omega)
      have hb : Below w.heap.size w w7 := (((Below.refl _ _).alloc (Nat.le_refl _) _).trans (G.below (by simp) (by simp [Value.ownBlock]))).trans (g7.mono (by omega))
      have he := OwnF.below ho g7
      have ho' := h7.base (B' := w.heap.size + 1) hz1
      have c0 := row_cell hrf 0
      have c1 := row_cell hrf 1
      have f0 := row_free hrf 0
      have f1 := row_free hrf 1
      obtain ⟨a1, k1, n1, e1⟩ : ∃ a c n, v7 = .slice a n c := by
        rcases h7.form with ⟨e, _⟩ | ⟨g, c, e, _⟩ <;> exact ⟨_, _, _, e⟩
      obtain ⟨a2, k2, n2, e2⟩ : ∃ a c n, u4 = .slice a n c := by
        rcases ho.form with ⟨e, _⟩ | ⟨g, c, e, _⟩ <;> exact ⟨_, _, _, e⟩
      subst e1 e2
      have HB := hid hb
      have HR := hid hrf
      have HO := hid ho'
      have HE := hid he
      clear hb hrf ho' he ho G h7 g7
      go_wp2
      exact bodyPost_ret (v := .tuple #[.agg #[.slice a1 n1 k1, .slice a2 n2 k2], .bool true]) (by simp [results, Try.results12, go_sem, c0, c1]) rfl (resHB _ w w7 HB.out HR.out rfl HO.out HE.out)

theorem r_wide (n : Int) (w : World) : Calls Try.prog 12 #[.int .i64 n] w (RetHB w (wideOf n)) := by
  by_cases h : 0 ≤ n ∧ n ≤ 13
  · obtain ⟨m, rfl⟩ := Int.eq_ofNat_of_zero_le h.1
    exact r_wide_yes m (by omega) w
  · exact r_wide_no n (by omega) w

/-- The names, in a list of the call's own. -/
def nameL : List ByteArray := [⟨#[115, 116, 97, 108, 101]⟩, ⟨#[116, 111, 114, 110]⟩, ⟨#[101, 97, 114, 108, 121]⟩, ⟨#[112, 108, 97, 105, 110]⟩]
def strC (s : ByteArray) : List Value := [.string s]
abbrev OwnS := OwnF strC 9 1
def RetS (w : World) (l : List ByteArray) (e : Ending) (w' : World) : Prop := ∃ v, e = .returned v ∧ OwnS w' w.heap.size v l ∧ Below w.heap.size w w'
theorem flat_str (l : List ByteArray) : l.flatMap strC = l.map .string := by induction l with | nil => rfl | cons x l ih => simp [strC, ih]
theorem r_names (w : World) : Calls Try.prog 18 #[] w (RetS w nameL) := by
  go_enter Try.func18, Try.ntmps18
  go_wp2
  go_ret
  exact ⟨_, rfl, OwnF.lit (f := strC) w w.heap.size (Nat.le_refl _) nameL (fun _ => rfl) (by decide), (Below.refl _ _).alloc (Nat.le_refl _) _⟩
theorem p_names (w : World) : Calls Try.prog 7 #[] w (RetS w nameL) := by
  go_enter Try.func7, Try.ntmps7
  go_wp2
  go_ret
  exact ⟨_, rfl, OwnF.lit (f := strC) w w.heap.size (Nat.le_refl _) nameL (fun _ => rfl) (by decide), (Below.refl _ _).alloc (Nat.le_refl _) _⟩
end Go.Proofs.Ytcombolmacokbaa
