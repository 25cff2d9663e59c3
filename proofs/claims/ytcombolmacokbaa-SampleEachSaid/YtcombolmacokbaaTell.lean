/- The program's Get and Wide. Conditions: those of each theorem, as typed. -/
import Derived.Test.YtcombolmacokbaaHistories
import Derived.Test.YtcombolmacokbaaGet22
import Derived.Test.YtcombolmacokbaaCaught
namespace Go.Proofs.Ytcombolmacokbaa
open Go.RowKit
open Go.Instr (findNow sameNow)

theorem findNow_some' {s : ByteArray} : ∀ (l : List MapEntry) (i : Nat), (∀ e ∈ l, ∃ s', e.key = .string s') → (∃ e ∈ l, e.key = .string s) →
    ∃ j, ∃ e ∈ l, e.key = .string s ∧ findNow .string (.string s) l i = some (some (j, e.val))
  | [], _, _, h => by obtain ⟨e, he, _⟩ := h; cases he
  | e :: l, i, h1, h3 => by
    obtain ⟨s', hk⟩ := h1 e (List.mem_cons_self)
    rw [findNow, hk]
    simp only [sameNow]
    by_cases hs : s = s'
    · subst hs
      have hb : (s == s) = true := by rw [beq_ba]; simp
      simp only [hb]
      exact ⟨i, e, List.mem_cons_self, hk, rfl⟩
    · have hb : (s == s') = false := by rw [beq_ba]; simpa using hs
      simp only [hb]
      obtain ⟨j, e2, h4, h5, h6⟩ := findNow_some' l (i + 1) (fun e he => h1 e (List.mem_cons_of_mem _ he)) (by
        obtain ⟨e', he', hk'⟩ := h3
        rcases List.mem_cons.1 he' with h | h
        · subst h
          rw [hk] at hk'
          exact absurd (by injection hk' with h; exact h.symm) hs
        · exact ⟨e', h, hk'⟩)
      exact ⟨j, e2, List.mem_cons_of_mem _ h4, h5, h6⟩

theorem ba_loop (s : ByteArray) : ∀ (n i : Nat) (r : List UInt8), s.size - i = n → ByteArray.toList.loop s i r = r.reverse ++ s.data.toList.drop i
  | 0, i, r, h => by
    unfold ByteArray.toList.loop
    have h1 : s.size = s.data.size := rfl
    rw [if_neg (by omega), List.drop_eq_nil_of_le (by simp; omega)]
    simp
  | n + 1, i, r, h => by
    unfold ByteArray.toList.loop
    have h1 : s.size = s.data.size := rfl
    rw [if_pos (by omega), ba_loop s n (i + 1) _ (by omega)]
    have hi : i < s.data.toList.length := by simp; omega
    rw [List.drop_eq_getElem_cons hi]
    have : s.get! i = s.data.toList[i] := by
      show s.data[i]! = _
      rw [getElem!_pos s.data i (by simpa using hi)]
      simp
    simp [this]
theorem ba_toList (s : ByteArray) : s.toList = s.data.toList := by
  unfold ByteArray.toList
  rw [ba_loop s _ 0 [] rfl]
  simp

theorem call_fun {K : Nat} {os : List Ob} {es : List Ev} {v : Value} {w : World} (h : FunAt w K v os) (h0 : 0 < os.length) (hn : os.length ≤ 100)
    (hcall : ∀ (args : Array Value) (w' : World), (callFunc K args).run Try.prog w' = .ok (.enter K args) w')
    (hf : ∀ (w' : World) (bm : Nat) (ov : Value), Mk w' bm ov [] → Calls Try.prog K #[.pointer (some ⟨bm, 0, none⟩)] w' (RetM bm w' ov es)) :
    ∃ bo bf, v = .func (.func 49) #[] #[.pointer (some ⟨bo, 0, none⟩), .pointer (some ⟨bf, 0, none⟩)] ∧
      Calls Try.prog 49 #[.pointer (some ⟨bo, 0, none⟩), .pointer (some ⟨bf, 0, none⟩)] w (RetH w os es) := by
  obtain ⟨bo, bf, b, rfl, h1, h2, h3⟩ := h
  refine ⟨bo, bf, rfl, ?_⟩
  exact p_made1 K #[] bo bf (.slice (some ⟨b, 0, none⟩) os.length os.length) os es w h0 hn (row_cell h1 0) (row_cell h2 0) (row_lt h1) (row_lt h2)
    (sl_row h3 (row_lt h3) (by omega) (flat_length Ob.cells 2 Ob.len os) (by simp)) hcall (fun w' bm ov _ _ hm => hf w' bm ov hm)

/-- A function of the table: its history. -/
theorem call_HT {x : ByteArray × Nat × List Ob} (hx : x ∈ HT) {v : Value} {w : World} (h : FunAt w x.2.1 v x.2.2) :
    ∃ es, histOf x.1.toList = (x.2.2, es, true) ∧ ∃ bo bf, v = .func (.func 49) #[] #[.pointer (some ⟨bo, 0, none⟩), .pointer (some ⟨bf, 0, none⟩)] ∧
      Calls Try.prog 49 #[.pointer (some ⟨bo, 0, none⟩), .pointer (some ⟨bf, 0, none⟩)] w (RetH w x.2.2 es) := by
  simp only [HT, List.mem_cons, List.not_mem_nil, or_false] at hx
  rcases hx with rfl | rfl | rfl | rfl
  · exact ⟨staleE, by simp [histOf, ht0, ba_toList], call_fun h (by decide) (by decide) (run_callFunc_body (fn := Try.f43) rfl (by rfl) rfl) fun w' bm ov hm => p_stale bm ov w' hm⟩
  · exact ⟨tornE, by simp [histOf, ht1, ba_toList], call_fun h (by decide) (by decide) (run_callFunc_body (fn := Try.f44) rfl (by rfl) rfl) fun w' bm ov hm => p_torn bm ov w' hm⟩
  · exact ⟨earlyE, by simp [histOf, ht2, ba_toList], call_fun h (by decide) (by decide) (run_callFunc_body (fn := Try.f46) rfl (by rfl) rfl) fun w' bm ov hm => p_early bm ov w' hm⟩
  · exact ⟨plainE, by simp [histOf, ht3, ba_toList], call_fun h (by decide) (by decide) (run_callFunc_body (fn := Try.f47) rfl (by rfl) rfl) fun w' bm ov hm => p_plain bm ov w' hm⟩

theorem HT_names : ∀ x ∈ HT, ∀ y ∈ HT, x.1 = y.1 → x = y := by
  intro x hx y hy
  simp only [HT, List.mem_cons, List.not_mem_nil, or_false] at hx hy
  rcases hx with rfl | rfl | rfl | rfl <;> rcases hy with rfl | rfl | rfl | rfl <;> simp [ht0, ht1, ht2, ht3]

theorem histOf_no {s : ByteArray} (h : ∀ x ∈ HT, s ≠ x.1) : histOf s.toList = ([], [], false) := by
  have h1 : s ≠ ⟨#[115, 116, 97, 108, 101]⟩ := h ht0 (by simp [HT])
  have h2 : s ≠ ⟨#[116, 111, 114, 110]⟩ := h ht1 (by simp [HT])
  have h3 : s ≠ ⟨#[101, 97, 114, 108, 121]⟩ := h ht2 (by simp [HT])
  have h4 : s ≠ ⟨#[112, 108, 97, 105, 110]⟩ := h ht3 (by simp [HT])
  have hq : ∀ l : List UInt8, s ≠ ⟨⟨l⟩⟩ → (s.toList == l) = false := by
    intro l hl
    rw [ba_toList]
    simp only [beq_eq_false_iff_ne, ne_eq]
    intro h
    refine hl ?_
    cases s with | mk d => cases d with | mk d => simp at h; subst h; rfl
  unfold histOf
  rw [hq _ h1, hq _ h2, hq _ h3, hq _ h4]
  rfl

theorem p_get (s : ByteArray) (w : World) : Calls Try.prog 8 #[.string s] w (RetHB w (histOf s.toList)) := by
  go_enter Try.func8, Try.ntmps8
  go_wp2_with fail
  refine (p_histories _).mono ?_
  rintro e w1 ⟨r, es, clk, rfl, hB, hrow, hr, hE, hA⟩
  have hrr := row_below (row_new w (.cells #[.slice none 0 0, .slice none 0 0] 28)) hB (by simp)
  have hb : Below w.heap.size w w1 := ((Below.refl _ _).alloc (Nat.le_refl _) _).trans (hB.mono (by simp))
  have hlt : w.heap.size < w1.heap.size := row_lt hrr
  by_cases hs : ∃ x ∈ HT, s = x.1
  · obtain ⟨x, hx, rfl⟩ := hs
    obtain ⟨j, e, he, hk, hfn⟩ := findNow_some' (s := x.1) es.toList 0 (fun e he => let ⟨x, _, h, _⟩ := hE e he; ⟨_, h⟩) (hA x hx)
    obtain ⟨y, hy, hky, hv⟩ := hE e he
    obtain rfl := HT_names x hx y hy (by rw [hk] at hky; injection hky)
    obtain ⟨evs, hh, bo, bf, hve, hc⟩ := call_HT hx hv
    have hL := run_lookup_yes (ok := true) (P := Try.prog) Try.underlying56 Try.underlying9 hrow hfn
    rw [hve] at hL
    have HC := hid hc
    have HH := hid hh
    have HR := hid hrr
    have HB := hid hb
    clear hE hA hv hk hky hfn he hc hh hve hB hrow hb hrr
    go_wp2_with fail
    refine HC.out.mono ?_
    rintro e2 w2 ⟨ov, ev, rfl, h1, h2, b1⟩
    have hr2 := row_below HR.out b1 hlt
    have c0 := row_cell hr2 0
    have c1 := row_cell hr2 1
    have f0 := row_free hr2 0
    have f1 := row_free hr2 1
    have hb2 : Below w.heap.size w w2 := HB.out.trans (b1.mono (by omega))
    obtain ⟨a1, k1, n1, e1⟩ : ∃ a c n, ev = .slice a n c := by
      rcases h2.form with ⟨e, _⟩ | ⟨g, c, e, _⟩ <;> exact ⟨_, _, _, e⟩
    obtain ⟨a2, k2, n2, e2⟩ : ∃ a c n, ov = .slice a n c := by
      rcases h1.form with ⟨e, _⟩ | ⟨g, c, e, _⟩ <;> exact ⟨_, _, _, e⟩
    subst e1 e2
    have HB2 := hid hb2
    have HR2 := hid hr2
    have HO := hid (h1.base (B' := w.heap.size + 1) (by omega))
    have HE := hid (h2.base (B' := w.heap.size + 1) (by omega))
    clear hb2 hr2 h1 h2 b1
    go_wp2
    exact bodyPost_ret (v := .tuple #[.agg #[.slice a2 n2 k2, .slice a1 n1 k1], .bool true]) (by simp [results, Try.results8, go_sem, c0, c1]) rfl (resHB _ w w2 HB2.out HR2.out HH.out HO.out HE.out)
  · have hfn : findNow .string (.string s) es.toList 0 = some none := findNow_none _ _ fun e he => let ⟨x, hx, h, _⟩ := hE e he; ⟨_, h, fun h' => hs ⟨x, hx, h'⟩⟩
    have hL := run_lookup_no (ok := true) (P := Try.prog) (w := w1) (z := .nilFunc) Try.underlying56 Try.underlying9 hrow hfn (by go_simp)
    have HH := hid (histOf_no (s := s) fun x hx h => hs ⟨x, hx, h⟩)
    have c0 := row_cell hrr 0
    have c1 := row_cell hrr 1
    have f0 := row_free hrr 0
    have f1 := row_free hrr 1
    have HR := hid hrr
    have HB := hid hb
    clear hE hA hfn hs hB hrow hb hrr
    go_wp2
    exact bodyPost_ret (v := .tuple #[.agg #[.slice none 0 0, .slice none 0 0], .bool false]) (by simp [results, Try.results8, go_sem, c0, c1]) rfl (resHB _ w w1 HB.out HR.out HH.out (OwnF.nil _ _) (OwnF.nil _ _))

theorem p_wide_no (n : Int) (hn : n < 0 ∨ 13 < n) (w : World) : Calls Try.prog 9 #[.int .i64 n] w (RetHB w (wideOf n)) := by
  have hh : wideOf n = ([], [], false) := by unfold wideOf; rw [if_neg (by omega)]
  rw [hh]
  clear hh
  have hres : RetHB w ([], [], false) (.returned (.tuple #[.agg #[.slice none 0 0, .slice none 0 0], .bool false])) ((w.alloc (.cells #[.int .i64 n] 3)).alloc (.cells #[.slice none 0 0, .slice none 0 0] 28)) :=
    ⟨_, _, rfl, OwnF.nil _ _, OwnF.nil _ _, ((Below.refl _ _).alloc (Nat.le_refl _) _).alloc (by simp) _⟩
  have hr : ((w.alloc (.cells #[.int .i64 n] 3)).alloc (.cells #[.slice none 0 0, .slice none 0 0] 28)).heap[w.heap.size + 1]? = some (.cells #[.slice none 0 0, .slice none 0 0] 28) := row_new' (by simp)
  have c0 := row_cell hr 0
  have c1 := row_cell hr 1
  have HRES := hid hres
  clear hres hr
  rcases hn with h | h
  all_goals
    go_enter Try.func9, Try.ntmps9
    go_wp2
    exact bodyPost_ret (v := .tuple #[.agg #[.slice none 0 0, .slice none 0 0], .bool false]) (by simp [results, Try.results9, go_sem, c0, c1]) rfl HRES.out

theorem wide_call (n : Nat) (hn : n ≤ 13) (w : World) (bn bo bf b : Nat) (h0 : w.heap[bn]? = some (.cells #[.int .i64 n] 3 (0, 0)))
    (h1 : w.heap[bo]? = some (.cells #[.slice (some ⟨b, 0, none⟩) 1 1] 25 (0, 0))) (h2 : w.heap[bf]? = some (.cells #[.func (.func 23) #[] #[.pointer (some ⟨bn, 0, none⟩)]] 63 (0, 0)))
    (h3 : w.heap[b]? = some (.cells #[.int .i64 1, .int .i64 0] 41 (0, 0))) :
    Calls Try.prog 49 #[.pointer (some ⟨bo, 0, none⟩), .pointer (some ⟨bf, 0, none⟩)] w (RetH w [⟨1, 0⟩] (wideE n)) :=
  p_made1 23 #[.pointer (some ⟨bn, 0, none⟩)] bo bf (.slice (some ⟨b, 0, none⟩) 1 1) [⟨1, 0⟩] _ w (by decide) (by decide) (row_cell h1 0) (row_cell h2 0) (row_lt h1) (row_lt h2)
    (sl_row h3 (row_lt h3) (by decide) rfl rfl) (run_callFunc_body (fn := Try.f23) rfl (by rfl) rfl)
    (fun w' bm ov hbm hB hm => p_wideF n hn bn bm ov w' hm (cell_below hB (row_lt h0) (row_cell h0 0)) (Nat.lt_of_lt_of_le (row_lt h0) hbm))

theorem p_wide_yes (n : Nat) (hn : n ≤ 13) (w : World) : Calls Try.prog 9 #[.int .i64 n] w (RetHB w (wideOf n)) := by
  have hh : wideOf n = ([⟨1, 0⟩], wideE n, true) := by unfold wideOf; rw [if_pos (by omega)]; rfl
  rw [hh]
  clear hh
  have h0 : ¬ ((n : Int) < 0) := by omega
  have h1 : ¬ ((13 : Int) < (n : Int)) := by omega
  go_enter Try.func9, Try.ntmps9
  go_wp2_with fail
  refine (p_made _ _ _ ⟨_, _, _, rfl⟩ ⟨_, _, _, rfl⟩).mono ?_
  rintro e w1 ⟨rfl, rfl⟩
  go_wp2_with fail
  refine (wide_call n hn _ w.heap.size (w.heap.size + 1 + 1 + 1 + 1) (w.heap.size + 1 + 1 + 1) (w.heap.size + 1 + 1) (row_old (row_old (row_old (row_old (row_new _ _))))) (row_new' (by simp)) (row_old (row_new' (by simp))) (row_old (row_old (row_new' (by simp))))).mono ?_
  rintro e2 w2 ⟨ov, ev, rfl, h1, h2, b1⟩
  have hrr : (((((w.alloc (.cells #[.int .i64 n] 3)).alloc (.cells #[.slice none 0 0, .slice none 0 0] 28)).alloc (.cells #[.int .i64 1, .int .i64 0] 41)).alloc (.cells #[.func (.func 23) #[] #[.pointer (some ⟨w.heap.size, 0, none⟩)]] 63)).alloc
    (.cells #[.slice (some ⟨w.heap.size + 1 + 1, 0, none⟩) 1 1] 25)).heap[w.heap.size + 1]? = some (.cells #[.slice none 0 0, .slice none 0 0] 28) := row_old (row_old (row_old (row_new' (by simp))))
  have hr2 := row_below hrr b1 (by simp <;> omega)
  have c0 := row_cell hr2 0
  have c1 := row_cell hr2 1
  have f0 := row_free hr2 0
  have f1 := row_free hr2 1
  have hb2 : Below w.heap.size w w2 := (((((((Below.refl _ _).alloc (Nat.le_refl _) _).alloc (by simp) _).alloc (by simp <;> omega) _).alloc (by simp <;> omega) _).alloc (by simp <;> omega) _)).trans (b1.mono (by simp <;> omega))
  obtain ⟨a1, k1, n1, e1⟩ : ∃ a c n, ev = .slice a n c := by
    rcases h2.form with ⟨e, _⟩ | ⟨g, c, e, _⟩ <;> exact ⟨_, _, _, e⟩
  obtain ⟨a2, k2, n2, e2⟩ : ∃ a c n, ov = .slice a n c := by
    rcases h1.form with ⟨e, _⟩ | ⟨g, c, e, _⟩ <;> exact ⟨_, _, _, e⟩
  subst e1 e2
  have HB2 := hid hb2
  have HR2 := hid hr2
  have HO := hid (h1.base (B' := w.heap.size + 2) (by simp <;> omega))
  have HE := hid (h2.base (B' := w.heap.size + 2) (by simp <;> omega))
  clear hb2 hr2 h1 h2 b1 hrr
  go_wp2
  exact bodyPost_ret (v := .tuple #[.agg #[.slice a2 n2 k2, .slice a1 n1 k1], .bool true]) (by simp [results, Try.results9, go_sem, c0, c1]) rfl
    ⟨_, _, rfl, ((HO.out.set (by omega)).set (by omega)).base (by omega), ((HE.out.set (by omega)).set (by omega)).base (by omega), (HB2.out.setCell (p := ⟨w.heap.size + 1, 0, none⟩) (by simp) _).setCell (p := ⟨w.heap.size + 1, 1, none⟩) (by simp) _⟩

theorem p_wide (n : Int) (w : World) : Calls Try.prog 9 #[.int .i64 n] w (RetHB w (wideOf n)) := by
  by_cases h : 0 ≤ n ∧ n ≤ 13
  · obtain ⟨m, rfl⟩ := Int.eq_ofNat_of_zero_le h.1
    exact p_wide_yes m (by omega) w
  · exact p_wide_no n (by omega) w
end Go.Proofs.Ytcombolmacokbaa
