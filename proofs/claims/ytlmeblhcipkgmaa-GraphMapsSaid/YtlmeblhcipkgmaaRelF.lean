/- What the program's relations of whole numbers do: New, Has, Add, Behind. Conditions: those of each theorem, as typed. -/
import Derived.Test.YtlmeblhcipkgmaaRelP
namespace Go.Proofs.Ytlmeblhcipkgmaa
open Go.RowKit Go.Maps

theorem rel_new (w : World) : Calls Try.prog 35 #[] w fun e w' => ∃ p, e = .returned (.pointer (some ⟨p, 0, none⟩)) ∧ RelAt w' w.heap.size w'.heap.size p [] ∧ Below w.heap.size w w' := by
  have hmm := @run_makeMap Try.prog
  go_enter Try.func35, Try.ntmps35
  go_wp2
  go_ret
  refine ⟨_, rfl, ⟨w.heap.size, [], ?_⟩, ((Below.refl _ _).alloc (Nat.le_refl _) _).alloc (by simp) _⟩
  exact ⟨row_new' (by simp), by simp, by simp; omega, (IsMapK.made w).alloc _, List.Pairwise.nil, rfl, fun _ _ h => by simp at h, fun _ _ _ h => by simp at h, List.Pairwise.nil, fun _ h => by simp at h⟩

section
variable {w : World} {lo hi p : Nat} {L : List Pr}
theorem rel_has (h : RelAt w lo hi p L) (a c : Int) (ha : dI a) (hc : dI c) : Calls Try.prog 33 #[.pointer (some ⟨p, 0, none⟩), .int .i64 a, .int .i64 c] w fun e w' => e = .returned (.bool (decide ((a, c) ∈ L))) ∧ w = w' := by
  obtain ⟨b, M, h⟩ := h
  have hp := row_cell h.ptr 0
  cases hf : fnd a M with
  | none =>
    have l1 := h.lookNone ha hf
    have l2 := look_bool_nil (w := w) hc
    have e : decide ((a, c) ∈ L) = false := by
      rw [decide_eq_false_iff_not, ← mem_row, h.gone hf]
      simp
    have E := hid e
    clear e hf h
    go_enter Try.func33, Try.ntmps33
    go_wp2
    go_ret
    exact ⟨by rw [E.out]; rfl, rfl⟩
  | some u =>
    have l1 := h.lookSome ha hf
    have l2 := look_bool (w := w) (h.inn a u (h.here hf)).2 (fun x hx => (h.dom _ (mem_row.1 hx)).2) hc
    have e : decide (c ∈ row L a) = decide ((a, c) ∈ L) := by simp only [mem_row]
    have E := hid e
    clear e hf h
    go_enter Try.func33, Try.ntmps33
    go_wp2
    go_ret
    exact ⟨by rw [E.out]; rfl, rfl⟩

theorem rel_behind (h : RelAt w lo hi p L) (hL : L.length ≤ 1000000) (a : Int) (ha : dI a) : Calls Try.prog 42 #[.pointer (some ⟨p, 0, none⟩), .int .i64 a] w fun e w' => ∃ v, e = .returned v ∧ OwnI w' w.heap.size v (row L a) ∧ Below w.heap.size w w' := by
  obtain ⟨b, M, h⟩ := h
  have hp := row_cell h.ptr 0
  cases hf : fnd a M with
  | none =>
    have l1 := h.lookNone ha hf
    have hr := hid (h.gone hf)
    clear hf h
    go_enter Try.func42, Try.ntmps42
    go_wp2_with fail
    refine (keysB none _).mono ?_
    rintro e w1 ⟨rfl, rfl⟩
    go_wp2_with fail
    refine (sortedB_nil w).mono ?_
    rintro e w1 ⟨v, rfl, h1, h2⟩
    have H1 := hid h1
    have H2 := hid h2
    clear h1 h2
    go_wp2
    go_ret
    exact ⟨v, rfl, by rw [hr.out]; exact H1.out.base (by omega), ((Below.refl _ _).alloc (Nat.le_refl _) _).trans (H2.out.mono (by omega))⟩
  | some u =>
    have l1 := h.lookSome ha hf
    have hm := hid (h.inn a u (h.here hf)).2
    have hs := hid (units_srt (srt_row h.srt a))
    have hl := length_row L a
    clear hf h
    go_enter Try.func42, Try.ntmps42
    go_wp2_with fail
    refine (keysB (some u) _).mono ?_
    rintro e w1 ⟨rfl, rfl⟩
    go_wp2_with fail
    refine (sortedB hm.out hs.out (by rw [units_length]; omega)).mono ?_
    rintro e w1 ⟨v, rfl, h1, h2⟩
    rw [units_keys] at h1
    have H1 := hid h1
    have H2 := hid h2
    clear h1 h2
    go_wp2
    go_ret
    exact ⟨v, rfl, H1.out.base (by omega), ((Below.refl _ _).alloc (Nat.le_refl _) _).trans (H2.out.mono (by omega))⟩

theorem rel_add (h : RelAt w lo hi p L) (hhi : hi ≤ w.heap.size) (hL : L.length ≤ 1000000) (a c : Int) (ha : dI a) (hc : dI c) : Calls Try.prog 37 #[.pointer (some ⟨p, 0, none⟩), .int .i64 a, .int .i64 c] w fun e w' =>
    e = .returned (.bool (decide ((a, c) ∉ L))) ∧ RelAt w' lo w'.heap.size p (insP (a, c) L) ∧ Keep w w' ∧ Below lo w w' := by
  obtain ⟨b, M, h⟩ := h
  have hp := row_cell h.ptr 0
  have hlo := h.hb
  have hlp := h.hp
  have q : ∀ (w : World) (r : Option Nat), (binOp .eql 110 (.map r) (.map none)).run Try.prog w = .ok (.bool r.isNone) w := fun w r => run_eql_map_nil w _ _ _ r Try.underlying110
  have hmm := @run_makeMap Try.prog
  cases hf : fnd a M with
  | none =>
    have l1 := h.lookNone ha hf
    have hM := h.len
    have e : decide ((a, c) ∉ L) = true := by
      rw [decide_eq_true_eq, ← mem_row, h.gone hf]
      simp
    have E := hid e
    have HF := hid hf
    have H := hid h
    clear e hf h
    go_enter Try.func37, Try.ntmps37
    go_wp2_with (at_mapUpdate; refine Stop.halt ?_)
    refine Stop.go ?_
    refine (H.out.out.alloc (.map #[] 0)).wpList_store keyI elem_map H.out.domM H.out.srtM Try.underlying98 (v := w.heap.size) (by unfold maxLen; omega) ha rfl rfl (by rfl) (by rfl) (by rfl) ?_
    intro w1 h1 t1
    have H1 := hid h1.tight
    have T1 := hid t1
    have z1 := turned_size t1
    have hp1 := row_cell ((turned_other t1 H.out.neP).trans (row_old (o := .map #[] 0) H.out.ptr)) 0
    have hi1 : MapB w1 w.heap.size (units []) := ((IsMapK.made w) : MapB _ _ (units [])).obj (turned_other t1 (by omega))
    have d1 := KDom.upd (v := w.heap.size) H.out.domM ha
    have l2 := h1.look keyI elem_map d1 Try.underlying98 (zeroM w1) ha
    rw [fnd_upd_same H.out.srtM] at l2
    have l3 := look_bool hi1 (by simp) hc
    have HI := hid hi1
    rw [World.size_alloc] at z1
    clear h1 t1 hi1 d1
    go_wp2_with (at_mapUpdate; refine Stop.halt ?_)
    refine Stop.go ?_
    refine HI.out.wpList_store keyI elem_bool (by simp [units, KDom]) List.Pairwise.nil Try.underlying110 (v := ()) (by simp [units, maxLen]) hc rfl rfl (by rfl) (by rfl) (by rfl) ?_
    intro w2 h2 t2
    have H2 := hid h2.tight
    have T2 := hid t2
    clear h2 t2 l2 l3
    go_wp2
    go_ret
    refine ⟨by rw [E.out]; rfl, ⟨b, _, H.out.add_new hhi HF.out T1.out T2.out H1.out H2.out ha hc⟩, (Keep.alloc _ _).trans ((Keep.turned T1.out).trans (Keep.turned T2.out)), ?_⟩
    exact ((Below.refl _ _).alloc (by omega) _).trans ((Below.turned T1.out (by omega)).trans (Below.turned T2.out (by omega)))
  | some u =>
    have l1 := h.lookSome ha hf
    have hu := h.here hf
    have hm := h.inn a u hu
    have l2 := look_bool hm.2 (fun x hx => (h.dom _ (mem_row.1 hx)).2) hc
    have hl := length_row L a
    have e : decide (c ∈ row L a) = decide ((a, c) ∈ L) := by simp only [mem_row]
    rw [e] at l2
    have H := hid h
    have HU := hid hu
    have HM := hid hm
    clear e hf h hu hm
    go_enter Try.func37, Try.ntmps37
    go_wp2_with (at_mapUpdate; refine Stop.halt ?_)
    refine Stop.go ?_
    refine HM.out.2.wpList_store keyI elem_bool (H.out.domR a) (units_srt (srt_row H.out.srt a)) Try.underlying110 (v := ()) (by rw [units_length]; unfold maxLen; omega) hc rfl rfl (by rfl) (by rfl) (by rfl) ?_
    intro w2 h2 t2
    rw [units_upd] at h2
    have H2 := hid h2.tight
    have T2 := hid t2
    have z2 := turned_size t2
    clear h2 t2 l1 l2
    go_wp2
    go_ret
    refine ⟨by simp, ⟨b, _, (H.out.add_old HU.out T2.out H2.out ha hc).raise (by omega)⟩, Keep.turned T2.out, Below.turned T2.out HM.out.1.1⟩
end
end Go.Proofs.Ytlmeblhcipkgmaa
