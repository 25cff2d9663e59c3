/- What the program's graphs do: New, Node, Edge, Has, Nodes, Out, Kinds. Conditions: those of each theorem, as typed. -/
import Derived.Test.YtlmeblhcipkgmaaGrP
namespace Go.Proofs.Ytlmeblhcipkgmaa
open Go.RowKit Go.Maps
set_option linter.unusedVariables false

theorem gr_new (w : World) : Calls Try.prog 55 #[] w fun e w' => ∃ p, e = .returned (.pointer (some ⟨p, 0, none⟩)) ∧ GrAt w' w.heap.size w'.heap.size p [] [] ∧ Below w.heap.size w w' := by
  have hmm := @run_makeMap Try.prog
  go_enter Try.func55, Try.ntmps55
  go_wp2
  go_ret
  refine ⟨_, rfl, ⟨w.heap.size, fun _ => 0, [], fun _ => [], ?_⟩, ((Below.refl _ _).alloc (Nat.le_refl _) _).alloc (by simp) _⟩
  exact ⟨row_new' (by simp), by simp, by simp; omega, (IsMapK.made w).alloc _, List.Pairwise.nil, rfl, fun _ _ h => by simp at h, fun _ _ _ _ h => by simp at h, fun _ _ _ _ _ h => by simp at h, GrOk.nil, fun _ h => by simp at h, fun _ h => by simp at h⟩

section
variable {w : World} {lo hi p : Nat} {N : List Int} {E : List Tr}
theorem gr_node (h : GrAt w lo hi p N E) (hhi : hi ≤ w.heap.size) (hN : N.length ≤ 1000000) (a : Int) (ha : dI a) : Calls Try.prog 61 #[.pointer (some ⟨p, 0, none⟩), .int .i64 a] w fun e w' =>
    e = .returned (.bool (decide (a ∉ N))) ∧ GrAt w' lo w'.heap.size p (insI a N) E ∧ Keep w w' ∧ Below lo w w' := by
  obtain ⟨b, ow, M, A, h⟩ := h
  have hp := row_cell h.ptr 0
  have hlo := h.hb
  have q : ∀ (w : World) (r : Option Nat), (binOp .neq 98 (.map r) (.map none)).run Try.prog w = .ok (.bool !r.isNone) w := fun w r => run_neq_map_nil w _ _ _ r Try.underlying98
  have hmm := @run_makeMap Try.prog
  cases hf : fnd a M with
  | some u =>
    have l1 := h.look ha hf
    have hin := h.inN (h.here hf)
    have E1 := hid (show decide (a ∉ N) = false by simpa using hin)
    have E2 := hid (insI_of_mem h.ok.srtN hin)
    have H := hid h
    clear h hf hin
    go_enter Try.func61, Try.ntmps61
    go_wp2
    go_ret
    exact ⟨by rw [E1.out]; rfl, by rw [E2.out]; exact ⟨b, ow, M, A, H.out.raise hhi⟩, Keep.refl _, Below.refl _ _⟩
  | none =>
    have l1 := h.look ha hf
    have hout := h.gone hf
    have E1 := hid (show decide (a ∉ N) = true by simpa using hout)
    have hM := h.lenM
    have hMl : M.length ≤ 1000000 := by omega
    have H := hid h
    have HF := hid hf
    clear h hf hout hM
    go_enter Try.func61, Try.ntmps61
    go_wp2_with (at_mapUpdate; refine Stop.halt ?_)
    refine Stop.go ?_
    refine (H.out.out.alloc (.map #[] 0)).wpList_store keyI elem_map H.out.domM H.out.srtM Try.underlying118 (v := w.heap.size) (by unfold maxLen; omega) ha rfl rfl (by rfl) (by rfl) (by rfl) ?_
    intro w1 h1 t1
    have H1 := hid h1.tight
    have T1 := hid t1
    have z1 := turned_size t1
    clear h1 t1
    go_wp2
    go_ret
    exact ⟨by rw [E1.out]; rfl, ⟨_, _, _, _, H.out.node_new hhi HF.out T1.out H1.out ha⟩, (Keep.alloc _ _).trans (Keep.turned T1.out), ((Below.refl _ _).alloc (by omega) _).trans (Below.turned T1.out (by omega))⟩

theorem gr_has (h : GrAt w lo hi p N E) (a c k : Int) (ha : dI a) (hc : dI c) (hk : dI k) : Calls Try.prog 57 #[.pointer (some ⟨p, 0, none⟩), .int .i64 a, .int .i64 c, .int .i64 k] w fun e w' => e = .returned (.bool (decide ((a, c, k) ∈ E))) ∧ w = w' := by
  obtain ⟨b, ow, M, A, h⟩ := h
  have hp := row_cell h.ptr 0
  have n2 := look_none2 (w := w) hc
  have n1 := look_bool_nil (w := w) hk
  cases hf : fnd a M with
  | none =>
    have l1 := h.look ha hf
    have hE := hid (show decide ((a, c, k) ∈ E) = false by simpa using fun hm => h.gone hf (h.ok.sub _ hm).1)
    clear hf h
    go_enter Try.func57, Try.ntmps57
    go_wp2
    go_ret
    exact ⟨by rw [hE.out]; rfl, rfl⟩
  | some u =>
    have l1 := h.look ha hf
    have hu := h.here hf
    cases hg : fnd c (A a) with
    | none =>
      have l2 := h.lookA hu hc hg
      have hE := hid (show decide ((a, c, k) ∈ E) = false by simpa using fun hm => h.goneA hu hg (mem_row.2 (mem_prs.2 ⟨k, hm⟩)))
      clear hf hg hu h
      go_enter Try.func57, Try.ntmps57
      go_wp2
      go_ret
      exact ⟨by rw [hE.out]; rfl, rfl⟩
    | some v =>
      have l2 := h.lookA hu hc hg
      have l3 := h.lookK hu (h.hereA hu hg) hk
      clear hf hg hu h
      go_enter Try.func57, Try.ntmps57
      go_wp2
      go_ret
      exact ⟨rfl, rfl⟩

theorem gr_nodes (h : GrAt w lo hi p N E) (hN : N.length ≤ 1000000) : Calls Try.prog 50 #[.pointer (some ⟨p, 0, none⟩)] w fun e w' => ∃ v, e = .returned v ∧ OwnI w' w.heap.size v N ∧ Below w.heap.size w w' := by
  obtain ⟨b, ow, M, A, h⟩ := h
  have hp := row_cell h.ptr 0
  have hM := h.lenM
  have hMl : M.length ≤ 1000000 := by omega
  have H := hid h
  clear h hM
  go_enter Try.func50, Try.ntmps50
  go_wp2_with fail
  refine (keysG (some b) _).mono ?_
  rintro e w1 ⟨rfl, rfl⟩
  go_wp2_with fail
  refine (sortedG H.out.out H.out.srtM hMl).mono ?_
  rintro e w1 ⟨v, rfl, h1, h2⟩
  rw [H.out.keys] at h1
  have H1 := hid h1
  have H2 := hid h2
  clear h1 h2
  go_wp2
  go_ret
  exact ⟨v, rfl, H1.out.base (by omega), ((Below.refl _ _).alloc (Nat.le_refl _) _).trans (H2.out.mono (by omega))⟩

theorem gr_out (h : GrAt w lo hi p N E) (hE : E.length ≤ 1000000) (a : Int) (ha : dI a) : Calls Try.prog 54 #[.pointer (some ⟨p, 0, none⟩), .int .i64 a] w fun e w' => ∃ v, e = .returned v ∧ OwnI w' w.heap.size v (row (prs E) a) ∧ Below w.heap.size w w' := by
  obtain ⟨b, ow, M, A, h⟩ := h
  have hp := row_cell h.ptr 0
  cases hf : fnd a M with
  | none =>
    have l1 := h.look ha hf
    have hr := hid (h.gone_row hf)
    clear hf h
    go_enter Try.func54, Try.ntmps54
    go_wp2_with fail
    refine (keysM none _).mono ?_
    rintro e w1 ⟨rfl, rfl⟩
    go_wp2_with fail
    refine (sortedM_nil w).mono ?_
    rintro e w1 ⟨v, rfl, h1, h2⟩
    have H1 := hid h1
    have H2 := hid h2
    clear h1 h2
    go_wp2
    go_ret
    exact ⟨v, rfl, by rw [hr.out]; exact H1.out.base (by omega), ((Below.refl _ _).alloc (Nat.le_refl _) _).trans (H2.out.mono (by omega))⟩
  | some u =>
    have l1 := h.look ha hf
    have hu := h.here hf
    have hl := h.lenA hu
    have hAl : (A a).length ≤ 1000000 := by omega
    have H := hid (h.inn a u hu).2
    clear hf hu h hl
    go_enter Try.func54, Try.ntmps54
    go_wp2_with fail
    refine (keysM (some u) _).mono ?_
    rintro e w1 ⟨rfl, rfl⟩
    go_wp2_with fail
    refine (sortedM H.out.1 H.out.2.1 hAl).mono ?_
    rintro e w1 ⟨v, rfl, h1, h2⟩
    rw [H.out.2.2] at h1
    have H1 := hid h1
    have H2 := hid h2
    clear h1 h2
    go_wp2
    go_ret
    exact ⟨v, rfl, H1.out.base (by omega), ((Below.refl _ _).alloc (Nat.le_refl _) _).trans (H2.out.mono (by omega))⟩

theorem gr_kinds (h : GrAt w lo hi p N E) (hE : E.length ≤ 1000000) (a c : Int) (ha : dI a) (hc : dI c) : Calls Try.prog 49 #[.pointer (some ⟨p, 0, none⟩), .int .i64 a, .int .i64 c] w fun e w' => ∃ v, e = .returned v ∧ OwnI w' w.heap.size v (kindsOf E a c) ∧ Below w.heap.size w w' := by
  obtain ⟨b, ow, M, A, h⟩ := h
  have hp := row_cell h.ptr 0
  have n2 := look_none2 (w := w) hc
  cases hf : fnd a M with
  | none =>
    have l1 := h.look ha hf
    have hr := hid (kinds_nil (E := E) (a := a) (b := c) (by rw [h.gone_row hf]; simp))
    clear hf h
    go_enter Try.func49, Try.ntmps49
    go_wp2_with fail
    refine (keysB none _).mono ?_
    rintro e w1 ⟨rfl, rfl⟩
    go_wp2_with fail
    refine (sortedB_nil w).mono ?_
    rintro e w1 ⟨v, rfl, h1, h2⟩
    have H1 := hid h1
    have H2 := hid h2
    clear h1 h2
    go_wp2
    go_ret
    exact ⟨v, rfl, by rw [hr.out]; exact H1.out.base (by omega), ((Below.refl _ _).alloc (Nat.le_refl _) _).trans (H2.out.mono (by omega))⟩
  | some u =>
    have l1 := h.look ha hf
    have hu := h.here hf
    cases hg : fnd c (A a) with
    | none =>
      have l2 := h.lookA hu hc hg
      have hr := hid (kinds_nil (E := E) (a := a) (b := c) (h.goneA hu hg))
      clear hf hg hu h
      go_enter Try.func49, Try.ntmps49
      go_wp2_with fail
      refine (keysB none _).mono ?_
      rintro e w1 ⟨rfl, rfl⟩
      go_wp2_with fail
      refine (sortedB_nil w).mono ?_
      rintro e w1 ⟨v, rfl, h1, h2⟩
      have H1 := hid h1
      have H2 := hid h2
      clear h1 h2
      go_wp2
      go_ret
      exact ⟨v, rfl, by rw [hr.out]; exact H1.out.base (by omega), ((Below.refl _ _).alloc (Nat.le_refl _) _).trans (H2.out.mono (by omega))⟩
    | some u2 =>
      have l2 := h.lookA hu hc hg
      have hm := hid (h.leaf a u c u2 hu (h.hereA hu hg)).2
      have hs := hid (units_srt (srt_kindsOf h.ok.srtE a c))
      have hl := length_kindsOf E a c
      clear hf hg hu h
      go_enter Try.func49, Try.ntmps49
      go_wp2_with fail
      refine (keysB (some u2) _).mono ?_
      rintro e w1 ⟨rfl, rfl⟩
      go_wp2_with fail
      refine (sortedB hm.out hs.out (by rw [units_length]; omega)).mono ?_
      rintro e w1 ⟨v, rfl, h1, h2⟩
      rw [units_keys] at h1
      have H1 := hid h1
      have H2 := hid h2
      clear h1 h2
      go_wp2
      go_ret
      exact ⟨v, rfl, H1.out.base (by omega), ((Below.refl _ _).alloc (Nat.le_refl _) _).trans (H2.out.mono (by omega))⟩

set_option maxHeartbeats 400000 in
theorem gr_edge (h : GrAt w lo hi p N E) (hhi : hi ≤ w.heap.size) (hN : N.length ≤ 900000) (hE : E.length ≤ 900000) (a c k : Int) (ha : dI a) (hc : dI c) (hk : dI k) : Calls Try.prog 58 #[.pointer (some ⟨p, 0, none⟩), .int .i64 a, .int .i64 c, .int .i64 k] w fun e w' =>
    e = .returned (.bool (decide ((a, c, k) ∉ E))) ∧ GrAt w' lo w'.heap.size p (insI c (insI a N)) (insT (a, c, k) E) ∧ Keep w w' ∧ Below lo w w' := by
  have hmm := @run_makeMap Try.prog
  have q : ∀ (w : World) (r : Option Nat), (binOp .eql 110 (.map r) (.map none)).run Try.prog w = .ok (.bool r.isNone) w := fun w r => run_eql_map_nil w _ _ _ r Try.underlying110
  go_enter Try.func58, Try.ntmps58
  go_wp2_with fail
  refine (gr_node h hhi (by omega) a ha).mono ?_
  rintro e w1 ⟨rfl, h1, k1, b1⟩
  have H1 := hid h1
  have K1 := hid k1
  have B1 := hid b1
  have hl1 := length_insI (n := a) (l := N)
  clear h h1 k1 b1
  go_wp2_with fail
  refine (gr_node H1.out (Nat.le_refl _) (by omega) c hc).mono ?_
  rintro e w2 ⟨rfl, h2, k2, b2⟩
  have hl2 := length_insI (n := c) (l := insI a N)
  have haN : a ∈ insI c (insI a N) := mem_insI.2 (.inr (mem_insI.2 (.inl rfl)))
  have hcN : c ∈ insI c (insI a N) := mem_insI.2 (.inl rfl)
  have K2 := hid (K1.out.trans k2)
  have B2 := hid (B1.out.trans b2)
  generalize hN2 : insI c (insI a N) = N2 at *
  have HN2 := hid hN2
  have HAN := hid haN
  have HCN := hid hcN
  clear k2 b2 H1 K1 B1 haN hcN hl1 hN2
  obtain ⟨b, ow, M, A, h2⟩ := h2
  have hp := row_cell h2.ptr 0
  obtain ⟨u, hf⟩ := h2.there HAN.out
  have l1 := h2.look ha hf
  have hu := h2.here hf
  have hbl := h2.hb
  have hpl := h2.hp
  have hul := (h2.inn a u hu).1
  cases hg : fnd c (A a) with
  | some v =>
    have hv := h2.hereA hu hg
    have l2 := h2.lookA hu hc hg
    have l3 := h2.lookK hu hv hk
    have hvl := (h2.leaf a u c v hu hv).1
    have hkl := length_kindsOf E a c
    have H := hid h2
    have HU := hid hu
    have HV := hid hv
    clear hf hg h2 hu hv
    go_wp2_with (at_mapUpdate; refine Stop.halt ?_)
    refine Stop.go ?_
    refine (H.out.leaf a u c v HU.out HV.out).2.wpList_store keyI elem_bool (units_dom (H.out.domK a c)) (units_srt (srt_kindsOf H.out.ok.srtE a c)) Try.underlying110 (v := ()) (by rw [units_length]; unfold maxLen; omega) hk rfl rfl (by rfl) (by rfl) (by rfl) ?_
    intro w3 h3 t3
    rw [units_upd] at h3
    have H3 := hid h3.tight
    have T3 := hid t3
    have z3 := turned_size t3
    clear h3 t3 l1 l2 l3
    go_wp2
    go_ret
    exact ⟨by simp, by rw [HN2.out]; exact ⟨_, _, _, _, (H.out.edge_old HU.out HV.out T3.out H3.out hk).raise (hi' := w3.heap.size) (by omega)⟩, K2.out.trans (Keep.turned T3.out), B2.out.trans (Below.turned T3.out (by omega))⟩
  | none =>
    have l2 := h2.lookA hu hc hg
    have hAl := h2.lenA hu
    have hE1 := hid (show decide ((a, c, k) ∈ E) = false by simpa using fun hm => h2.goneA hu hg (mem_row.2 (mem_prs.2 ⟨k, hm⟩)))
    have HE2 := hid (show decide ((a, c, k) ∉ E) = true by have := hE1.out; simpa using this)
    have H := hid h2
    have HU := hid hu
    have HG := hid hg
    have HF := hid hf
    clear hf hg h2 hu
    go_wp2_with (at_mapUpdate; refine Stop.halt ?_)
    refine Stop.go ?_
    refine ((H.out.inn a u HU.out).2.1.alloc (.map #[] 0)).wpList_store keyI elem_map (H.out.domA HU.out) (H.out.inn a u HU.out).2.2.1 Try.underlying98 (v := w2.heap.size) (by unfold maxLen; omega) hc rfl rfl (by rfl) (by rfl) (by rfl) ?_
    intro w3 h3 t3
    have z3 := turned_size t3
    rw [World.size_alloc] at z3
    have hp3 := row_cell ((turned_other t3 (mapo_ne H.out.ptr (H.out.inn a u HU.out).2.1)).trans (row_old (o := .map #[] 0) H.out.ptr)) 0
    have l31 := look3 ((H.out.out.alloc (.map #[] 0)).obj (turned_other t3 (by omega))) H.out.domM ha
    rw [HF.out] at l31
    have l32 := look2 h3 (KDom.upd (v := w2.heap.size) (H.out.domA HU.out) hc) hc
    rw [fnd_upd_same (H.out.inn a u HU.out).2.2.1] at l32
    have hi3 : MapB w3 w2.heap.size (units []) := ((IsMapK.made w2) : MapB _ _ (units [])).obj (turned_other t3 (by omega))
    have l33 := look_bool hi3 (by simp) hk
    have H3 := hid h3.tight
    have T3 := hid t3
    have HI := hid hi3
    clear h3 t3 hi3 l1 l2
    go_wp2_with (at_mapUpdate; refine Stop.halt ?_)
    refine Stop.go ?_
    refine HI.out.wpList_store keyI elem_bool (by simp [units, KDom]) List.Pairwise.nil Try.underlying110 (v := ()) (by simp [units, maxLen]) hk rfl rfl (by rfl) (by rfl) (by rfl) ?_
    intro w4 h4 t4
    have H4 := hid h4.tight
    have T4 := hid t4
    clear h4 t4 l31 l32 l33
    go_wp2
    go_ret
    refine ⟨by rw [HE2.out]; rfl, by rw [HN2.out]; exact ⟨_, _, _, _, H.out.edge_new (Nat.le_refl _) HU.out HCN.out HG.out T3.out T4.out H3.out H4.out hk⟩, K2.out.trans ((Keep.alloc _ _).trans ((Keep.turned T3.out).trans (Keep.turned T4.out))), ?_⟩
    exact B2.out.trans (((Below.refl _ _).alloc (by omega) _).trans ((Below.turned T3.out (by omega)).trans (Below.turned T4.out (by omega))))
end
end Go.Proofs.Ytlmeblhcipkgmaa
