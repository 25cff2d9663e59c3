/- A list of the call's own that a helper writes over; what else stays. Conditions: those of each theorem, as typed. -/
import Derived.Test.YtlmeblhcipkgmaaGsA
import Derived.Test.YtlmeblhcipkgmaaSpoil
namespace Go.Proofs.Ytlmeblhcipkgmaa
open Go.RowKit Go.Maps
set_option linter.unusedVariables false
set_option linter.unusedSimpArgs false
attribute [local irreducible] wpL

/-- Only the block of this list has been written. -/
structure Spo (w w' : World) (v : Value) : Prop where
  below : ∀ K, (∀ k, v.ownBlock = some k → K ≤ k) → Below K w w'
  block : ∀ k, v.ownBlock ≠ some k → w'.heap[k]? = w.heap[k]?
  size : w'.heap.size = w.heap.size
  same : ∀ (k : Nat) (cs : Array Value) (t : TypeId) (fz : Nat × Nat), w.heap[k]? = some (Obj.cells cs t fz) → ∃ cs' : Array Value, w'.heap[k]? = some (Obj.cells cs' t fz) ∧ cs'.size = cs.size ∧ ∀ j : Nat, cs'[j]? = cs[j]? ∨ cs'[j]? = some (.int .i64 (-9))
theorem Spo.refl (w : World) (v : Value) : Spo w w v := ⟨fun K _ => Below.refl K w, fun _ _ => rfl, rfl, fun k cs t fz h => ⟨cs, h, rfl, fun _ => .inl rfl⟩⟩
theorem Spo.set {w w' : World} {g n c j : Nat} (h : Spo w w' (.slice (some ⟨g, 0, none⟩) n c)) : Spo w (w'.setCell ⟨g, j, none⟩ (.int .i64 (-9))) (.slice (some ⟨g, 0, none⟩) n c) := by
  refine ⟨fun K hK => (h.below K hK).setCell (p := ⟨g, j, none⟩) (hK g rfl) _, fun k hk => ?_, ?_, fun k cs t fz hk => ?_⟩
  · rw [← h.block k hk]
    refine Below.heap_setCell w' ⟨g, j, none⟩ _ k fun e => hk ?_
    rw [e]; rfl
  · simp [h.size]
  · obtain ⟨cs', h1, h2, h3⟩ := h.same k cs t fz hk
    by_cases e : k = g
    · subst e
      refine ⟨cs'.setIfInBounds j (.int .i64 (-9)), row_set h1 j _, by simp [h2], fun i => ?_⟩
      rw [Array.getElem?_setIfInBounds]
      by_cases hij : j = i
      · rw [if_pos hij]
        by_cases hj : j < cs'.size
        · rw [if_pos (by omega)]; exact .inr rfl
        · rw [if_neg (by omega)]
          refine .inl ?_
          rw [Array.getElem?_eq_none (by omega)]
      · rw [if_neg hij]; exact h3 i
    · exact ⟨cs', (Below.heap_setCell w' ⟨g, j, none⟩ _ k e).trans h1, h2, h3⟩
/-- Some numbers of this length lie here: they do so still. -/
theorem OwnI.spoS {w w' : World} {B n : Nat} {v u : Value} (h : ∃ l : List Int, l.length = n ∧ OwnI w B v l) (hs : Spo w w' u) : ∃ l : List Int, l.length = n ∧ OwnI w' B v l := by
  obtain ⟨l, hl, h1, h2⟩ := h
  rcases h2 with ⟨h2, h3⟩ | ⟨g, cap, cur, rfl, hg, hh, hnc, hcm, hsz, ht⟩
  · exact ⟨l, hl, h1, .inl ⟨h2, h3⟩⟩
  · obtain ⟨cs', q1, q2, q3⟩ := hs.same g cur _ _ hh
    rw [flat_int, Nat.mul_one] at ht
    have hex : ∀ i, i < l.length → ∃ z : Int, cs'[i]? = some (.int .i64 z) := fun i hi => by
      rcases q3 i with e | e
      · refine ⟨l[i], ?_⟩
        have : (l.map (Value.int .i64))[i]? = some (.int .i64 l[i]) := by rw [List.getElem?_map, List.getElem?_eq_getElem hi]; rfl
        rw [← ht, List.getElem?_take_of_lt hi] at this
        rw [e]
        simpa using this
      · exact ⟨-9, e⟩
    obtain ⟨f, hf⟩ := Classical.axiomOfChoice (fun i => (if hi : i < l.length then (hex i hi).imp fun z hz _ => hz else ⟨0, fun h => absurd h hi⟩ : ∃ z : Int, i < l.length → cs'[i]? = some (Value.int .i64 z)))
    refine ⟨(List.range l.length).map f, by simpa using hl, by rw [flat_int]; simp, .inr ⟨g, cap, cs', by simp, hg, q1, by simpa using hnc, hcm, by rw [q2]; exact hsz, ?_⟩⟩
    rw [flat_int, Nat.mul_one]
    refine List.ext_getElem? fun i => ?_
    by_cases hi : i < l.length
    · rw [List.getElem?_take_of_lt (by simpa using hi)]
      simp only [List.getElem?_map, List.getElem?_range hi, Option.map_some]
      have := hf i hi
      simpa using this
    · rw [List.getElem?_eq_none (by simp; omega), List.getElem?_eq_none (by simp; omega)]
theorem OwnF.spo {α : Type} {f : α → List Value} {e : TypeId} {sz B : Nat} {w w' : World} {v u : Value} {l : List α} (h : OwnF f e sz w B v l) (hs : Spo w w' u) (hne : ∀ k, v.ownBlock = some k → u.ownBlock ≠ some k) : OwnF f e sz w' B v l := by
  obtain ⟨h1, h2⟩ := h
  refine ⟨h1, ?_⟩
  rcases h2 with h2 | ⟨g, cap, cur, rfl, hg, hh, r⟩
  · exact .inl h2
  · exact .inr ⟨g, cap, cur, rfl, hg, (hs.block g (hne g rfl)).trans hh, r⟩
theorem ints_trs : ∀ (n : Nat) (xs : List Value), xs.length = n * 3 → (∀ u ∈ xs, ∃ z : Int, u = Value.int .i64 z) → ∃ l : List Tr, l.length = n ∧ l.flatMap trC = xs
  | 0, xs, h, _ => ⟨[], rfl, by rw [List.length_eq_zero_iff.1 (by omega : xs.length = 0)]; rfl⟩
  | n + 1, a :: b :: c :: xs, h, hi => by
    obtain ⟨l, h1, h2⟩ := ints_trs n xs (by simp at h; omega) fun u hu => hi u (by simp [hu])
    obtain ⟨x, rfl⟩ := hi a (by simp)
    obtain ⟨y, rfl⟩ := hi b (by simp)
    obtain ⟨z, rfl⟩ := hi c (by simp)
    exact ⟨(x, y, z) :: l, by simp [h1], by simp [trC, h2]⟩
  | n + 1, [], h, _ => by simp at h
  | n + 1, [_], h, _ => by simp at h; omega
  | n + 1, [_, _], h, _ => by simp at h; omega
theorem trs_int' (l : List Tr) : ∀ u ∈ l.flatMap trC, ∃ z : Int, u = Value.int .i64 z := by
  intro u hu
  obtain ⟨x, -, hx⟩ := List.mem_flatMap.1 hu
  simp only [trC, List.mem_cons, List.not_mem_nil, or_false] at hx
  rcases hx with rfl | rfl | rfl
  · exact ⟨_, rfl⟩
  · exact ⟨_, rfl⟩
  · exact ⟨_, rfl⟩
/-- Some triples of this length lie here: they do so still. -/
theorem OwnT.spoS {w w' : World} {B n : Nat} {v u : Value} (h : ∃ l : List Tr, l.length = n ∧ OwnT w B v l) (hs : Spo w w' u) : ∃ l : List Tr, l.length = n ∧ OwnT w' B v l := by
  obtain ⟨l, hl, h1, h2⟩ := h
  rcases h2 with ⟨h2, h3⟩ | ⟨g, cap, cur, rfl, hg, hh, hnc, hcm, hsz, ht⟩
  · exact ⟨l, hl, h1, .inl ⟨h2, h3⟩⟩
  · obtain ⟨cs', q1, q2, q3⟩ := hs.same g cur _ _ hh
    have hlen : (cur.toList.take (l.length * 3)).length = l.length * 3 := by rw [ht]; exact h1
    have hle : l.length * 3 ≤ cur.size := by
      rw [List.length_take, Array.length_toList] at hlen
      omega
    have q2' : cs'.toList.length = cur.size := by simpa using q2
    obtain ⟨l', e1, e2⟩ := ints_trs l.length (cs'.toList.take (l.length * 3)) (by rw [List.length_take, q2']; exact Nat.min_eq_left hle) fun u hu => by
      obtain ⟨i, hi⟩ := List.mem_iff_getElem?.1 hu
      have hi3 : i < l.length * 3 := by
        have := (List.getElem?_eq_some_iff.1 hi).1
        rw [List.length_take] at this
        omega
      rw [List.getElem?_take_of_lt hi3, Array.getElem?_toList] at hi
      rcases q3 i with e | e
      · rw [e] at hi
        refine trs_int' l u ?_
        rw [← ht]
        exact List.mem_iff_getElem?.2 ⟨i, by rw [List.getElem?_take_of_lt hi3, Array.getElem?_toList]; exact hi⟩
      · rw [e] at hi
        exact ⟨_, (Option.some.inj hi).symm⟩
    refine ⟨l', by omega, by rw [e2, List.length_take, q2', e1]; exact Nat.min_eq_left hle, .inr ⟨g, cap, cs', by rw [e1], hg, q1, by rw [e1]; exact hnc, hcm, by rw [q2]; exact hsz, by rw [e1, e2]⟩⟩
/-- A list of lists stays where a list of numbers is written over. -/
theorem OwnV.spo {w w' : World} {B B' : Nat} {v u : Value} {vs : List Value} {l : List Int} (h : OwnV w B v vs) (hu : OwnI w B' u l) (hs : Spo w w' u) : OwnV w' B v vs :=
  OwnF.spo h hs fun k hk e => by
    obtain ⟨c1, h1⟩ := h.keepObj k hk
    obtain ⟨c2, h2⟩ := hu.keepObj k e
    rw [h1] at h2
    simp only [Option.some.injEq, Obj.cells.injEq] at h2
    exact absurd h2.2.1 (by decide)
theorem OwnV.set {w : World} {B g n cap j : Nat} {vs : List Value} {u : Value} (h : OwnV w B (.slice (some ⟨g, 0, none⟩) n cap) vs) : OwnV (w.setCell ⟨g, j, none⟩ u) B (.slice (some ⟨g, 0, none⟩) n cap) (vs.set j u) := by
  have hv : ∀ l : List Value, l.flatMap valC = l := fun l => by induction l with
    | nil => rfl
    | cons a l ih => simp [valC, ih]
  unfold OwnV OwnF at h ⊢
  rw [hv] at h ⊢
  have hl : vs.length = n := by
    obtain ⟨-, h2⟩ := h
    rcases h2 with ⟨h2, -⟩ | ⟨g', cap', cur, e, -⟩
    · cases h2
    · simp only [Value.slice.injEq] at e
      exact e.2.1.symm
  rw [List.length_set]
  subst hl
  exact ownsRow_set h j u
theorem Lists.spo {w w' : World} {B : Nat} {u : Value} {vs : List Value} {Q : List (List Int)} (h : Lists w B vs Q) (hs : Spo w w' u) (hu : ∀ k, u.ownBlock = some k → k < B) : Lists w' B vs Q := ⟨h.1, fun i x l hx hl => by
  obtain ⟨g, cur, h1, h2, h3, h4⟩ := h.2 i x l hx hl
  exact ⟨g, cur, h1, h2, (hs.block g (fun e => by have := hu g e; omega)).trans h3, h4⟩⟩
theorem OwnC.one' {w : World} {B : Nat} {v : Value} {q : List Int} (h : OwnC w B v q) : ∃ g, v = .slice (some ⟨g, 0, none⟩) q.length q.length ∧ g < w.heap.size ∧ q.length ≤ 1000000 ∧ ∀ j x, q[j]? = some x → w.cell? ⟨g, j, none⟩ = some (.int .i64 x) := by
  obtain ⟨g, cur, rfl, h1, h2, h3, h4, h5⟩ := h
  refine ⟨g, rfl, row_lt h2, h4, fun j x hx => ?_⟩
  have hj := (List.getElem?_eq_some_iff.1 hx).1
  rw [row_cell h2]
  have : (q.map (Value.int .i64))[j]? = some (.int .i64 x) := by rw [List.getElem?_map, hx]; rfl
  rw [← h5, List.getElem?_take_of_lt hj] at this
  simpa using this
/-- Lists that have nothing in common lie apart. -/
theorem OwnC.apart {w : World} {B B' : Nat} {u u' : Value} {q q' : List Int} (h : OwnC w B u q) (h' : OwnC w B' u' q') (hq : 0 < q.length) (hq' : 0 < q'.length) (hd : ∀ x ∈ q, x ∉ q') : ∀ k, u.ownBlock = some k → u'.ownBlock ≠ some k := by
  intro k hk hk'
  obtain ⟨g, hu, -, -, hc⟩ := h.one'
  obtain ⟨g', hu', -, -, hc'⟩ := h'.one'
  subst hu hu'
  simp only [Value.ownBlock, Option.some.injEq] at hk hk'
  subst hk
  subst hk'
  have h1 := hc 0 _ (List.getElem?_eq_getElem hq)
  have h2 := hc' 0 _ (List.getElem?_eq_getElem hq')
  rw [h1] at h2
  simp only [Option.some.injEq, Value.int.injEq, true_and] at h2
  exact hd _ (List.getElem_mem hq) (by rw [h2]; exact List.getElem_mem hq')
/-- Some numbers, some triples lie here. -/
def SomeI (w : World) (B n : Nat) (v : Value) : Prop := ∃ l : List Int, l.length = n ∧ OwnI w B v l
def SomeT (w : World) (B n : Nat) (v : Value) : Prop := ∃ l : List Tr, l.length = n ∧ OwnT w B v l
theorem SomeI.spo {w w' : World} {B n : Nat} {v u : Value} (h : SomeI w B n v) (hs : Spo w w' u) : SomeI w' B n v := OwnI.spoS h hs
theorem SomeT.spo {w w' : World} {B n : Nat} {v u : Value} (h : SomeT w B n v) (hs : Spo w w' u) : SomeT w' B n v := OwnT.spoS h hs
section
variable {w : World} {v : Value}
set_option maxHeartbeats 400000 in
theorem gr_spoil {l : List Int} {B : Nat} (h : OwnI w B v l) : Calls Try.prog 77 #[v] w fun e w' => e = .returned (.tuple #[]) ∧ (∃ l', l'.length = l.length ∧ OwnI w' B v l') ∧ Spo w w' v := by
  obtain ⟨a, c, rfl, hm⟩ := h.sl.ex
  generalize hn : l.length = n at *
  have H := hid h
  have HN := hid hn
  have S0 := hid (Spo.refl w (.slice a n c))
  clear h hn
  go_enter Try.func77, Try.ntmps77
  go_wp2_with fail
  go_loopw [2] (fun i wr => ∃ (j : Nat) (l' : List Int), j ≤ n ∧ i = .int .i64 j ∧ l'.length = n ∧ OwnI wr B (.slice a n c) l' ∧ Spo w wr (.slice a n c)) (fun i _ => n - (intOf i).toNat)
  case atStart => exact ⟨0, l, by omega, by go_num, HN.out, H.out, S0.out⟩
  case round =>
    obtain ⟨j, l', hj, rfl, hl', hO, hS⟩ := hrel
    have O2 := hid hO
    have HL := hid hl'
    have S2 := hid hS
    clear hO hl' hS H S0
    by_cases hlt : j < n
    · obtain ⟨g, x, rfl, hg1, hg2, hx, d1⟩ := OwnI.at O2.out HL.out hlt
      have hf1 := O2.out.free j
      clear hx
      go_wp2_with fail
      go_roundw
      case rel => exact ⟨j + 1, l'.set j (-9), by omega, by go_num, by rw [List.length_set]; exact HL.out, OwnI.set O2.out HL.out (-9), S2.out.set⟩
      case measure => simp [intOf]; omega
    · obtain rfl : j = n := by omega
      go_wp2
      refine bodyPost_end (v := .tuple #[]) (by simp [results, Try.results77, go_sem]) rfl ⟨rfl, ⟨l', HL.out, O2.out⟩, S2.out⟩
def SomeC (w : World) (B n : Nat) (v : Value) : Prop := ∃ l : List Int, l.length = n ∧ OwnC w B v l
theorem SomeC.spo {w w' : World} {B n : Nat} {v u : Value} (h : SomeC w B n v) (hs : Spo w w' u) : SomeC w' B n v := by
  obtain ⟨l, hl, g, cur, rfl, hg, hh, hsz, hlm, ht⟩ := h
  obtain ⟨cs', q1, q2, q3⟩ := hs.same g cur _ _ hh
  have hex : ∀ i, i < l.length → ∃ z : Int, cs'[i]? = some (.int .i64 z) := fun i hi => by
    rcases q3 i with e | e
    · refine ⟨l[i], ?_⟩
      have : (l.map (Value.int .i64))[i]? = some (.int .i64 l[i]) := by rw [List.getElem?_map, List.getElem?_eq_getElem hi]; rfl
      rw [← ht, List.getElem?_take_of_lt hi] at this
      rw [e]
      simpa using this
    · exact ⟨-9, e⟩
  obtain ⟨f, hf⟩ := Classical.axiomOfChoice (fun i => (if hi : i < l.length then (hex i hi).imp fun z hz _ => hz else ⟨0, fun h => absurd h hi⟩ : ∃ z : Int, i < l.length → cs'[i]? = some (Value.int .i64 z)))
  refine ⟨(List.range l.length).map f, by simpa using hl, g, cs', by simp, hg, q1, by simp; omega, by simpa using hlm, ?_⟩
  refine List.ext_getElem? fun i => ?_
  by_cases hi : i < l.length
  · rw [List.getElem?_take_of_lt (by simpa using hi)]
    simp only [List.getElem?_map, List.getElem?_range hi, Option.map_some]
    have := hf i hi
    simpa using this
  · rw [List.getElem?_eq_none (by simp; omega), List.getElem?_eq_none (by simp; omega)]
set_option maxHeartbeats 400000 in
theorem gr_spoilC {n B : Nat} (h : SomeC w B n v) : Calls Try.prog 77 #[v] w fun e w' => e = .returned (.tuple #[]) ∧ SomeC w' B n v ∧ Spo w w' v := by
  obtain ⟨g, hv, hn9⟩ : ∃ g, v = .slice (some ⟨g, 0, none⟩) n n ∧ n ≤ 1000000 := by
    obtain ⟨l, rfl, h⟩ := h
    obtain ⟨g, rfl, -, h4, -⟩ := h.one'
    exact ⟨g, rfl, h4⟩
  subst hv
  have H := hid h
  have S0 := hid (Spo.refl w (.slice (some ⟨g, 0, none⟩) n n))
  clear h
  go_enter Try.func77, Try.ntmps77
  go_wp2_with fail
  go_loopw [2] (fun i wr => ∃ j : Nat, j ≤ n ∧ i = .int .i64 j ∧ SomeC wr B n (.slice (some ⟨g, 0, none⟩) n n) ∧ Spo w wr (.slice (some ⟨g, 0, none⟩) n n)) (fun i _ => n - (intOf i).toNat)
  case atStart => exact ⟨0, by omega, by go_num, H.out, S0.out⟩
  case round =>
    obtain ⟨j, hj, rfl, hO, hS⟩ := hrel
    have O2 := hid hO
    have S2 := hid hS
    clear hO hS H S0
    by_cases hlt : j < n
    · obtain ⟨x, d1, hf1⟩ : ∃ x, wr.cell? ⟨g, j, none⟩ = some (.int .i64 x) ∧ wr.frozen? ⟨g, j, none⟩ = false := by
        obtain ⟨l, hl, hc⟩ := O2.out
        obtain ⟨g', e, -, -, hcc⟩ := hc.one'
        obtain ⟨g2, cur, e2, -, hh, -⟩ := hc
        simp only [Value.slice.injEq, Option.some.injEq, Addr.mk.injEq, and_true] at e e2
        obtain ⟨rfl, -⟩ := e
        obtain ⟨rfl, -⟩ := e2
        exact ⟨_, hcc j _ (List.getElem?_eq_getElem (by omega)), row_free hh j⟩
      go_wp2_with fail
      go_roundw
      case rel => exact ⟨j + 1, by omega, by go_num, SomeC.spo (u := .slice (some ⟨g, 0, none⟩) n n) O2.out (Spo.refl _ _).set, S2.out.set⟩
      case measure => simp [intOf]; omega
    · obtain rfl : j = n := by omega
      go_wp2
      refine bodyPost_end (v := .tuple #[]) (by simp [results, Try.results77, go_sem]) rfl ⟨rfl, O2.out, S2.out⟩
theorem gr_spoilS {n B : Nat} (h : SomeI w B n v) : Calls Try.prog 77 #[v] w fun e w' => e = .returned (.tuple #[]) ∧ SomeI w' B n v ∧ Spo w w' v := by
  obtain ⟨l, hl, h⟩ := h
  refine (gr_spoil h).mono ?_
  rintro e w' ⟨h1, ⟨l', h2, h3⟩, h4⟩
  exact ⟨h1, ⟨l', h2.trans hl, h3⟩, h4⟩
theorem OwnV.spoS {w w' : World} {B B' n : Nat} {v u : Value} {vs : List Value} (h : OwnV w B v vs) (hu : SomeI w B' n u) (hs : Spo w w' u) : OwnV w' B v vs := let ⟨_, _, h2⟩ := hu; OwnV.spo h h2 hs
end
end Go.Proofs.Ytlmeblhcipkgmaa
