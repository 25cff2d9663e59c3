/- A relation of names in memory: what it is, and what a store makes of it. Conditions: those of each theorem, as typed. -/
import Derived.Test.YtlmeblhcipkgmaaRelC
import Derived.Test.YtlmeblhcipkgmaaKeysN
import Derived.WalkSpells
namespace Go.Proofs.Ytlmeblhcipkgmaa.Tx
open Go.RowKit Go.Maps
abbrev MapO (w : World) (b : Nat) (M : List (Int × Nat)) : Prop := IsMapK Try.prog 9 Rmap nmL (fun r : Nat => .lit (.int .i64 r)) w b M.length M
abbrev MapB (w : World) (b : Nat) (M : List (Int × Unit)) : Prop := IsMapK Try.prog 9 Rbool nmL (fun _ : Unit => .lit (.bool true)) w b M.length M
theorem keyN : KeyT Try.prog 9 nmV nmL dS := keyT_str Try.underlying9
/-! ### a relation -/
structure RelB (w : World) (lo hi p b : Nat) (M : List (Int × Nat)) (L : List Pr) : Prop where
  ptr : w.heap[p]? = some (.cells #[.map (some b)] 103 (0, 0))
  hp : lo ≤ p ∧ p < hi
  hb : lo ≤ b ∧ b < hi
  out : MapO w b M
  srtM : KSrt M
  keys : M.map (·.1) = heads L
  inn : ∀ a u, (a, u) ∈ M → (lo ≤ u ∧ u < hi ∧ u ≠ b) ∧ MapB w u (units (row L a))
  inj : ∀ a a' u, (a, u) ∈ M → (a', u) ∈ M → a = a'
  srt : Srt L
  dom : ∀ x ∈ L, dS x.1 ∧ dS x.2
def RelAt (w : World) (lo hi p : Nat) (L : List Pr) : Prop := ∃ b M, RelB w lo hi p b M L
section
variable {w w' : World} {lo hi p b : Nat} {M : List (Int × Nat)} {L : List Pr}
theorem RelB.below {N : Nat} (h : RelB w lo hi p b M L) (hb : Below N w w') (hN : hi ≤ N) : RelB w' lo hi p b M L :=
  { h with
    ptr := row_below h.ptr hb (by have := h.hp; omega)
    out := h.out.below hb (by have := h.hb; omega)
    inn := fun a u hu => ⟨(h.inn a u hu).1, (h.inn a u hu).2.below hb (by have := (h.inn a u hu).1; omega)⟩ }
theorem RelAt.below {N : Nat} (h : RelAt w lo hi p L) (hb : Below N w w') (hN : hi ≤ N) : RelAt w' lo hi p L := let ⟨b, M, h⟩ := h; ⟨b, M, h.below hb hN⟩
theorem RelB.raise {hi' : Nat} (h : RelB w lo hi p b M L) (hh : hi ≤ hi') : RelB w lo hi' p b M L :=
  { h with
    hp := ⟨h.hp.1, Nat.lt_of_lt_of_le h.hp.2 hh⟩
    hb := ⟨h.hb.1, Nat.lt_of_lt_of_le h.hb.2 hh⟩
    inn := fun a u hu => let ⟨⟨h1, h2, h3⟩, h4⟩ := h.inn a u hu; ⟨⟨h1, Nat.lt_of_lt_of_le h2 hh, h3⟩, h4⟩ }
theorem RelAt.raise {hi' : Nat} (h : RelAt w lo hi p L) (hh : hi ≤ hi') : RelAt w lo hi' p L := let ⟨b, M, h⟩ := h; ⟨b, M, h.raise hh⟩
theorem RelB.lower {lo' : Nat} (h : RelB w lo hi p b M L) (hh : lo' ≤ lo) : RelB w lo' hi p b M L :=
  { h with
    hp := ⟨Nat.le_trans hh h.hp.1, h.hp.2⟩
    hb := ⟨Nat.le_trans hh h.hb.1, h.hb.2⟩
    inn := fun a u hu => let ⟨⟨h1, h2, h3⟩, h4⟩ := h.inn a u hu; ⟨⟨Nat.le_trans hh h1, h2, h3⟩, h4⟩ }
theorem RelAt.lower {lo' : Nat} (h : RelAt w lo hi p L) (hh : lo' ≤ lo) : RelAt w lo' hi p L := let ⟨b, M, h⟩ := h; ⟨b, M, h.lower hh⟩
theorem RelAt.srt (h : RelAt w lo hi p L) : Srt L := let ⟨_, _, h⟩ := h; h.srt
theorem RelAt.dom (h : RelAt w lo hi p L) : ∀ x ∈ L, dS x.1 ∧ dS x.2 := let ⟨_, _, h⟩ := h; h.dom
theorem RelB.domM (h : RelB w lo hi p b M L) : KDom dS M := fun q hq => by
  have : q.1 ∈ heads L := by rw [← h.keys]; exact List.mem_map.2 ⟨q, hq, rfl⟩
  obtain ⟨c, hc⟩ := mem_heads.1 this
  exact (h.dom _ hc).1
theorem RelB.domR (h : RelB w lo hi p b M L) (a : Int) : KDom dS (units (row L a)) := units_dom fun x hx => (h.dom _ (mem_row.1 hx)).2
theorem RelB.gone (h : RelB w lo hi p b M L) {a : Int} (hf : fnd a M = none) : row L a = [] := by
  rw [List.eq_nil_iff_forall_not_mem]
  intro x hx
  have : a ∈ heads L := mem_heads.2 ⟨x, mem_row.1 hx⟩
  rw [← h.keys] at this
  obtain ⟨q, hq, rfl⟩ := List.mem_map.1 this
  exact (fnd_none.1 hf) q.2 hq
theorem RelB.here (h : RelB w lo hi p b M L) {a : Int} {u : Nat} (hf : fnd a M = some u) : (a, u) ∈ M := (fnd_some h.srtM).1 hf
theorem RelB.len (h : RelB w lo hi p b M L) : M.length ≤ L.length := by
  have h1 := congrArg List.length h.keys
  rw [List.length_map] at h1
  rw [h1]
  have : ∀ l : List Pr, (heads l).length ≤ l.length := by
    intro l
    induction l with
    | nil => simp [heads]
    | cons x l ih => have := length_insI (n := x.1) (l := heads l); simp only [heads, List.length_cons]; omega
  exact this L
theorem RelB.neP (h : RelB w lo hi p b M L) : p ≠ b := by
  rintro rfl
  obtain ⟨es, c, hb, _⟩ := h.out
  rw [h.ptr] at hb
  cases hb
theorem RelB.neU (h : RelB w lo hi p b M L) {a : Int} {u : Nat} (hu : (a, u) ∈ M) : p ≠ u := by
  rintro rfl
  obtain ⟨es, c, hb, _⟩ := (h.inn a _ hu).2
  rw [h.ptr] at hb
  cases hb

/-- It stays while another block is written. -/
theorem RelB.grow (h : RelB w lo hi p b M L) {row : Option Nat} (G : w.grownBy w' row) (hv : ∀ k, row = some k → k ≠ p ∧ ∃ o, w.heap[k]? = some o ∧ ∀ es c, o ≠ .map es c) : RelB w' lo hi p b M L := by
  have key : ∀ {i : Nat} {es : Array MapEntry} {c : Nat}, w.heap[i]? = some (.map es c) → w'.heap[i]? = w.heap[i]? := fun {i es c} hi => G.block i (row_lt hi) fun e => by
    obtain ⟨-, o, h2, h3⟩ := hv i e.symm
    rw [hi] at h2
    exact h3 _ _ (Option.some.inj h2).symm
  obtain ⟨es, c, ho, -⟩ := id h.out
  exact { h with
    ptr := (G.block p (row_lt h.ptr) fun e => (hv p e.symm).1 rfl).trans h.ptr
    out := h.out.obj (key ho)
    inn := fun a u hu => by
      obtain ⟨es, c, hi, -⟩ := id (h.inn a u hu).2
      exact ⟨(h.inn a u hu).1, (h.inn a u hu).2.obj (key hi)⟩ }
theorem RelAt.grow (h : RelAt w lo hi p L) {row : Option Nat} (G : w.grownBy w' row) (hv : ∀ k, row = some k → k ≠ p ∧ ∃ o, w.heap[k]? = some o ∧ ∀ es c, o ≠ .map es c) : RelAt w' lo hi p L := let ⟨b, M, h⟩ := h; ⟨b, M, h.grow G hv⟩
theorem RelAt.lt (h : RelAt w lo hi p L) : lo ≤ p ∧ p < hi := let ⟨_, _, h⟩ := h; h.hp
theorem RelAt.ptr (h : RelAt w lo hi p L) : ∃ b, w.heap[p]? = some (.cells #[.map (some b)] 103 (0, 0)) := let ⟨b, _, h⟩ := h; ⟨b, h.ptr⟩
/-- One pair more, at a thing that has something behind it. -/
theorem RelB.add_old (h : RelB w lo hi p b M L) {a c : Int} {u : Nat} (hu : (a, u) ∈ M) (hw : w.mapTurned w' u) (hm : MapB w' u (units (insI c (row L a)))) (ha : dS a) (hc : dS c) : RelB w' lo hi p b M (insP (a, c) L) := by
  have h1 := (h.inn a u hu).1
  refine ⟨(turned_other hw (h.neU hu)).trans h.ptr, h.hp, h.hb, h.out.obj (turned_other hw h1.2.2.symm), h.srtM, ?_, fun a' u' hu' => ⟨(h.inn a' u' hu').1, ?_⟩, h.inj, srt_insP h.srt, fun x hx => ?_⟩
  · rw [heads_insP, ← h.keys]
    exact (insI_of_mem (h.srtM.keys) (List.mem_map.2 ⟨_, hu, rfl⟩)).symm
  · by_cases e : a' = a
    · subst e
      have e2 : u' = u := Option.some.inj (((fnd_some h.srtM).2 hu').symm.trans ((fnd_some h.srtM).2 hu))
      subst e2
      rw [row_insP_same h.srt]
      exact hm
    · rw [row_insP_other h.srt a c e]
      exact (h.inn a' u' hu').2.obj (turned_other hw fun e2 => e (h.inj a' a u (e2 ▸ hu') hu))
  · rcases mem_insP.1 hx with rfl | hx
    · exact ⟨ha, hc⟩
    · exact h.dom x hx

/-- One pair more, at a thing that has nothing behind it. -/
theorem RelB.add_new (h : RelB w lo hi p b M L) (hhi : hi ≤ w.heap.size) {a c : Int} (hf : fnd a M = Option.none) {w1 w2 : World} (hw1 : (w.alloc (.map #[] 0)).mapTurned w1 b) (hw2 : w1.mapTurned w2 w.heap.size)
    (ho : MapO w1 b (upd a w.heap.size M)) (hm : MapB w2 w.heap.size (units [c])) (ha : dS a) (hc : dS c) : RelB w2 lo w2.heap.size p b (upd a w.heap.size M) (insP (a, c) L) := by
  have hz1 := turned_size hw1
  have hz2 := turned_size hw2
  rw [World.size_alloc] at hz1
  have hpb := h.hp
  have hbb := h.hb
  refine ⟨?_, by omega, by omega, ho.obj (turned_other hw2 (by omega)), srt_upd h.srtM, ?_, fun a' u' hu' => ?_, fun a1 a2 u h1 h2 => ?_, srt_insP h.srt, fun x hx => ?_⟩
  · rw [turned_other hw2 (by omega), turned_other hw1 h.neP]
    exact row_old h.ptr
  · rw [upd_keys, heads_insP, h.keys]
  · rcases (mem_upd h.srtM).1 hu' with e | ⟨hu, hne⟩
    · simp only [Prod.mk.injEq] at e
      obtain ⟨rfl, rfl⟩ := e
      refine ⟨by omega, ?_⟩
      rw [row_insP_same h.srt, h.gone hf]
      exact hm
    · have h3 := h.inn a' u' hu
      refine ⟨by omega, ?_⟩
      rw [row_insP_other h.srt a c hne]
      exact (h3.2.alloc _).obj ((turned_other hw2 (by omega)).trans (turned_other hw1 h3.1.2.2))
  · rcases (mem_upd h.srtM).1 h1 with e1 | ⟨h1, -⟩
    · rcases (mem_upd h.srtM).1 h2 with e2 | ⟨h2, -⟩
      · simp only [Prod.mk.injEq] at e1 e2; rw [e1.1, e2.1]
      · have := (h.inn _ _ h2).1; simp only [Prod.mk.injEq] at e1; omega
    · rcases (mem_upd h.srtM).1 h2 with e2 | ⟨h2, -⟩
      · have := (h.inn _ _ h1).1; simp only [Prod.mk.injEq] at e2; omega
      · exact h.inj _ _ _ h1 h2
  · rcases mem_insP.1 hx with rfl | hx
    · exact ⟨ha, hc⟩
    · exact h.dom x hx
end

/-! ### look-ups -/
theorem zeroM (w : World) : (zeroValue 104).run Try.prog w = .ok (.map none) w := by kernel_rfl
theorem zeroB (w : World) : (zeroValue 4).run Try.prog w = .ok (.bool false) w := by kernel_rfl
section
variable {w : World} {lo hi p b : Nat} {M : List (Int × Nat)} {L : List Pr}
theorem RelB.lookNone (h : RelB w lo hi p b M L) {a : Int} (ha : dS a) (hf : fnd a M = none) : (Instr.lookup 101 (.map (some b)) (nmV a) false).run Try.prog w = .ok (.map none) w := by
  have := h.out.look keyN elem_map h.domM Try.underlying101 (zeroM w) ha
  rwa [hf] at this
theorem RelB.lookSome (h : RelB w lo hi p b M L) {a : Int} {u : Nat} (ha : dS a) (hf : fnd a M = some u) : (Instr.lookup 101 (.map (some b)) (nmV a) false).run Try.prog w = .ok (.map (some u)) w := by
  have := h.out.look keyN elem_map h.domM Try.underlying101 (zeroM w) ha
  rwa [hf] at this
theorem look_bool {u : Nat} {l : List Int} (h : MapB w u (units l)) (hl : ∀ x ∈ l, dS x) {c : Int} (hc : dS c) : (Instr.lookup 104 (.map (some u)) (nmV c) false).run Try.prog w = .ok (.bool (decide (c ∈ l))) w := by
  have := h.look keyN elem_bool (units_dom hl) Try.underlying104 (zeroB w) hc
  rw [units_fnd] at this
  rw [this]
  by_cases e : c ∈ l <;> simp [e]
theorem look_bool_nil {c : Int} (hc : dS c) : (Instr.lookup 104 (.map none) (nmV c) false).run Try.prog w = .ok (.bool false) w :=
  Maps.look_nil false keyN.keyed Try.underlying104 (zeroB w) (keyN.of c hc)
end
end Go.Proofs.Ytlmeblhcipkgmaa.Tx
