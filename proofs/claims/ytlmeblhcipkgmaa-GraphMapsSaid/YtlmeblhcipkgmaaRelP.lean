/- A relation in memory: what it is, and what a store makes of it. Conditions: those of each theorem, as typed. -/
import Derived.Test.YtlmeblhcipkgmaaKeysI
import Derived.WalkSpells
namespace Go.Proofs.Ytlmeblhcipkgmaa
open Go.RowKit Go.Maps

/-! ### blocks of cells that stay -/
structure Keep (w w' : World) : Prop where
  size : w.heap.size ≤ w'.heap.size
  obj : ∀ (i : Nat) (o : Obj), w.heap[i]? = some o → (∀ es c, o ≠ .map es c) → w'.heap[i]? = some o
theorem Keep.cells {w w' : World} (h : Keep w w') {i : Nat} {cs : Array Value} {t : TypeId} {fz : Nat × Nat} (hi : w.heap[i]? = some (.cells cs t fz)) : w'.heap[i]? = some (.cells cs t fz) := h.obj i _ hi fun _ _ e => by cases e
theorem Keep.refl (w : World) : Keep w w := ⟨Nat.le_refl _, fun _ _ h _ => h⟩
theorem Keep.trans {a b c : World} (h : Keep a b) (k : Keep b c) : Keep a c := ⟨Nat.le_trans h.size k.size, fun i o hi ho => k.obj i o (h.obj i o hi ho) ho⟩
theorem Keep.of_below {w w' : World} (h : Below w.heap.size w w') : Keep w w' := ⟨h.size, fun _ _ hi _ => row_below hi h (row_lt hi)⟩
theorem Keep.alloc (w : World) (o : Obj) : Keep w (w.alloc o) := ⟨by simp, fun _ _ hi _ => row_old hi⟩
theorem turned_other {w w' : World} {b i : Nat} (h : w.mapTurned w' b) (hi : i ≠ b) : w'.heap[i]? = w.heap[i]? := by
  obtain ⟨es, c, es', c', hb, rfl⟩ := h
  exact Go.ChangeMaps.heap_setBlock_other hb _ hi
theorem turned_size {w w' : World} {b : Nat} (h : w.mapTurned w' b) : w'.heap.size = w.heap.size := by
  obtain ⟨es, c, es', c', hb, rfl⟩ := h
  simp [ChangeMaps.setBlock]
theorem Keep.turned {w w' : World} {b : Nat} (h : w.mapTurned w' b) : Keep w w' := by
  refine ⟨Nat.le_of_eq (turned_size h).symm, fun i o hi ho => ?_⟩
  obtain ⟨es, c, es', c', hb, e⟩ := id h
  rw [turned_other h (by rintro rfl; rw [hb] at hi; cases hi; exact ho _ _ rfl)]
  exact hi
theorem Below.turned {w w' : World} {b B : Nat} (h : w.mapTurned w' b) (hB : B ≤ b) : Below B w w' := by
  obtain ⟨es, c, es', c', hb, rfl⟩ := h
  exact ⟨rfl, rfl, rfl, by simp [ChangeMaps.setBlock], fun i hi => Go.ChangeMaps.heap_setBlock_other hb _ (by omega)⟩
section
variable {w w' : World} {B sz n : Nat} {v : Value} {xs : List Value}
theorem cell_keep {b off : Nat} {u : Value} (hk : Keep w w') (h : w.cell? ⟨b, off, none⟩ = some u) : w'.cell? ⟨b, off, none⟩ = some u := by
  simp only [World.cell?] at h ⊢
  cases hb : w.heap[b]? with
  | none => simp [hb] at h
  | some o =>
    cases o with
    | cells cs t fz => rw [hb] at h; rw [hk.cells hb]; exact h
    | _ => simp [hb] at h
theorem Sl.keepC (h : Sl w B sz v n xs) (hk : Keep w w') : Sl w' B sz v n xs := by
  obtain ⟨a, cap, hv, hn, hl, h⟩ := h
  exact ⟨a, cap, hv, hn, hl, fun h0 => let ⟨b, off, ha, hb, hc⟩ := h h0; ⟨b, off, ha, hb, fun j u hu => cell_keep hk (hc j u hu)⟩⟩
theorem Sl.up (h : Sl w w.heap.size sz v n xs) (hk : Keep w w') : Sl w' w'.heap.size sz v n xs := (h.keepC hk).more hk.size
theorem OwnF.keepC {α : Type} {f : α → List Value} {e : TypeId} {l : List α} (h : OwnF f e sz w B v l) (hk : Keep w w') : OwnF f e sz w' B v l := by
  obtain ⟨h1, h2⟩ := h
  refine ⟨h1, ?_⟩
  rcases h2 with h2 | ⟨g, cap, cur, rfl, hg, hh, r⟩
  · exact .inl h2
  · exact .inr ⟨g, cap, cur, rfl, hg, hk.cells hh, r⟩
end

/-! ### maps, tight -/
theorem IsMapK.tight {P : Program} {K : TypeId} {R : RdU} {kl : Int → Lit} {ε : Type} {ed : ε → DU} {w : World} {b n : Nat} {M : List (Int × ε)} (h : IsMapK P K R kl ed w b n M) : IsMapK P K R kl ed w b M.length M := by
  obtain ⟨es, c, hb, F, hs, hD⟩ := h
  refine ⟨es, c, hb, F, ?_, hD⟩
  have := congrArg Maps.size hD
  rw [mapD_size] at this
  simp only [Maps.size, length_sorted, List.length_map, Array.length_toList] at this
  omega
abbrev MapO (w : World) (b : Nat) (M : List (Int × Nat)) : Prop := IsMapK Try.prog 3 Rmap (.int .i64) (fun r : Nat => .lit (.int .i64 r)) w b M.length M
abbrev MapB (w : World) (b : Nat) (M : List (Int × Unit)) : Prop := IsMapK Try.prog 3 Rbool (.int .i64) (fun _ : Unit => .lit (.bool true)) w b M.length M
theorem keyI : KeyT Try.prog 3 (.int .i64) (.int .i64) dI := keyT_int Try.underlying3
def units (l : List Int) : List (Int × Unit) := l.map fun x => (x, ())
theorem units_keys (l : List Int) : (units l).map (·.1) = l := by simp [units, Function.comp_def]
theorem units_length (l : List Int) : (units l).length = l.length := by simp [units]
theorem units_srt {l : List Int} (h : SrtI l) : KSrt (units l) := by unfold KSrt units; rw [List.pairwise_map]; exact h
theorem units_upd (a : Int) : ∀ l : List Int, upd a () (units l) = units (insI a l)
  | [] => rfl
  | x :: l => by
    have ih := units_upd a l
    simp only [units, List.map_cons, upd, insI] at ih ⊢
    split
    · rename_i h; subst h; rfl
    · split
      · rfl
      · rw [ih]; rfl
theorem units_fnd (a : Int) : ∀ l : List Int, fnd a (units l) = if a ∈ l then some () else none
  | [] => rfl
  | x :: l => by
    have ih := units_fnd a l
    simp only [units, List.map_cons, fnd] at ih ⊢
    by_cases h : x = a
    · subst h; simp
    · rw [if_neg h, ih]
      have h' : ¬ a = x := fun e => h e.symm
      simp [h']
theorem units_dom {dom : Int → Prop} {l : List Int} (h : ∀ x ∈ l, dom x) : KDom dom (units l) := fun p hp => by
  obtain ⟨x, hx, rfl⟩ := List.mem_map.1 hp
  exact h x hx
theorem heads_insP {l : List Pr} (a b : Int) : heads (insP (a, b) l) = insI a (heads l) :=
  (srt_heads _).ext (srt_insI (srt_heads l)) fun x => by
    rw [mem_heads, mem_insI, mem_heads]
    constructor
    · rintro ⟨y, hy⟩
      rcases mem_insP.1 hy with e | hy
      · simp only [Prod.mk.injEq] at e; exact .inl e.1
      · exact .inr ⟨y, hy⟩
    · rintro (rfl | ⟨y, hy⟩)
      · exact ⟨b, mem_insP.2 (.inl rfl)⟩
      · exact ⟨y, mem_insP.2 (.inr hy)⟩
theorem upd_keys {ε : Type} (a : Int) (v : ε) : ∀ M : List (Int × ε), (upd a v M).map (·.1) = insI a (M.map (·.1))
  | [] => rfl
  | (x, u) :: M => by
    have ih := upd_keys a v M
    simp only [upd, List.map_cons, insI]
    split
    · rename_i h; subst h; rfl
    · split
      · rfl
      · rw [List.map_cons, ih]

/-! ### a relation -/
structure RelB (w : World) (lo hi p b : Nat) (M : List (Int × Nat)) (L : List Pr) : Prop where
  ptr : w.heap[p]? = some (.cells #[.map (some b)] 100 (0, 0))
  hp : lo ≤ p ∧ p < hi
  hb : lo ≤ b ∧ b < hi
  out : MapO w b M
  srtM : KSrt M
  keys : M.map (·.1) = heads L
  inn : ∀ a u, (a, u) ∈ M → (lo ≤ u ∧ u < hi ∧ u ≠ b) ∧ MapB w u (units (row L a))
  inj : ∀ a a' u, (a, u) ∈ M → (a', u) ∈ M → a = a'
  srt : Srt L
  dom : ∀ x ∈ L, dI x.1 ∧ dI x.2
def RelAt (w : World) (lo hi p : Nat) (L : List Pr) : Prop := ∃ b M, RelB w lo hi p b M L
section
variable {w w' : World} {lo hi p b : Nat} {M : List (Int × Nat)} {L : List Pr}
theorem RelB.below {N : Nat} (h : RelB w lo hi p b M L) (hb : Below N w w') (hN : hi ≤ N) : RelB w' lo hi p b M L :=
  { h with
    ptr := row_below h.ptr hb (by have := h.hp; omega)
    out := h.out.below hb (by have := h.hb; omega)
    inn := fun a u hu => ⟨(h.inn a u hu).1, (h.inn a u hu).2.below hb (by have := (h.inn a u hu).1; omega)⟩ }
theorem RelAt.below {N : Nat} (h : RelAt w lo hi p L) (hb : Below N w w') (hN : hi ≤ N) : RelAt w' lo hi p L := let ⟨b, M, h⟩ := h; ⟨b, M, h.below hb hN⟩
theorem RelB.raise {hi' : Nat} (h : RelB w lo hi p b M L) (hh : hi ≤ hi') : RelB w lo hi' p b M L :=
  { h with
    hp := ⟨h.hp.1, Nat.lt_of_lt_of_le h.hp.2 hh⟩
    hb := ⟨h.hb.1, Nat.lt_of_lt_of_le h.hb.2 hh⟩
    inn := fun a u hu => let ⟨⟨h1, h2, h3⟩, h4⟩ := h.inn a u hu; ⟨⟨h1, Nat.lt_of_lt_of_le h2 hh, h3⟩, h4⟩ }
theorem RelAt.raise {hi' : Nat} (h : RelAt w lo hi p L) (hh : hi ≤ hi') : RelAt w lo hi' p L := let ⟨b, M, h⟩ := h; ⟨b, M, h.raise hh⟩
theorem RelB.lower {lo' : Nat} (h : RelB w lo hi p b M L) (hh : lo' ≤ lo) : RelB w lo' hi p b M L :=
  { h with
    hp := ⟨Nat.le_trans hh h.hp.1, h.hp.2⟩
    hb := ⟨Nat.le_trans hh h.hb.1, h.hb.2⟩
    inn := fun a u hu => let ⟨⟨h1, h2, h3⟩, h4⟩ := h.inn a u hu; ⟨⟨Nat.le_trans hh h1, h2, h3⟩, h4⟩ }
theorem RelAt.lower {lo' : Nat} (h : RelAt w lo hi p L) (hh : lo' ≤ lo) : RelAt w lo' hi p L := let ⟨b, M, h⟩ := h; ⟨b, M, h.lower hh⟩
theorem RelAt.srt (h : RelAt w lo hi p L) : Srt L := let ⟨_, _, h⟩ := h; h.srt
theorem RelAt.dom (h : RelAt w lo hi p L) : ∀ x ∈ L, dI x.1 ∧ dI x.2 := let ⟨_, _, h⟩ := h; h.dom
theorem RelB.domM (h : RelB w lo hi p b M L) : KDom dI M := fun q hq => by
  have : q.1 ∈ heads L := by rw [← h.keys]; exact List.mem_map.2 ⟨q, hq, rfl⟩
  obtain ⟨c, hc⟩ := mem_heads.1 this
  exact (h.dom _ hc).1
theorem RelB.domR (h : RelB w lo hi p b M L) (a : Int) : KDom dI (units (row L a)) := units_dom fun x hx => (h.dom _ (mem_row.1 hx)).2
theorem RelB.gone (h : RelB w lo hi p b M L) {a : Int} (hf : fnd a M = none) : row L a = [] := by
  rw [List.eq_nil_iff_forall_not_mem]
  intro x hx
  have : a ∈ heads L := mem_heads.2 ⟨x, mem_row.1 hx⟩
  rw [← h.keys] at this
  obtain ⟨q, hq, rfl⟩ := List.mem_map.1 this
  exact (fnd_none.1 hf) q.2 hq
theorem RelB.here (h : RelB w lo hi p b M L) {a : Int} {u : Nat} (hf : fnd a M = some u) : (a, u) ∈ M := (fnd_some h.srtM).1 hf
theorem RelB.len (h : RelB w lo hi p b M L) : M.length ≤ L.length := by
  have h1 := congrArg List.length h.keys
  rw [List.length_map] at h1
  rw [h1]
  have : ∀ l : List Pr, (heads l).length ≤ l.length := by
    intro l
    induction l with
    | nil => simp [heads]
    | cons x l ih => have := length_insI (n := x.1) (l := heads l); simp only [heads, List.length_cons]; omega
  exact this L
theorem RelB.neP (h : RelB w lo hi p b M L) : p ≠ b := by
  rintro rfl
  obtain ⟨es, c, hb, _⟩ := h.out
  rw [h.ptr] at hb
  cases hb
theorem RelB.neU (h : RelB w lo hi p b M L) {a : Int} {u : Nat} (hu : (a, u) ∈ M) : p ≠ u := by
  rintro rfl
  obtain ⟨es, c, hb, _⟩ := (h.inn a _ hu).2
  rw [h.ptr] at hb
  cases hb

/-- It stays while another block is written. -/
theorem RelB.grow (h : RelB w lo hi p b M L) {row : Option Nat} (G : w.grownBy w' row) (hv : ∀ k, row = some k → k ≠ p ∧ ∃ o, w.heap[k]? = some o ∧ ∀ es c, o ≠ .map es c) : RelB w' lo hi p b M L := by
  have key : ∀ {i : Nat} {es : Array MapEntry} {c : Nat}, w.heap[i]? = some (.map es c) → w'.heap[i]? = w.heap[i]? := fun {i es c} hi => G.block i (row_lt hi) fun e => by
    obtain ⟨-, o, h2, h3⟩ := hv i e.symm
    rw [hi] at h2
    exact h3 _ _ (Option.some.inj h2).symm
  obtain ⟨es, c, ho, -⟩ := id h.out
  exact { h with
    ptr := (G.block p (row_lt h.ptr) fun e => (hv p e.symm).1 rfl).trans h.ptr
    out := h.out.obj (key ho)
    inn := fun a u hu => by
      obtain ⟨es, c, hi, -⟩ := id (h.inn a u hu).2
      exact ⟨(h.inn a u hu).1, (h.inn a u hu).2.obj (key hi)⟩ }
theorem RelAt.grow (h : RelAt w lo hi p L) {row : Option Nat} (G : w.grownBy w' row) (hv : ∀ k, row = some k → k ≠ p ∧ ∃ o, w.heap[k]? = some o ∧ ∀ es c, o ≠ .map es c) : RelAt w' lo hi p L := let ⟨b, M, h⟩ := h; ⟨b, M, h.grow G hv⟩
theorem RelAt.lt (h : RelAt w lo hi p L) : lo ≤ p ∧ p < hi := let ⟨_, _, h⟩ := h; h.hp
theorem RelAt.ptr (h : RelAt w lo hi p L) : ∃ b, w.heap[p]? = some (.cells #[.map (some b)] 100 (0, 0)) := let ⟨b, _, h⟩ := h; ⟨b, h.ptr⟩
/-- One pair more, at a thing that has something behind it. -/
theorem RelB.add_old (h : RelB w lo hi p b M L) {a c : Int} {u : Nat} (hu : (a, u) ∈ M) (hw : w.mapTurned w' u) (hm : MapB w' u (units (insI c (row L a)))) (ha : dI a) (hc : dI c) : RelB w' lo hi p b M (insP (a, c) L) := by
  have h1 := (h.inn a u hu).1
  refine ⟨(turned_other hw (h.neU hu)).trans h.ptr, h.hp, h.hb, h.out.obj (turned_other hw h1.2.2.symm), h.srtM, ?_, fun a' u' hu' => ⟨(h.inn a' u' hu').1, ?_⟩, h.inj, srt_insP h.srt, fun x hx => ?_⟩
  · rw [heads_insP, ← h.keys]
    exact (insI_of_mem (h.srtM.keys) (List.mem_map.2 ⟨_, hu, rfl⟩)).symm
  · by_cases e : a' = a
    · subst e
      have e2 : u' = u := Option.some.inj (((fnd_some h.srtM).2 hu').symm.trans ((fnd_some h.srtM).2 hu))
      subst e2
      rw [row_insP_same h.srt]
      exact hm
    · rw [row_insP_other h.srt a c e]
      exact (h.inn a' u' hu').2.obj (turned_other hw fun e2 => e (h.inj a' a u (e2 ▸ hu') hu))
  · rcases mem_insP.1 hx with rfl | hx
    · exact ⟨ha, hc⟩
    · exact h.dom x hx

/-- One pair more, at a thing that has nothing behind it. -/
theorem RelB.add_new (h : RelB w lo hi p b M L) (hhi : hi ≤ w.heap.size) {a c : Int} (hf : fnd a M = Option.none) {w1 w2 : World} (hw1 : (w.alloc (.map #[] 0)).mapTurned w1 b) (hw2 : w1.mapTurned w2 w.heap.size)
    (ho : MapO w1 b (upd a w.heap.size M)) (hm : MapB w2 w.heap.size (units [c])) (ha : dI a) (hc : dI c) : RelB w2 lo w2.heap.size p b (upd a w.heap.size M) (insP (a, c) L) := by
  have hz1 := turned_size hw1
  have hz2 := turned_size hw2
  rw [World.size_alloc] at hz1
  have hpb := h.hp
  have hbb := h.hb
  refine ⟨?_, by omega, by omega, ho.obj (turned_other hw2 (by omega)), srt_upd h.srtM, ?_, fun a' u' hu' => ?_, fun a1 a2 u h1 h2 => ?_, srt_insP h.srt, fun x hx => ?_⟩
  · rw [turned_other hw2 (by omega), turned_other hw1 h.neP]
    exact row_old h.ptr
  · rw [upd_keys, heads_insP, h.keys]
  · rcases (mem_upd h.srtM).1 hu' with e | ⟨hu, hne⟩
    · simp only [Prod.mk.injEq] at e
      obtain ⟨rfl, rfl⟩ := e
      refine ⟨by omega, ?_⟩
      rw [row_insP_same h.srt, h.gone hf]
      exact hm
    · have h3 := h.inn a' u' hu
      refine ⟨by omega, ?_⟩
      rw [row_insP_other h.srt a c hne]
      exact (h3.2.alloc _).obj ((turned_other hw2 (by omega)).trans (turned_other hw1 h3.1.2.2))
  · rcases (mem_upd h.srtM).1 h1 with e1 | ⟨h1, -⟩
    · rcases (mem_upd h.srtM).1 h2 with e2 | ⟨h2, -⟩
      · simp only [Prod.mk.injEq] at e1 e2; rw [e1.1, e2.1]
      · have := (h.inn _ _ h2).1; simp only [Prod.mk.injEq] at e1; omega
    · rcases (mem_upd h.srtM).1 h2 with e2 | ⟨h2, -⟩
      · have := (h.inn _ _ h1).1; simp only [Prod.mk.injEq] at e2; omega
      · exact h.inj _ _ _ h1 h2
  · rcases mem_insP.1 hx with rfl | hx
    · exact ⟨ha, hc⟩
    · exact h.dom x hx
end

/-! ### look-ups -/
theorem zeroM (w : World) : (zeroValue 110).run Try.prog w = .ok (.map none) w := by kernel_rfl
theorem zeroB (w : World) : (zeroValue 4).run Try.prog w = .ok (.bool false) w := by kernel_rfl
section
variable {w : World} {lo hi p b : Nat} {M : List (Int × Nat)} {L : List Pr}
theorem RelB.lookNone (h : RelB w lo hi p b M L) {a : Int} (ha : dI a) (hf : fnd a M = none) : (Instr.lookup 98 (.map (some b)) (.int .i64 a) false).run Try.prog w = .ok (.map none) w := by
  have := h.out.look keyI elem_map h.domM Try.underlying98 (zeroM w) ha
  rwa [hf] at this
theorem RelB.lookSome (h : RelB w lo hi p b M L) {a : Int} {u : Nat} (ha : dI a) (hf : fnd a M = some u) : (Instr.lookup 98 (.map (some b)) (.int .i64 a) false).run Try.prog w = .ok (.map (some u)) w := by
  have := h.out.look keyI elem_map h.domM Try.underlying98 (zeroM w) ha
  rwa [hf] at this
theorem look_bool {u : Nat} {l : List Int} (h : MapB w u (units l)) (hl : ∀ x ∈ l, dI x) {c : Int} (hc : dI c) : (Instr.lookup 110 (.map (some u)) (.int .i64 c) false).run Try.prog w = .ok (.bool (decide (c ∈ l))) w := by
  have := h.look keyI elem_bool (units_dom hl) Try.underlying110 (zeroB w) hc
  rw [units_fnd] at this
  rw [this]
  by_cases e : c ∈ l <;> simp [e]
theorem look_bool_nil {c : Int} (hc : dI c) : (Instr.lookup 110 (.map none) (.int .i64 c) false).run Try.prog w = .ok (.bool false) w :=
  Maps.look_nil false keyI.keyed Try.underlying110 (zeroB w) (keyI.of c hc)
end
end Go.Proofs.Ytlmeblhcipkgmaa
