/- Graphs of names: New, Node, Nodes, Edge. Conditions: those of each theorem, as typed. -/
import Derived.Test.YtlmeblhcipkgmaaGrF
import Derived.Test.YtlmeblhcipkgmaaKeysN
import Derived.WalkSpells
namespace Go.Proofs.Ytlmeblhcipkgmaa.Gx
open Go.RowKit Go.Maps
set_option linter.unusedVariables false
abbrev MapO (w : World) (b : Nat) (M : List (Int × Nat)) : Prop := IsMapK Try.prog 9 Rmap nmL (fun r : Nat => .lit (.int .i64 r)) w b M.length M
theorem keyN : KeyT Try.prog 9 nmV nmL dS := keyT_str Try.underlying9
structure GrB (w : World) (lo hi p b : Nat) (ow : Nat → Int) (M : List (Int × Nat)) (A : Int → List (Int × Nat)) (N : List Int) (E : List Tr) : Prop where
  ptr : w.heap[p]? = some (.cells #[.map (some b)] 138 (0, 0))
  hp : lo ≤ p ∧ p < hi
  hb : lo ≤ b ∧ b < hi
  out : MapO w b M
  srtM : KSrt M
  keys : M.map (·.1) = N
  inn : ∀ a u, (a, u) ∈ M → (lo ≤ u ∧ u < hi ∧ u ≠ b ∧ ow u = a) ∧ MapO w u (A a) ∧ KSrt (A a) ∧ (A a).map (·.1) = row (prs E) a
  leaf : ∀ a u c v, (a, u) ∈ M → (c, v) ∈ A a → (lo ≤ v ∧ v < hi ∧ v ≠ b ∧ v ≠ u ∧ ow v = a) ∧ MapB w v (units (kindsOf E a c))
  inj : ∀ a u c c' v, (a, u) ∈ M → (c, v) ∈ A a → (c', v) ∈ A a → c = c'
  ok : GrOk N E
  domN : ∀ a ∈ N, dS a
  domE : ∀ e ∈ E, dI e.2.2
def GrAt (w : World) (lo hi p : Nat) (N : List Int) (E : List Tr) : Prop := ∃ b ow M A, GrB w lo hi p b ow M A N E

section
variable {w w' : World} {lo hi p b : Nat} {ow : Nat → Int} {M : List (Int × Nat)} {A : Int → List (Int × Nat)} {N : List Int} {E : List Tr}
theorem GrB.below {K : Nat} (h : GrB w lo hi p b ow M A N E) (hb : Below K w w') (hK : hi ≤ K) : GrB w' lo hi p b ow M A N E :=
  { h with
    ptr := row_below h.ptr hb (by have := h.hp; omega)
    out := h.out.below hb (by have := h.hb; omega)
    inn := fun a u hu => let ⟨h1, h2, h3⟩ := h.inn a u hu; ⟨h1, h2.below hb (by omega), h3⟩
    leaf := fun a u c v hu hv => let ⟨h1, h2⟩ := h.leaf a u c v hu hv; ⟨h1, h2.below hb (by omega)⟩ }
theorem GrAt.below {K : Nat} (h : GrAt w lo hi p N E) (hb : Below K w w') (hK : hi ≤ K) : GrAt w' lo hi p N E := let ⟨b, ow, M, A, h⟩ := h; ⟨b, ow, M, A, h.below hb hK⟩
theorem GrB.raise {hi' : Nat} (h : GrB w lo hi p b ow M A N E) (hh : hi ≤ hi') : GrB w lo hi' p b ow M A N E :=
  { h with
    hp := ⟨h.hp.1, Nat.lt_of_lt_of_le h.hp.2 hh⟩
    hb := ⟨h.hb.1, Nat.lt_of_lt_of_le h.hb.2 hh⟩
    inn := fun a u hu => let ⟨h1, h2⟩ := h.inn a u hu; ⟨⟨h1.1, Nat.lt_of_lt_of_le h1.2.1 hh, h1.2.2⟩, h2⟩
    leaf := fun a u c v hu hv => let ⟨h1, h2⟩ := h.leaf a u c v hu hv; ⟨⟨h1.1, Nat.lt_of_lt_of_le h1.2.1 hh, h1.2.2⟩, h2⟩ }
theorem GrAt.raise {hi' : Nat} (h : GrAt w lo hi p N E) (hh : hi ≤ hi') : GrAt w lo hi' p N E := let ⟨b, ow, M, A, h⟩ := h; ⟨b, ow, M, A, h.raise hh⟩
theorem GrB.lower {lo' : Nat} (h : GrB w lo hi p b ow M A N E) (hh : lo' ≤ lo) : GrB w lo' hi p b ow M A N E :=
  { h with
    hp := ⟨Nat.le_trans hh h.hp.1, h.hp.2⟩
    hb := ⟨Nat.le_trans hh h.hb.1, h.hb.2⟩
    inn := fun a u hu => let ⟨h1, h2⟩ := h.inn a u hu; ⟨⟨Nat.le_trans hh h1.1, h1.2⟩, h2⟩
    leaf := fun a u c v hu hv => let ⟨h1, h2⟩ := h.leaf a u c v hu hv; ⟨⟨Nat.le_trans hh h1.1, h1.2⟩, h2⟩ }
theorem GrAt.lower {lo' : Nat} (h : GrAt w lo hi p N E) (hh : lo' ≤ lo) : GrAt w lo' hi p N E := let ⟨b, ow, M, A, h⟩ := h; ⟨b, ow, M, A, h.lower hh⟩
theorem GrAt.ok (h : GrAt w lo hi p N E) : GrOk N E := let ⟨_, _, _, _, h⟩ := h; h.ok
theorem GrAt.domN (h : GrAt w lo hi p N E) : ∀ a ∈ N, dS a := let ⟨_, _, _, _, h⟩ := h; h.domN
theorem GrAt.domE (h : GrAt w lo hi p N E) : ∀ e ∈ E, dI e.2.2 := let ⟨_, _, _, _, h⟩ := h; h.domE
theorem GrAt.lt (h : GrAt w lo hi p N E) : lo ≤ p ∧ p < hi := let ⟨_, _, _, _, h⟩ := h; h.hp
theorem GrB.domM (h : GrB w lo hi p b ow M A N E) : KDom dS M := fun q hq => h.domN _ (by rw [← h.keys]; exact List.mem_map.2 ⟨q, hq, rfl⟩)
theorem GrB.inN (h : GrB w lo hi p b ow M A N E) {a : Int} {u : Nat} (hu : (a, u) ∈ M) : a ∈ N := by rw [← h.keys]; exact List.mem_map.2 ⟨_, hu, rfl⟩
theorem GrB.domR (h : GrB w lo hi p b ow M A N E) (a : Int) : ∀ c ∈ row (prs E) a, dS c := fun _ hc => h.domN _ (h.ok.pair (mem_row.1 hc)).2
theorem GrB.domA (h : GrB w lo hi p b ow M A N E) {a : Int} {u : Nat} (hu : (a, u) ∈ M) : KDom dS (A a) := fun q hq => by
  refine h.domR a q.1 ?_
  rw [← (h.inn a u hu).2.2.2]
  exact List.mem_map.2 ⟨q, hq, rfl⟩
theorem GrB.domK (h : GrB w lo hi p b ow M A N E) (a c : Int) : ∀ k ∈ kindsOf E a c, dI k := fun _ hk => h.domE _ (mem_kindsOf.1 hk)
theorem GrB.here (h : GrB w lo hi p b ow M A N E) {a : Int} {u : Nat} (hf : fnd a M = some u) : (a, u) ∈ M := (fnd_some h.srtM).1 hf
theorem GrB.hereA (h : GrB w lo hi p b ow M A N E) {a c : Int} {u v : Nat} (hu : (a, u) ∈ M) (hf : fnd c (A a) = some v) : (c, v) ∈ A a := (fnd_some (h.inn a u hu).2.2.1).1 hf
theorem GrB.gone (h : GrB w lo hi p b ow M A N E) {a : Int} (hf : fnd a M = none) : a ∉ N := fun ha => by
  rw [← h.keys] at ha
  obtain ⟨q, hq, rfl⟩ := List.mem_map.1 ha
  exact (fnd_none.1 hf) q.2 hq
theorem GrB.gone_row (h : GrB w lo hi p b ow M A N E) {a : Int} (hf : fnd a M = none) : row (prs E) a = [] := by
  rw [List.eq_nil_iff_forall_not_mem]
  exact fun c hc => h.gone hf (h.ok.pair (mem_row.1 hc)).1
theorem GrB.goneA (h : GrB w lo hi p b ow M A N E) {a c : Int} {u : Nat} (hu : (a, u) ∈ M) (hf : fnd c (A a) = none) : c ∉ row (prs E) a := fun hc => by
  rw [← (h.inn a u hu).2.2.2] at hc
  obtain ⟨q, hq, rfl⟩ := List.mem_map.1 hc
  exact (fnd_none.1 hf) q.2 hq
theorem GrB.there (h : GrB w lo hi p b ow M A N E) {a : Int} (ha : a ∈ N) : ∃ u, fnd a M = some u := by
  cases hf : fnd a M with
  | some u => exact ⟨u, rfl⟩
  | none => exact absurd ha (h.gone hf)
theorem GrB.lenM (h : GrB w lo hi p b ow M A N E) : M.length = N.length := by have := congrArg List.length h.keys; simpa using this
theorem GrB.lenA (h : GrB w lo hi p b ow M A N E) {a : Int} {u : Nat} (hu : (a, u) ∈ M) : (A a).length ≤ E.length := by
  have h1 := congrArg List.length (h.inn a u hu).2.2.2
  rw [List.length_map] at h1
  have h2 := length_row (prs E) a
  have h3 := length_prs E
  omega
theorem GrB.same (h : GrB w lo hi p b ow M A N E) {a : Int} {u u' : Nat} (hu : (a, u) ∈ M) (hu' : (a, u') ∈ M) : u' = u := Option.some.inj (((fnd_some h.srtM).2 hu').symm.trans ((fnd_some h.srtM).2 hu))
theorem GrB.grow (h : GrB w lo hi p b ow M A N E) {row : Option Nat} (G : w.grownBy w' row) (hv : ∀ k, row = some k → k ≠ p ∧ ∃ o, w.heap[k]? = some o ∧ ∀ es c, o ≠ .map es c) : GrB w' lo hi p b ow M A N E := by
  have key : ∀ {i : Nat} {es : Array MapEntry} {c : Nat}, w.heap[i]? = some (.map es c) → w'.heap[i]? = w.heap[i]? := fun {i es c} hi => G.block i (row_lt hi) fun e => by
    obtain ⟨-, o, h2, h3⟩ := hv i e.symm
    rw [hi] at h2
    exact h3 _ _ (Option.some.inj h2).symm
  obtain ⟨es, c, ho, -⟩ := id h.out
  exact { h with
    ptr := (G.block p (row_lt h.ptr) fun e => (hv p e.symm).1 rfl).trans h.ptr
    out := h.out.obj (key ho)
    inn := fun a u hu => by
      obtain ⟨h1, h2, h3⟩ := h.inn a u hu
      obtain ⟨es, c, hi, -⟩ := id h2
      exact ⟨h1, h2.obj (key hi), h3⟩
    leaf := fun a u c v hu hc => by
      obtain ⟨h1, h2⟩ := h.leaf a u c v hu hc
      obtain ⟨es, c, hi, -⟩ := id h2
      exact ⟨h1, h2.obj (key hi)⟩ }
theorem GrAt.grow (h : GrAt w lo hi p N E) {row : Option Nat} (G : w.grownBy w' row) (hv : ∀ k, row = some k → k ≠ p ∧ ∃ o, w.heap[k]? = some o ∧ ∀ es c, o ≠ .map es c) : GrAt w' lo hi p N E := let ⟨b, ow, M, A, h⟩ := h; ⟨b, ow, M, A, h.grow G hv⟩

/-- One node more. -/
theorem GrB.node_new (h : GrB w lo hi p b ow M A N E) (hhi : hi ≤ w.heap.size) {a : Int} (hf : fnd a M = none) (hw : (w.alloc (.map #[] 0)).mapTurned w' b) (ho : MapO w' b (upd a w.heap.size M)) (ha : dS a) :
    GrB w' lo w'.heap.size p b (fun v => if v = w.heap.size then a else ow v) (upd a w.heap.size M) (fun x => if x = a then [] else A x) (insI a N) E := by
  have hz := turned_size hw
  rw [World.size_alloc] at hz
  have hpb := h.hp
  have hbb := h.hb
  have hna := h.gone hf
  have hrow := h.gone_row hf
  have old : ∀ {i : Nat}, i < w.heap.size → i ≠ b → w'.heap[i]? = (w.alloc (.map #[] 0)).heap[i]? := fun _ hi => turned_other hw hi
  have hm : MapO w' w.heap.size [] := ((IsMapK.made w) : MapO _ _ []).obj (turned_other hw (by omega))
  refine ⟨?_, by omega, by omega, ho, srt_upd h.srtM, ?_, fun x u hu => ?_, fun x u c v hu hc => ?_, fun x u c c' v hu hc hc' => ?_, h.ok.node a, fun x hx => ?_, h.domE⟩
  · rw [turned_other hw (mapo_ne h.ptr h.out)]
    exact row_old h.ptr
  · rw [upd_keys, h.keys]
  · rcases (mem_upd h.srtM).1 hu with e | ⟨hu, hne⟩
    · simp only [Prod.mk.injEq] at e
      obtain ⟨rfl, rfl⟩ := e
      refine ⟨by simp; omega, ?_⟩
      simp only [if_true]
      exact ⟨hm, List.Pairwise.nil, by rw [hrow]; rfl⟩
    · obtain ⟨h1, h2, h3⟩ := h.inn x u hu
      refine ⟨⟨by omega, by omega, h1.2.2.1, by rw [if_neg (by omega)]; exact h1.2.2.2⟩, ?_⟩
      simp only [if_neg (show ¬ x = a from hne)]
      exact ⟨(h2.alloc _).obj (turned_other hw h1.2.2.1), h3⟩
  · rcases (mem_upd h.srtM).1 hu with e | ⟨hu, hne⟩
    · simp only [Prod.mk.injEq] at e
      obtain ⟨rfl, rfl⟩ := e
      simp at hc
    · simp only [if_neg (show ¬ x = a from hne)] at hc
      obtain ⟨h1, h2⟩ := h.leaf x u c v hu hc
      exact ⟨⟨by omega, by omega, h1.2.2.1, h1.2.2.2.1, by rw [if_neg (by omega)]; exact h1.2.2.2.2⟩, (h2.alloc _).obj (turned_other hw h1.2.2.1)⟩
  · rcases (mem_upd h.srtM).1 hu with e | ⟨hu, hne⟩
    · simp only [Prod.mk.injEq] at e
      obtain ⟨rfl, rfl⟩ := e
      simp at hc
    · simp only [if_neg (show ¬ x = a from hne)] at hc hc'
      exact h.inj x u c c' v hu hc hc'
  · rcases mem_insI.1 hx with rfl | hx
    · exact ha
    · exact h.domN x hx

/-- One kind more, at nodes that are joined already. -/
theorem GrB.edge_old (h : GrB w lo hi p b ow M A N E) {a c k : Int} {u v : Nat} (hu : (a, u) ∈ M) (hv : (c, v) ∈ A a) (hw : w.mapTurned w' v) (hm : MapB w' v (units (insI k (kindsOf E a c)))) (hk : dI k) :
    GrB w' lo hi p b ow M A N (insT (a, c, k) E) := by
  have h1 := (h.leaf a u c v hu hv).1
  have hc : c ∈ row (prs E) a := by rw [← (h.inn a u hu).2.2.2]; exact List.mem_map.2 ⟨_, hv, rfl⟩
  have hac := h.ok.pair (mem_row.1 hc)
  refine ⟨?_, h.hp, h.hb, h.out.obj (turned_other hw h1.2.2.1.symm), h.srtM, h.keys, fun x u' hu' => ?_, fun x u' c' v' hu' hc' => ?_, h.inj, ?_, h.domN, fun e he => ?_⟩
  · rw [turned_other hw (mapo_ne h.ptr (h.leaf a u c v hu hv).2)]
    exact h.ptr
  · obtain ⟨h2, h3, h4, h5⟩ := h.inn x u' hu'
    refine ⟨h2, h3.obj (turned_other hw ?_), h4, ?_⟩
    · rintro rfl
      have e1 : x = a := h2.2.2.2.symm.trans h1.2.2.2.2
      subst e1
      exact h1.2.2.2.1 (h.same hu hu')
    · by_cases e : x = a
      · subst e
        rw [row_prs_same, insI_of_mem (srt_row (srt_prs E) x) hc]
        exact h5
      · rw [row_prs_other E a c k e]
        exact h5
  · obtain ⟨h2, h3⟩ := h.leaf x u' c' v' hu' hc'
    refine ⟨h2, ?_⟩
    by_cases e : v' = v
    · subst e
      have e1 : x = a := h2.2.2.2.2.symm.trans h1.2.2.2.2
      subst e1
      have e2 : c' = c := h.inj x u' c' c v' hu' hc' hv
      subst e2
      rw [kinds_ins_same h.ok.srtE]
      exact hm
    · rw [kinds_ins_other h.ok.srtE]
      · exact h3.obj (turned_other hw e)
      · by_cases e1 : x = a
        · subst e1
          refine .inr fun e2 => e ?_
          subst e2
          exact Option.some.inj (((fnd_some (h.inn x u' hu').2.2.1).2 hc').symm.trans ((fnd_some (h.inn x u' hu').2.2.1).2 hv))
        · exact .inl e1
  · refine ⟨h.ok.srtN, srt_insT h.ok.srtE, fun e he => ?_⟩
    rcases mem_insT.1 he with rfl | he
    · exact hac
    · exact h.ok.sub e he
  · rcases mem_insT.1 he with rfl | he
    · exact hk
    · exact h.domE e he

/-- One kind more, at nodes that are not joined yet. -/
theorem GrB.edge_new (h : GrB w lo hi p b ow M A N E) (hhi : hi ≤ w.heap.size) {a c k : Int} {u : Nat} (hu : (a, u) ∈ M) (hcN : c ∈ N) (hf : fnd c (A a) = Option.none) {w1 w2 : World} (hw1 : (w.alloc (.map #[] 0)).mapTurned w1 u) (hw2 : w1.mapTurned w2 w.heap.size)
    (ho : MapO w1 u (upd c w.heap.size (A a))) (hm : MapB w2 w.heap.size (units [k])) (hk : dI k) :
    GrB w2 lo w2.heap.size p b (fun v => if v = w.heap.size then a else ow v) M (fun x => if x = a then upd c w.heap.size (A a) else A x) N (insT (a, c, k) E) := by
  have hz1 := turned_size hw1
  have hz2 := turned_size hw2
  rw [World.size_alloc] at hz1
  have hpb := h.hp
  have hbb := h.hb
  have haN := h.inN hu
  have hnc := h.goneA hu hf
  obtain ⟨i1, i2, i3, i4⟩ := h.inn a u hu
  refine ⟨?_, by omega, by omega, ?_, h.srtM, h.keys, fun x u' hu' => ?_, fun x u' c' v' hu' hc' => ?_, fun x u' c1 c2 v' hu' hc1 hc2 => ?_, ?_, h.domN, fun e he => ?_⟩
  · rw [turned_other hw2 (by omega), turned_other hw1 (mapo_ne h.ptr i2)]
    exact row_old h.ptr
  · exact ((h.out.alloc _).obj (turned_other hw1 i1.2.2.1.symm)).obj (turned_other hw2 (by omega))
  · obtain ⟨h2, h3, h4, h5⟩ := h.inn x u' hu'
    refine ⟨⟨by omega, by omega, h2.2.2.1, by rw [if_neg (by omega)]; exact h2.2.2.2⟩, ?_⟩
    by_cases e : x = a
    · subst e
      have e2 := h.same hu hu'
      subst e2
      simp only [if_true]
      refine ⟨ho.obj (turned_other hw2 (by omega)), srt_upd i3, ?_⟩
      rw [upd_keys, i4, row_prs_same]
    · simp only [if_neg e]
      refine ⟨((h3.alloc _).obj (turned_other hw1 ?_)).obj (turned_other hw2 (by omega)), h4, by rw [row_prs_other E a c k e]; exact h5⟩
      rintro rfl
      exact e (h2.2.2.2.symm.trans i1.2.2.2)
  · by_cases e : x = a
    · subst e
      have e2 := h.same hu hu'
      subst e2
      simp only [if_true] at hc'
      rcases (mem_upd i3).1 hc' with e3 | ⟨hc', hne⟩
      · simp only [Prod.mk.injEq] at e3
        obtain ⟨rfl, rfl⟩ := e3
        refine ⟨⟨by omega, by omega, by omega, by omega, by simp⟩, ?_⟩
        rw [kinds_ins_same h.ok.srtE, kinds_nil hnc]
        exact hm
      · obtain ⟨h2, h3⟩ := h.leaf x u' c' v' hu' hc'
        refine ⟨⟨by omega, by omega, h2.2.2.1, h2.2.2.2.1, by rw [if_neg (by omega)]; exact h2.2.2.2.2⟩, ?_⟩
        rw [kinds_ins_other h.ok.srtE _ _ _ (.inr hne)]
        exact ((h3.alloc _).obj (turned_other hw1 h2.2.2.2.1)).obj (turned_other hw2 (by omega))
    · simp only [if_neg e] at hc'
      obtain ⟨h2, h3⟩ := h.leaf x u' c' v' hu' hc'
      refine ⟨⟨by omega, by omega, h2.2.2.1, h2.2.2.2.1, by rw [if_neg (by omega)]; exact h2.2.2.2.2⟩, ?_⟩
      rw [kinds_ins_other h.ok.srtE _ _ _ (.inl e)]
      refine ((h3.alloc _).obj (turned_other hw1 ?_)).obj (turned_other hw2 (by omega))
      rintro rfl
      exact e (h2.2.2.2.2.symm.trans i1.2.2.2)
  · by_cases e : x = a
    · subst e
      have e2 := h.same hu hu'
      subst e2
      simp only [if_true] at hc1 hc2
      rcases (mem_upd i3).1 hc1 with e3 | ⟨hc1, hne1⟩
      · rcases (mem_upd i3).1 hc2 with e4 | ⟨hc2, hne2⟩
        · simp only [Prod.mk.injEq] at e3 e4; rw [e3.1, e4.1]
        · have := (h.leaf x u' c2 v' hu' hc2).1; simp only [Prod.mk.injEq] at e3; omega
      · rcases (mem_upd i3).1 hc2 with e4 | ⟨hc2, hne2⟩
        · have := (h.leaf x u' c1 v' hu' hc1).1; simp only [Prod.mk.injEq] at e4; omega
        · exact h.inj x u' c1 c2 v' hu' hc1 hc2
    · simp only [if_neg e] at hc1 hc2
      exact h.inj x u' c1 c2 v' hu' hc1 hc2
  · refine ⟨h.ok.srtN, srt_insT h.ok.srtE, fun e he => ?_⟩
    rcases mem_insT.1 he with rfl | he
    · exact ⟨haN, hcN⟩
    · exact h.ok.sub e he
  · rcases mem_insT.1 he with rfl | he
    · exact hk
    · exact h.domE e he
end

/-! ### look-ups -/
theorem zeroG (w : World) : (zeroValue 136).run Try.prog w = .ok (.map none) w := by kernel_rfl
section
variable {w : World} {lo hi p b : Nat} {ow : Nat → Int} {M : List (Int × Nat)} {A : Int → List (Int × Nat)} {N : List Int} {E : List Tr}
theorem look_none3 {a : Int} (ha : dS a) : (Instr.lookup 135 (.map none) (nmV a) false).run Try.prog w = .ok (.map none) w :=
  Maps.look_nil false keyN.keyed Try.underlying135 (zeroG w) (keyN.of a ha)
theorem look_none2 {a : Int} (ha : dS a) : (Instr.lookup 136 (.map none) (nmV a) false).run Try.prog w = .ok (.map none) w :=
  Maps.look_nil false keyN.keyed Try.underlying136 (zeroM w) (keyN.of a ha)
theorem look3 {u n : Nat} {L : List (Int × Nat)} (h : IsMapK Try.prog 9 Rmap nmL (fun r : Nat => .lit (.int .i64 r)) w u n L) (hd : KDom dS L) {a : Int} (ha : dS a) : (Instr.lookup 135 (.map (some u)) (nmV a) false).run Try.prog w = .ok (.map (fnd a L)) w := by
  have := h.look keyN elem_map hd Try.underlying135 (zeroG w) ha
  rw [this]
  cases fnd a L <;> rfl
theorem look2 {u n : Nat} {L : List (Int × Nat)} (h : IsMapK Try.prog 9 Rmap nmL (fun r : Nat => .lit (.int .i64 r)) w u n L) (hd : KDom dS L) {a : Int} (ha : dS a) : (Instr.lookup 136 (.map (some u)) (nmV a) false).run Try.prog w = .ok (.map (fnd a L)) w := by
  have := h.look keyN elem_map hd Try.underlying136 (zeroM w) ha
  rw [this]
  cases fnd a L <;> rfl
theorem GrB.look (h : GrB w lo hi p b ow M A N E) {a : Int} (ha : dS a) {r : Option Nat} (hf : fnd a M = r) : (Instr.lookup 135 (.map (some b)) (nmV a) false).run Try.prog w = .ok (.map r) w := by
  rw [← hf]; exact look3 h.out h.domM ha
theorem GrB.lookA (h : GrB w lo hi p b ow M A N E) {a c : Int} {u : Nat} (hu : (a, u) ∈ M) (hc : dS c) {r : Option Nat} (hf : fnd c (A a) = r) : (Instr.lookup 136 (.map (some u)) (nmV c) false).run Try.prog w = .ok (.map r) w := by
  rw [← hf]; exact look2 (h.inn a u hu).2.1 (h.domA hu) hc
theorem GrB.lookK (h : GrB w lo hi p b ow M A N E) {a c k : Int} {u v : Nat} (hu : (a, u) ∈ M) (hv : (c, v) ∈ A a) (hk : dI k) : (Instr.lookup 110 (.map (some v)) (.int .i64 k) false).run Try.prog w = .ok (.bool (decide ((a, c, k) ∈ E))) w := by
  have := look_bool (h.leaf a u c v hu hv).2 (h.domK a c) hk
  rw [this]
  simp only [mem_kindsOf]
end
theorem gr_new (w : World) : Calls Try.prog 100 #[] w fun e w' => ∃ p, e = .returned (.pointer (some ⟨p, 0, none⟩)) ∧ GrAt w' w.heap.size w'.heap.size p [] [] ∧ Below w.heap.size w w' := by
  have hmm := @run_makeMap Try.prog
  go_enter Try.func100, Try.ntmps100
  go_wp2
  go_ret
  refine ⟨_, rfl, ⟨w.heap.size, fun _ => 0, [], fun _ => [], ?_⟩, ((Below.refl _ _).alloc (Nat.le_refl _) _).alloc (by simp) _⟩
  exact ⟨row_new' (by simp), by simp, by simp; omega, (IsMapK.made w).alloc _, List.Pairwise.nil, rfl, fun _ _ h => by simp at h, fun _ _ _ _ h => by simp at h, fun _ _ _ _ _ h => by simp at h, GrOk.nil, fun _ h => by simp at h, fun _ h => by simp at h⟩

section
variable {w : World} {lo hi p : Nat} {N : List Int} {E : List Tr}
theorem gr_node (h : GrAt w lo hi p N E) (hhi : hi ≤ w.heap.size) (hN : N.length ≤ 1000000) (a : Int) (ha : dS a) : Calls Try.prog 101 #[.pointer (some ⟨p, 0, none⟩), nmV a] w fun e w' =>
    e = .returned (.bool (decide (a ∉ N))) ∧ GrAt w' lo w'.heap.size p (insI a N) E ∧ Keep w w' ∧ Below lo w w' := by
  obtain ⟨b, ow, M, A, h⟩ := h
  have hp := row_cell h.ptr 0
  have hlo := h.hb
  have q : ∀ (w : World) (r : Option Nat), (binOp .neq 136 (.map r) (.map none)).run Try.prog w = .ok (.bool !r.isNone) w := fun w r => run_neq_map_nil w _ _ _ r Try.underlying136
  have hmm := @run_makeMap Try.prog
  cases hf : fnd a M with
  | some u =>
    have l1 := h.look ha hf
    have hin := h.inN (h.here hf)
    have E1 := hid (show decide (a ∉ N) = false by simpa using hin)
    have E2 := hid (insI_of_mem h.ok.srtN hin)
    have H := hid h
    clear h hf hin
    go_enter Try.func101, Try.ntmps101
    go_wp2
    go_ret
    exact ⟨by rw [E1.out]; rfl, by rw [E2.out]; exact ⟨b, ow, M, A, H.out.raise hhi⟩, Keep.refl _, Below.refl _ _⟩
  | none =>
    have l1 := h.look ha hf
    have hout := h.gone hf
    have E1 := hid (show decide (a ∉ N) = true by simpa using hout)
    have hM := h.lenM
    have hMl : M.length ≤ 1000000 := by omega
    have H := hid h
    have HF := hid hf
    clear h hf hout hM
    go_enter Try.func101, Try.ntmps101
    go_wp2_with (at_mapUpdate; refine Stop.halt ?_)
    refine Stop.go ?_
    refine (H.out.out.alloc (.map #[] 0)).wpList_store keyN elem_map H.out.domM H.out.srtM Try.underlying135 (v := w.heap.size) (by unfold maxLen; omega) ha rfl rfl (by rfl) (by rfl) (by rfl) ?_
    intro w1 h1 t1
    have H1 := hid h1.tight
    have T1 := hid t1
    have z1 := turned_size t1
    clear h1 t1
    go_wp2
    go_ret
    exact ⟨by rw [E1.out]; rfl, ⟨_, _, _, _, H.out.node_new hhi HF.out T1.out H1.out ha⟩, (Keep.alloc _ _).trans (Keep.turned T1.out), ((Below.refl _ _).alloc (by omega) _).trans (Below.turned T1.out (by omega))⟩

theorem gr_nodes (h : GrAt w lo hi p N E) (hN : N.length ≤ 1000000) : Calls Try.prog 74 #[.pointer (some ⟨p, 0, none⟩)] w fun e w' => ∃ v, e = .returned v ∧ OwnN w' w.heap.size v N ∧ Below w.heap.size w w' := by
  obtain ⟨b, ow, M, A, h⟩ := h
  have hp := row_cell h.ptr 0
  have hM := h.lenM
  have hMl : M.length ≤ 1000000 := by omega
  have H := hid h
  clear h hM
  go_enter Try.func74, Try.ntmps74
  go_wp2_with fail
  refine (keysNG (some b) _).mono ?_
  rintro e w1 ⟨rfl, rfl⟩
  go_wp2_with fail
  refine (sortedNG H.out.out H.out.srtM H.out.domM hMl).mono ?_
  rintro e w1 ⟨v, rfl, h1, h2⟩
  rw [H.out.keys] at h1
  have H1 := hid h1
  have H2 := hid h2
  clear h1 h2
  go_wp2
  go_ret
  exact ⟨v, rfl, H1.out.base (by omega), ((Below.refl _ _).alloc (Nat.le_refl _) _).trans (H2.out.mono (by omega))⟩

set_option maxHeartbeats 400000 in
theorem gr_edge (h : GrAt w lo hi p N E) (hhi : hi ≤ w.heap.size) (hN : N.length ≤ 900000) (hE : E.length ≤ 900000) (a c k : Int) (ha : dS a) (hc : dS c) (hk : dI k) : Calls Try.prog 102 #[.pointer (some ⟨p, 0, none⟩), nmV a, nmV c, .int .i64 k] w fun e w' =>
    e = .returned (.bool (decide ((a, c, k) ∉ E))) ∧ GrAt w' lo w'.heap.size p (insI c (insI a N)) (insT (a, c, k) E) ∧ Keep w w' ∧ Below lo w w' := by
  have hmm := @run_makeMap Try.prog
  have q : ∀ (w : World) (r : Option Nat), (binOp .eql 110 (.map r) (.map none)).run Try.prog w = .ok (.bool r.isNone) w := fun w r => run_eql_map_nil w _ _ _ r Try.underlying110
  go_enter Try.func102, Try.ntmps102
  go_wp2_with fail
  refine (gr_node h hhi (by omega) a ha).mono ?_
  rintro e w1 ⟨rfl, h1, k1, b1⟩
  have H1 := hid h1
  have K1 := hid k1
  have B1 := hid b1
  have hl1 := length_insI (n := a) (l := N)
  clear h h1 k1 b1
  go_wp2_with fail
  refine (gr_node H1.out (Nat.le_refl _) (by omega) c hc).mono ?_
  rintro e w2 ⟨rfl, h2, k2, b2⟩
  have hl2 := length_insI (n := c) (l := insI a N)
  have haN : a ∈ insI c (insI a N) := mem_insI.2 (.inr (mem_insI.2 (.inl rfl)))
  have hcN : c ∈ insI c (insI a N) := mem_insI.2 (.inl rfl)
  have K2 := hid (K1.out.trans k2)
  have B2 := hid (B1.out.trans b2)
  generalize hN2 : insI c (insI a N) = N2 at *
  have HN2 := hid hN2
  have HAN := hid haN
  have HCN := hid hcN
  clear k2 b2 H1 K1 B1 haN hcN hl1 hN2
  obtain ⟨b, ow, M, A, h2⟩ := h2
  have hp := row_cell h2.ptr 0
  obtain ⟨u, hf⟩ := h2.there HAN.out
  have l1 := h2.look ha hf
  have hu := h2.here hf
  have hbl := h2.hb
  have hpl := h2.hp
  have hul := (h2.inn a u hu).1
  cases hg : fnd c (A a) with
  | some v =>
    have hv := h2.hereA hu hg
    have l2 := h2.lookA hu hc hg
    have l3 := h2.lookK hu hv hk
    have hvl := (h2.leaf a u c v hu hv).1
    have hkl := length_kindsOf E a c
    have H := hid h2
    have HU := hid hu
    have HV := hid hv
    clear hf hg h2 hu hv
    go_wp2_with (at_mapUpdate; refine Stop.halt ?_)
    refine Stop.go ?_
    refine (H.out.leaf a u c v HU.out HV.out).2.wpList_store keyI elem_bool (units_dom (H.out.domK a c)) (units_srt (srt_kindsOf H.out.ok.srtE a c)) Try.underlying110 (v := ()) (by rw [units_length]; unfold maxLen; omega) hk rfl rfl (by rfl) (by rfl) (by rfl) ?_
    intro w3 h3 t3
    rw [units_upd] at h3
    have H3 := hid h3.tight
    have T3 := hid t3
    have z3 := turned_size t3
    clear h3 t3 l1 l2 l3
    go_wp2
    go_ret
    exact ⟨by simp, by rw [HN2.out]; exact ⟨_, _, _, _, (H.out.edge_old HU.out HV.out T3.out H3.out hk).raise (hi' := w3.heap.size) (by omega)⟩, K2.out.trans (Keep.turned T3.out), B2.out.trans (Below.turned T3.out (by omega))⟩
  | none =>
    have l2 := h2.lookA hu hc hg
    have hAl := h2.lenA hu
    have hE1 := hid (show decide ((a, c, k) ∈ E) = false by simpa using fun hm => h2.goneA hu hg (mem_row.2 (mem_prs.2 ⟨k, hm⟩)))
    have HE2 := hid (show decide ((a, c, k) ∉ E) = true by have := hE1.out; simpa using this)
    have H := hid h2
    have HU := hid hu
    have HG := hid hg
    have HF := hid hf
    clear hf hg h2 hu
    go_wp2_with (at_mapUpdate; refine Stop.halt ?_)
    refine Stop.go ?_
    refine ((H.out.inn a u HU.out).2.1.alloc (.map #[] 0)).wpList_store keyN elem_map (H.out.domA HU.out) (H.out.inn a u HU.out).2.2.1 Try.underlying136 (v := w2.heap.size) (by unfold maxLen; omega) hc rfl rfl (by rfl) (by rfl) (by rfl) ?_
    intro w3 h3 t3
    have z3 := turned_size t3
    rw [World.size_alloc] at z3
    have hp3 := row_cell ((turned_other t3 (mapo_ne H.out.ptr (H.out.inn a u HU.out).2.1)).trans (row_old (o := .map #[] 0) H.out.ptr)) 0
    have l31 := look3 ((H.out.out.alloc (.map #[] 0)).obj (turned_other t3 (by omega))) H.out.domM ha
    rw [HF.out] at l31
    have l32 := look2 h3 (KDom.upd (v := w2.heap.size) (H.out.domA HU.out) hc) hc
    rw [fnd_upd_same (H.out.inn a u HU.out).2.2.1] at l32
    have hi3 : MapB w3 w2.heap.size (units []) := ((IsMapK.made w2) : MapB _ _ (units [])).obj (turned_other t3 (by omega))
    have l33 := look_bool hi3 (by simp) hk
    have H3 := hid h3.tight
    have T3 := hid t3
    have HI := hid hi3
    clear h3 t3 hi3 l1 l2
    go_wp2_with (at_mapUpdate; refine Stop.halt ?_)
    refine Stop.go ?_
    refine HI.out.wpList_store keyI elem_bool (by simp [units, KDom]) List.Pairwise.nil Try.underlying110 (v := ()) (by simp [units, maxLen]) hk rfl rfl (by rfl) (by rfl) (by rfl) ?_
    intro w4 h4 t4
    have H4 := hid h4.tight
    have T4 := hid t4
    clear h4 t4 l31 l32 l33
    go_wp2
    go_ret
    refine ⟨by rw [HE2.out]; rfl, by rw [HN2.out]; exact ⟨_, _, _, _, H.out.edge_new (Nat.le_refl _) HU.out HCN.out HG.out T3.out T4.out H3.out H4.out hk⟩, K2.out.trans ((Keep.alloc _ _).trans ((Keep.turned T3.out).trans (Keep.turned T4.out))), ?_⟩
    exact B2.out.trans (((Below.refl _ _).alloc (by omega) _).trans ((Below.turned T3.out (by omega)).trans (Below.turned T4.out (by omega))))
end
end Go.Proofs.Ytlmeblhcipkgmaa.Gx
