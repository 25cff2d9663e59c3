/- A graph in memory: what it is, and what a store makes of it. Conditions: those of each theorem, as typed. -/
import Derived.Test.YtlmeblhcipkgmaaRelG
import Derived.Test.YtlmeblhcipkgmaaGrM
namespace Go.Proofs.Ytlmeblhcipkgmaa
open Go.RowKit Go.Maps

structure GrB (w : World) (lo hi p b : Nat) (ow : Nat → Int) (M : List (Int × Nat)) (A : Int → List (Int × Nat)) (N : List Int) (E : List Tr) : Prop where
  ptr : w.heap[p]? = some (.cells #[.map (some b)] 120 (0, 0))
  hp : lo ≤ p ∧ p < hi
  hb : lo ≤ b ∧ b < hi
  out : MapO w b M
  srtM : KSrt M
  keys : M.map (·.1) = N
  inn : ∀ a u, (a, u) ∈ M → (lo ≤ u ∧ u < hi ∧ u ≠ b ∧ ow u = a) ∧ MapO w u (A a) ∧ KSrt (A a) ∧ (A a).map (·.1) = row (prs E) a
  leaf : ∀ a u c v, (a, u) ∈ M → (c, v) ∈ A a → (lo ≤ v ∧ v < hi ∧ v ≠ b ∧ v ≠ u ∧ ow v = a) ∧ MapB w v (units (kindsOf E a c))
  inj : ∀ a u c c' v, (a, u) ∈ M → (c, v) ∈ A a → (c', v) ∈ A a → c = c'
  ok : GrOk N E
  domN : ∀ a ∈ N, dI a
  domE : ∀ e ∈ E, dI e.2.2
def GrAt (w : World) (lo hi p : Nat) (N : List Int) (E : List Tr) : Prop := ∃ b ow M A, GrB w lo hi p b ow M A N E

section
variable {w w' : World} {lo hi p b : Nat} {ow : Nat → Int} {M : List (Int × Nat)} {A : Int → List (Int × Nat)} {N : List Int} {E : List Tr}
theorem GrB.below {K : Nat} (h : GrB w lo hi p b ow M A N E) (hb : Below K w w') (hK : hi ≤ K) : GrB w' lo hi p b ow M A N E :=
  { h with
    ptr := row_below h.ptr hb (by have := h.hp; omega)
    out := h.out.below hb (by have := h.hb; omega)
    inn := fun a u hu => let ⟨h1, h2, h3⟩ := h.inn a u hu; ⟨h1, h2.below hb (by omega), h3⟩
    leaf := fun a u c v hu hv => let ⟨h1, h2⟩ := h.leaf a u c v hu hv; ⟨h1, h2.below hb (by omega)⟩ }
theorem GrAt.below {K : Nat} (h : GrAt w lo hi p N E) (hb : Below K w w') (hK : hi ≤ K) : GrAt w' lo hi p N E := let ⟨b, ow, M, A, h⟩ := h; ⟨b, ow, M, A, h.below hb hK⟩
theorem GrB.raise {hi' : Nat} (h : GrB w lo hi p b ow M A N E) (hh : hi ≤ hi') : GrB w lo hi' p b ow M A N E :=
  { h with
    hp := ⟨h.hp.1, Nat.lt_of_lt_of_le h.hp.2 hh⟩
    hb := ⟨h.hb.1, Nat.lt_of_lt_of_le h.hb.2 hh⟩
    inn := fun a u hu => let ⟨h1, h2⟩ := h.inn a u hu; ⟨⟨h1.1, Nat.lt_of_lt_of_le h1.2.1 hh, h1.2.2⟩, h2⟩
    leaf := fun a u c v hu hv => let ⟨h1, h2⟩ := h.leaf a u c v hu hv; ⟨⟨h1.1, Nat.lt_of_lt_of_le h1.2.1 hh, h1.2.2⟩, h2⟩ }
theorem GrAt.raise {hi' : Nat} (h : GrAt w lo hi p N E) (hh : hi ≤ hi') : GrAt w lo hi' p N E := let ⟨b, ow, M, A, h⟩ := h; ⟨b, ow, M, A, h.raise hh⟩
theorem GrB.lower {lo' : Nat} (h : GrB w lo hi p b ow M A N E) (hh : lo' ≤ lo) : GrB w lo' hi p b ow M A N E :=
  { h with
    hp := ⟨Nat.le_trans hh h.hp.1, h.hp.2⟩
    hb := ⟨Nat.le_trans hh h.hb.1, h.hb.2⟩
    inn := fun a u hu => let ⟨h1, h2⟩ := h.inn a u hu; ⟨⟨Nat.le_trans hh h1.1, h1.2⟩, h2⟩
    leaf := fun a u c v hu hv => let ⟨h1, h2⟩ := h.leaf a u c v hu hv; ⟨⟨Nat.le_trans hh h1.1, h1.2⟩, h2⟩ }
theorem GrAt.lower {lo' : Nat} (h : GrAt w lo hi p N E) (hh : lo' ≤ lo) : GrAt w lo' hi p N E := let ⟨b, ow, M, A, h⟩ := h; ⟨b, ow, M, A, h.lower hh⟩
theorem GrAt.ok (h : GrAt w lo hi p N E) : GrOk N E := let ⟨_, _, _, _, h⟩ := h; h.ok
theorem GrAt.domN (h : GrAt w lo hi p N E) : ∀ a ∈ N, dI a := let ⟨_, _, _, _, h⟩ := h; h.domN
theorem GrAt.domE (h : GrAt w lo hi p N E) : ∀ e ∈ E, dI e.2.2 := let ⟨_, _, _, _, h⟩ := h; h.domE
theorem GrAt.lt (h : GrAt w lo hi p N E) : lo ≤ p ∧ p < hi := let ⟨_, _, _, _, h⟩ := h; h.hp
theorem GrB.domM (h : GrB w lo hi p b ow M A N E) : KDom dI M := fun q hq => h.domN _ (by rw [← h.keys]; exact List.mem_map.2 ⟨q, hq, rfl⟩)
theorem GrB.inN (h : GrB w lo hi p b ow M A N E) {a : Int} {u : Nat} (hu : (a, u) ∈ M) : a ∈ N := by rw [← h.keys]; exact List.mem_map.2 ⟨_, hu, rfl⟩
theorem GrB.domR (h : GrB w lo hi p b ow M A N E) (a : Int) : ∀ c ∈ row (prs E) a, dI c := fun _ hc => h.domN _ (h.ok.pair (mem_row.1 hc)).2
theorem GrB.domA (h : GrB w lo hi p b ow M A N E) {a : Int} {u : Nat} (hu : (a, u) ∈ M) : KDom dI (A a) := fun q hq => by
  refine h.domR a q.1 ?_
  rw [← (h.inn a u hu).2.2.2]
  exact List.mem_map.2 ⟨q, hq, rfl⟩
theorem GrB.domK (h : GrB w lo hi p b ow M A N E) (a c : Int) : ∀ k ∈ kindsOf E a c, dI k := fun _ hk => h.domE _ (mem_kindsOf.1 hk)
theorem GrB.here (h : GrB w lo hi p b ow M A N E) {a : Int} {u : Nat} (hf : fnd a M = some u) : (a, u) ∈ M := (fnd_some h.srtM).1 hf
theorem GrB.hereA (h : GrB w lo hi p b ow M A N E) {a c : Int} {u v : Nat} (hu : (a, u) ∈ M) (hf : fnd c (A a) = some v) : (c, v) ∈ A a := (fnd_some (h.inn a u hu).2.2.1).1 hf
theorem GrB.gone (h : GrB w lo hi p b ow M A N E) {a : Int} (hf : fnd a M = none) : a ∉ N := fun ha => by
  rw [← h.keys] at ha
  obtain ⟨q, hq, rfl⟩ := List.mem_map.1 ha
  exact (fnd_none.1 hf) q.2 hq
theorem GrB.gone_row (h : GrB w lo hi p b ow M A N E) {a : Int} (hf : fnd a M = none) : row (prs E) a = [] := by
  rw [List.eq_nil_iff_forall_not_mem]
  exact fun c hc => h.gone hf (h.ok.pair (mem_row.1 hc)).1
theorem GrB.goneA (h : GrB w lo hi p b ow M A N E) {a c : Int} {u : Nat} (hu : (a, u) ∈ M) (hf : fnd c (A a) = none) : c ∉ row (prs E) a := fun hc => by
  rw [← (h.inn a u hu).2.2.2] at hc
  obtain ⟨q, hq, rfl⟩ := List.mem_map.1 hc
  exact (fnd_none.1 hf) q.2 hq
theorem GrB.there (h : GrB w lo hi p b ow M A N E) {a : Int} (ha : a ∈ N) : ∃ u, fnd a M = some u := by
  cases hf : fnd a M with
  | some u => exact ⟨u, rfl⟩
  | none => exact absurd ha (h.gone hf)
theorem GrB.lenM (h : GrB w lo hi p b ow M A N E) : M.length = N.length := by have := congrArg List.length h.keys; simpa using this
theorem GrB.lenA (h : GrB w lo hi p b ow M A N E) {a : Int} {u : Nat} (hu : (a, u) ∈ M) : (A a).length ≤ E.length := by
  have h1 := congrArg List.length (h.inn a u hu).2.2.2
  rw [List.length_map] at h1
  have h2 := length_row (prs E) a
  have h3 := length_prs E
  omega
theorem mapo_ne {q : Nat} {cs : Array Value} {t : TypeId} {fz : Nat × Nat} {P : Program} {K : TypeId} {R : RdU} {kl : Int → Lit} {ε : Type} {ed : ε → DU} {n : Nat} {L : List (Int × ε)} (hp : w.heap[p]? = some (.cells cs t fz)) (h : IsMapK P K R kl ed w q n L) : p ≠ q := by
  rintro rfl
  obtain ⟨es, c, hb, _⟩ := h
  rw [hp] at hb
  cases hb
theorem GrB.same (h : GrB w lo hi p b ow M A N E) {a : Int} {u u' : Nat} (hu : (a, u) ∈ M) (hu' : (a, u') ∈ M) : u' = u := Option.some.inj (((fnd_some h.srtM).2 hu').symm.trans ((fnd_some h.srtM).2 hu))
theorem GrB.grow (h : GrB w lo hi p b ow M A N E) {row : Option Nat} (G : w.grownBy w' row) (hv : ∀ k, row = some k → k ≠ p ∧ ∃ o, w.heap[k]? = some o ∧ ∀ es c, o ≠ .map es c) : GrB w' lo hi p b ow M A N E := by
  have key : ∀ {i : Nat} {es : Array MapEntry} {c : Nat}, w.heap[i]? = some (.map es c) → w'.heap[i]? = w.heap[i]? := fun {i es c} hi => G.block i (row_lt hi) fun e => by
    obtain ⟨-, o, h2, h3⟩ := hv i e.symm
    rw [hi] at h2
    exact h3 _ _ (Option.some.inj h2).symm
  obtain ⟨es, c, ho, -⟩ := id h.out
  exact { h with
    ptr := (G.block p (row_lt h.ptr) fun e => (hv p e.symm).1 rfl).trans h.ptr
    out := h.out.obj (key ho)
    inn := fun a u hu => by
      obtain ⟨h1, h2, h3⟩ := h.inn a u hu
      obtain ⟨es, c, hi, -⟩ := id h2
      exact ⟨h1, h2.obj (key hi), h3⟩
    leaf := fun a u c v hu hc => by
      obtain ⟨h1, h2⟩ := h.leaf a u c v hu hc
      obtain ⟨es, c, hi, -⟩ := id h2
      exact ⟨h1, h2.obj (key hi)⟩ }
theorem GrAt.grow (h : GrAt w lo hi p N E) {row : Option Nat} (G : w.grownBy w' row) (hv : ∀ k, row = some k → k ≠ p ∧ ∃ o, w.heap[k]? = some o ∧ ∀ es c, o ≠ .map es c) : GrAt w' lo hi p N E := let ⟨b, ow, M, A, h⟩ := h; ⟨b, ow, M, A, h.grow G hv⟩

/-- One node more. -/
theorem GrB.node_new (h : GrB w lo hi p b ow M A N E) (hhi : hi ≤ w.heap.size) {a : Int} (hf : fnd a M = none) (hw : (w.alloc (.map #[] 0)).mapTurned w' b) (ho : MapO w' b (upd a w.heap.size M)) (ha : dI a) :
    GrB w' lo w'.heap.size p b (fun v => if v = w.heap.size then a else ow v) (upd a w.heap.size M) (fun x => if x = a then [] else A x) (insI a N) E := by
  have hz := turned_size hw
  rw [World.size_alloc] at hz
  have hpb := h.hp
  have hbb := h.hb
  have hna := h.gone hf
  have hrow := h.gone_row hf
  have old : ∀ {i : Nat}, i < w.heap.size → i ≠ b → w'.heap[i]? = (w.alloc (.map #[] 0)).heap[i]? := fun _ hi => turned_other hw hi
  have hm : MapO w' w.heap.size [] := ((IsMapK.made w) : MapO _ _ []).obj (turned_other hw (by omega))
  refine ⟨?_, by omega, by omega, ho, srt_upd h.srtM, ?_, fun x u hu => ?_, fun x u c v hu hc => ?_, fun x u c c' v hu hc hc' => ?_, h.ok.node a, fun x hx => ?_, h.domE⟩
  · rw [turned_other hw (mapo_ne h.ptr h.out)]
    exact row_old h.ptr
  · rw [upd_keys, h.keys]
  · rcases (mem_upd h.srtM).1 hu with e | ⟨hu, hne⟩
    · simp only [Prod.mk.injEq] at e
      obtain ⟨rfl, rfl⟩ := e
      refine ⟨by simp; omega, ?_⟩
      simp only [if_true]
      exact ⟨hm, List.Pairwise.nil, by rw [hrow]; rfl⟩
    · obtain ⟨h1, h2, h3⟩ := h.inn x u hu
      refine ⟨⟨by omega, by omega, h1.2.2.1, by rw [if_neg (by omega)]; exact h1.2.2.2⟩, ?_⟩
      simp only [if_neg (show ¬ x = a from hne)]
      exact ⟨(h2.alloc _).obj (turned_other hw h1.2.2.1), h3⟩
  · rcases (mem_upd h.srtM).1 hu with e | ⟨hu, hne⟩
    · simp only [Prod.mk.injEq] at e
      obtain ⟨rfl, rfl⟩ := e
      simp at hc
    · simp only [if_neg (show ¬ x = a from hne)] at hc
      obtain ⟨h1, h2⟩ := h.leaf x u c v hu hc
      exact ⟨⟨by omega, by omega, h1.2.2.1, h1.2.2.2.1, by rw [if_neg (by omega)]; exact h1.2.2.2.2⟩, (h2.alloc _).obj (turned_other hw h1.2.2.1)⟩
  · rcases (mem_upd h.srtM).1 hu with e | ⟨hu, hne⟩
    · simp only [Prod.mk.injEq] at e
      obtain ⟨rfl, rfl⟩ := e
      simp at hc
    · simp only [if_neg (show ¬ x = a from hne)] at hc hc'
      exact h.inj x u c c' v hu hc hc'
  · rcases mem_insI.1 hx with rfl | hx
    · exact ha
    · exact h.domN x hx

/-- One kind more, at nodes that are joined already. -/
theorem GrB.edge_old (h : GrB w lo hi p b ow M A N E) {a c k : Int} {u v : Nat} (hu : (a, u) ∈ M) (hv : (c, v) ∈ A a) (hw : w.mapTurned w' v) (hm : MapB w' v (units (insI k (kindsOf E a c)))) (hk : dI k) :
    GrB w' lo hi p b ow M A N (insT (a, c, k) E) := by
  have h1 := (h.leaf a u c v hu hv).1
  have hc : c ∈ row (prs E) a := by rw [← (h.inn a u hu).2.2.2]; exact List.mem_map.2 ⟨_, hv, rfl⟩
  have hac := h.ok.pair (mem_row.1 hc)
  refine ⟨?_, h.hp, h.hb, h.out.obj (turned_other hw h1.2.2.1.symm), h.srtM, h.keys, fun x u' hu' => ?_, fun x u' c' v' hu' hc' => ?_, h.inj, ?_, h.domN, fun e he => ?_⟩
  · rw [turned_other hw (mapo_ne h.ptr (h.leaf a u c v hu hv).2)]
    exact h.ptr
  · obtain ⟨h2, h3, h4, h5⟩ := h.inn x u' hu'
    refine ⟨h2, h3.obj (turned_other hw ?_), h4, ?_⟩
    · rintro rfl
      have e1 : x = a := h2.2.2.2.symm.trans h1.2.2.2.2
      subst e1
      exact h1.2.2.2.1 (h.same hu hu')
    · by_cases e : x = a
      · subst e
        rw [row_prs_same, insI_of_mem (srt_row (srt_prs E) x) hc]
        exact h5
      · rw [row_prs_other E a c k e]
        exact h5
  · obtain ⟨h2, h3⟩ := h.leaf x u' c' v' hu' hc'
    refine ⟨h2, ?_⟩
    by_cases e : v' = v
    · subst e
      have e1 : x = a := h2.2.2.2.2.symm.trans h1.2.2.2.2
      subst e1
      have e2 : c' = c := h.inj x u' c' c v' hu' hc' hv
      subst e2
      rw [kinds_ins_same h.ok.srtE]
      exact hm
    · rw [kinds_ins_other h.ok.srtE]
      · exact h3.obj (turned_other hw e)
      · by_cases e1 : x = a
        · subst e1
          refine .inr fun e2 => e ?_
          subst e2
          exact Option.some.inj (((fnd_some (h.inn x u' hu').2.2.1).2 hc').symm.trans ((fnd_some (h.inn x u' hu').2.2.1).2 hv))
        · exact .inl e1
  · refine ⟨h.ok.srtN, srt_insT h.ok.srtE, fun e he => ?_⟩
    rcases mem_insT.1 he with rfl | he
    · exact hac
    · exact h.ok.sub e he
  · rcases mem_insT.1 he with rfl | he
    · exact hk
    · exact h.domE e he

/-- One kind more, at nodes that are not joined yet. -/
theorem GrB.edge_new (h : GrB w lo hi p b ow M A N E) (hhi : hi ≤ w.heap.size) {a c k : Int} {u : Nat} (hu : (a, u) ∈ M) (hcN : c ∈ N) (hf : fnd c (A a) = Option.none) {w1 w2 : World} (hw1 : (w.alloc (.map #[] 0)).mapTurned w1 u) (hw2 : w1.mapTurned w2 w.heap.size)
    (ho : MapO w1 u (upd c w.heap.size (A a))) (hm : MapB w2 w.heap.size (units [k])) (hk : dI k) :
    GrB w2 lo w2.heap.size p b (fun v => if v = w.heap.size then a else ow v) M (fun x => if x = a then upd c w.heap.size (A a) else A x) N (insT (a, c, k) E) := by
  have hz1 := turned_size hw1
  have hz2 := turned_size hw2
  rw [World.size_alloc] at hz1
  have hpb := h.hp
  have hbb := h.hb
  have haN := h.inN hu
  have hnc := h.goneA hu hf
  obtain ⟨i1, i2, i3, i4⟩ := h.inn a u hu
  refine ⟨?_, by omega, by omega, ?_, h.srtM, h.keys, fun x u' hu' => ?_, fun x u' c' v' hu' hc' => ?_, fun x u' c1 c2 v' hu' hc1 hc2 => ?_, ?_, h.domN, fun e he => ?_⟩
  · rw [turned_other hw2 (by omega), turned_other hw1 (mapo_ne h.ptr i2)]
    exact row_old h.ptr
  · exact ((h.out.alloc _).obj (turned_other hw1 i1.2.2.1.symm)).obj (turned_other hw2 (by omega))
  · obtain ⟨h2, h3, h4, h5⟩ := h.inn x u' hu'
    refine ⟨⟨by omega, by omega, h2.2.2.1, by rw [if_neg (by omega)]; exact h2.2.2.2⟩, ?_⟩
    by_cases e : x = a
    · subst e
      have e2 := h.same hu hu'
      subst e2
      simp only [if_true]
      refine ⟨ho.obj (turned_other hw2 (by omega)), srt_upd i3, ?_⟩
      rw [upd_keys, i4, row_prs_same]
    · simp only [if_neg e]
      refine ⟨((h3.alloc _).obj (turned_other hw1 ?_)).obj (turned_other hw2 (by omega)), h4, by rw [row_prs_other E a c k e]; exact h5⟩
      rintro rfl
      exact e (h2.2.2.2.symm.trans i1.2.2.2)
  · by_cases e : x = a
    · subst e
      have e2 := h.same hu hu'
      subst e2
      simp only [if_true] at hc'
      rcases (mem_upd i3).1 hc' with e3 | ⟨hc', hne⟩
      · simp only [Prod.mk.injEq] at e3
        obtain ⟨rfl, rfl⟩ := e3
        refine ⟨⟨by omega, by omega, by omega, by omega, by simp⟩, ?_⟩
        rw [kinds_ins_same h.ok.srtE, kinds_nil hnc]
        exact hm
      · obtain ⟨h2, h3⟩ := h.leaf x u' c' v' hu' hc'
        refine ⟨⟨by omega, by omega, h2.2.2.1, h2.2.2.2.1, by rw [if_neg (by omega)]; exact h2.2.2.2.2⟩, ?_⟩
        rw [kinds_ins_other h.ok.srtE _ _ _ (.inr hne)]
        exact ((h3.alloc _).obj (turned_other hw1 h2.2.2.2.1)).obj (turned_other hw2 (by omega))
    · simp only [if_neg e] at hc'
      obtain ⟨h2, h3⟩ := h.leaf x u' c' v' hu' hc'
      refine ⟨⟨by omega, by omega, h2.2.2.1, h2.2.2.2.1, by rw [if_neg (by omega)]; exact h2.2.2.2.2⟩, ?_⟩
      rw [kinds_ins_other h.ok.srtE _ _ _ (.inl e)]
      refine ((h3.alloc _).obj (turned_other hw1 ?_)).obj (turned_other hw2 (by omega))
      rintro rfl
      exact e (h2.2.2.2.2.symm.trans i1.2.2.2)
  · by_cases e : x = a
    · subst e
      have e2 := h.same hu hu'
      subst e2
      simp only [if_true] at hc1 hc2
      rcases (mem_upd i3).1 hc1 with e3 | ⟨hc1, hne1⟩
      · rcases (mem_upd i3).1 hc2 with e4 | ⟨hc2, hne2⟩
        · simp only [Prod.mk.injEq] at e3 e4; rw [e3.1, e4.1]
        · have := (h.leaf x u' c2 v' hu' hc2).1; simp only [Prod.mk.injEq] at e3; omega
      · rcases (mem_upd i3).1 hc2 with e4 | ⟨hc2, hne2⟩
        · have := (h.leaf x u' c1 v' hu' hc1).1; simp only [Prod.mk.injEq] at e4; omega
        · exact h.inj x u' c1 c2 v' hu' hc1 hc2
    · simp only [if_neg e] at hc1 hc2
      exact h.inj x u' c1 c2 v' hu' hc1 hc2
  · refine ⟨h.ok.srtN, srt_insT h.ok.srtE, fun e he => ?_⟩
    rcases mem_insT.1 he with rfl | he
    · exact ⟨haN, hcN⟩
    · exact h.ok.sub e he
  · rcases mem_insT.1 he with rfl | he
    · exact hk
    · exact h.domE e he
end

/-! ### look-ups -/
theorem zeroG (w : World) : (zeroValue 98).run Try.prog w = .ok (.map none) w := by kernel_rfl
section
variable {w : World} {lo hi p b : Nat} {ow : Nat → Int} {M : List (Int × Nat)} {A : Int → List (Int × Nat)} {N : List Int} {E : List Tr}
theorem look_none3 {a : Int} (ha : dI a) : (Instr.lookup 118 (.map none) (.int .i64 a) false).run Try.prog w = .ok (.map none) w :=
  Maps.look_nil false keyI.keyed Try.underlying118 (zeroG w) (keyI.of a ha)
theorem look_none2 {a : Int} (ha : dI a) : (Instr.lookup 98 (.map none) (.int .i64 a) false).run Try.prog w = .ok (.map none) w :=
  Maps.look_nil false keyI.keyed Try.underlying98 (zeroM w) (keyI.of a ha)
theorem look3 {u n : Nat} {L : List (Int × Nat)} (h : IsMapK Try.prog 3 Rmap (.int .i64) (fun r : Nat => .lit (.int .i64 r)) w u n L) (hd : KDom dI L) {a : Int} (ha : dI a) : (Instr.lookup 118 (.map (some u)) (.int .i64 a) false).run Try.prog w = .ok (.map (fnd a L)) w := by
  have := h.look keyI elem_map hd Try.underlying118 (zeroG w) ha
  rw [this]
  cases fnd a L <;> rfl
theorem look2 {u n : Nat} {L : List (Int × Nat)} (h : IsMapK Try.prog 3 Rmap (.int .i64) (fun r : Nat => .lit (.int .i64 r)) w u n L) (hd : KDom dI L) {a : Int} (ha : dI a) : (Instr.lookup 98 (.map (some u)) (.int .i64 a) false).run Try.prog w = .ok (.map (fnd a L)) w := by
  have := h.look keyI elem_map hd Try.underlying98 (zeroM w) ha
  rw [this]
  cases fnd a L <;> rfl
theorem GrB.look (h : GrB w lo hi p b ow M A N E) {a : Int} (ha : dI a) {r : Option Nat} (hf : fnd a M = r) : (Instr.lookup 118 (.map (some b)) (.int .i64 a) false).run Try.prog w = .ok (.map r) w := by
  rw [← hf]; exact look3 h.out h.domM ha
theorem GrB.lookA (h : GrB w lo hi p b ow M A N E) {a c : Int} {u : Nat} (hu : (a, u) ∈ M) (hc : dI c) {r : Option Nat} (hf : fnd c (A a) = r) : (Instr.lookup 98 (.map (some u)) (.int .i64 c) false).run Try.prog w = .ok (.map r) w := by
  rw [← hf]; exact look2 (h.inn a u hu).2.1 (h.domA hu) hc
theorem GrB.lookK (h : GrB w lo hi p b ow M A N E) {a c k : Int} {u v : Nat} (hu : (a, u) ∈ M) (hv : (c, v) ∈ A a) (hk : dI k) : (Instr.lookup 110 (.map (some v)) (.int .i64 k) false).run Try.prog w = .ok (.bool (decide ((a, c, k) ∈ E))) w := by
  have := look_bool (h.leaf a u c v hu hv).2 (h.domK a c) hk
  rw [this]
  simp only [mem_kindsOf]
end
end Go.Proofs.Ytlmeblhcipkgmaa
