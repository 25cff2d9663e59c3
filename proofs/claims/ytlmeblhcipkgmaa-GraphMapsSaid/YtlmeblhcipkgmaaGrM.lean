/- Graphs: nodes, and edges with kinds. Plain lists and numbers. Conditions: those of each theorem, as typed. -/
import Derived.Test.YtlmeblhcipkgmaaRelQ
import Derived.Test.YtlmeblhcipkgmaaRefM
namespace Go.Proofs.Ytlmeblhcipkgmaa

abbrev Tr := Int × Int × Int
def tlt (x y : Tr) : Prop := x.1 < y.1 ∨ (x.1 = y.1 ∧ (x.2.1 < y.2.1 ∨ (x.2.1 = y.2.1 ∧ x.2.2 < y.2.2)))
instance (x y : Tr) : Decidable (tlt x y) := inferInstanceAs (Decidable (_ ∨ _))
def SrtT (l : List Tr) : Prop := l.Pairwise tlt
theorem tlt_irrefl (x : Tr) : ¬ tlt x x := by unfold tlt; omega
theorem tlt_trans {x y z : Tr} (h : tlt x y) (k : tlt y z) : tlt x z := by unfold tlt at *; omega
theorem tlt_total {x y : Tr} (h : x ≠ y) : tlt x y ∨ tlt y x := by
  unfold tlt
  have : x.1 ≠ y.1 ∨ x.2.1 ≠ y.2.1 ∨ x.2.2 ≠ y.2.2 := by
    refine Classical.byContradiction fun hn => h ?_
    obtain ⟨x1, x2, x3⟩ := x
    obtain ⟨y1, y2, y3⟩ := y
    simp only [not_or, Decidable.not_not] at hn
    obtain ⟨rfl, rfl, rfl⟩ := hn
    rfl
  omega
theorem SrtT.ext {l l' : List Tr} (h1 : SrtT l) (h2 : SrtT l') (h : ∀ x, x ∈ l ↔ x ∈ l') : l = l' := rise_ext tlt_irrefl tlt_trans h1 h2 h
def insT (p : Tr) : List Tr → List Tr
  | [] => [p]
  | y :: r => if y = p then y :: r else if tlt p y then p :: y :: r else y :: insT p r
theorem mem_insT {p x : Tr} : ∀ {l : List Tr}, x ∈ insT p l ↔ x = p ∨ x ∈ l
  | [] => by simp [insT]
  | y :: r => by
    unfold insT
    split
    · rename_i h; subst h; simp
    · split
      · simp
      · simp only [List.mem_cons, mem_insT (l := r)]
        constructor
        · rintro (h | h | h) <;> simp [h]
        · rintro (h | h | h) <;> simp [h]
theorem srt_insT {p : Tr} : ∀ {l : List Tr}, SrtT l → SrtT (insT p l)
  | [], _ => by simp [insT, SrtT]
  | y :: r, h => by
    obtain ⟨h1, h2⟩ := List.pairwise_cons.1 h
    unfold insT
    split
    · exact h
    · rename_i hne
      split
      · rename_i h3
        refine List.pairwise_cons.2 ⟨fun z hz => ?_, h⟩
        rcases List.mem_cons.1 hz with rfl | hz
        · exact h3
        · exact tlt_trans h3 (h1 z hz)
      · rename_i h3
        refine List.pairwise_cons.2 ⟨fun z hz => ?_, srt_insT h2⟩
        rcases mem_insT.1 hz with rfl | hz
        · rcases tlt_total hne with h | h
          · exact h
          · exact absurd h h3
        · exact h1 z hz
theorem insT_of_mem {p : Tr} {l : List Tr} (h : SrtT l) (hm : p ∈ l) : insT p l = l := (srt_insT h).ext h fun x => by rw [mem_insT]; constructor; (rintro (rfl | h) <;> assumption); exact .inr
theorem length_insT {p : Tr} : ∀ {l : List Tr}, (insT p l).length ≤ l.length + 1
  | [] => by simp [insT]
  | y :: r => by
    unfold insT
    have := length_insT (p := p) (l := r)
    split
    · simp
    · split <;> simp <;> omega
theorem length_insT_new {p : Tr} : ∀ {l : List Tr}, p ∉ l → (insT p l).length = l.length + 1
  | [], _ => by simp [insT]
  | y :: r, h => by
    simp only [List.mem_cons, not_or] at h
    unfold insT
    rw [if_neg (fun e => h.1 e.symm)]
    have := length_insT_new h.2
    split <;> simp <;> omega


/-! ### pairs that are joined; kinds -/
def prs (E : List Tr) : List Pr := putAll (E.map fun e => (e.1, e.2.1))
theorem mem_prs {E : List Tr} {a b : Int} : (a, b) ∈ prs E ↔ ∃ k, (a, b, k) ∈ E := by
  unfold prs
  rw [mem_putAll, List.mem_map]
  constructor
  · rintro ⟨⟨x, y, k⟩, h, e⟩
    simp only [Prod.mk.injEq] at e
    obtain ⟨rfl, rfl⟩ := e
    exact ⟨k, h⟩
  · rintro ⟨k, h⟩
    exact ⟨_, h, rfl⟩
theorem srt_prs (E : List Tr) : Srt (prs E) := srt_putAll _
theorem length_prs (E : List Tr) : (prs E).length ≤ E.length := by
  have := length_putAll (E.map fun e => (e.1, e.2.1))
  simpa [prs] using this
theorem prs_ins (a b k : Int) (E : List Tr) : prs (insT (a, b, k) E) = insP (a, b) (prs E) :=
  (srt_prs _).ext (srt_insP (srt_prs _)) fun ⟨x, y⟩ => by
    rw [mem_prs, mem_insP, mem_prs]
    constructor
    · rintro ⟨q, hq⟩
      rcases mem_insT.1 hq with e | hq
      · simp only [Prod.mk.injEq] at e; exact .inl (by rw [e.1, e.2.1])
      · exact .inr ⟨q, hq⟩
    · rintro (e | ⟨q, hq⟩)
      · simp only [Prod.mk.injEq] at e; exact ⟨k, mem_insT.2 (.inl (by rw [e.1, e.2]))⟩
      · exact ⟨q, mem_insT.2 (.inr hq)⟩
def kindsOf (E : List Tr) (a b : Int) : List Int := (E.filter fun e => e.1 == a && e.2.1 == b).map (·.2.2)
theorem mem_kindsOf {E : List Tr} {a b k : Int} : k ∈ kindsOf E a b ↔ (a, b, k) ∈ E := by
  unfold kindsOf
  simp only [List.mem_map, List.mem_filter, Bool.and_eq_true, beq_iff_eq]
  constructor
  · rintro ⟨⟨x, y, q⟩, ⟨h, rfl, rfl⟩, rfl⟩; exact h
  · exact fun h => ⟨(a, b, k), ⟨h, rfl, rfl⟩, rfl⟩
theorem srt_kindsOf {E : List Tr} (h : SrtT E) (a b : Int) : SrtI (kindsOf E a b) := by
  unfold kindsOf SrtI
  rw [List.pairwise_map]
  refine List.Pairwise.imp_of_mem ?_ (h.filter _)
  intro x y hx hy hp
  have h1 := (List.mem_filter.1 hx).2
  have h2 := (List.mem_filter.1 hy).2
  simp only [Bool.and_eq_true, beq_iff_eq] at h1 h2
  unfold tlt at hp
  omega
theorem length_kindsOf (E : List Tr) (a b : Int) : (kindsOf E a b).length ≤ E.length := by
  unfold kindsOf
  rw [List.length_map]
  exact List.length_filter_le _ _
theorem kinds_ins_same {E : List Tr} (h : SrtT E) (a b k : Int) : kindsOf (insT (a, b, k) E) a b = insI k (kindsOf E a b) :=
  (srt_kindsOf (srt_insT h) a b).ext (srt_insI (srt_kindsOf h a b)) fun x => by
    rw [mem_kindsOf, mem_insT, mem_insI, mem_kindsOf]
    simp
theorem kinds_ins_other {E : List Tr} (h : SrtT E) (a b k : Int) {c d : Int} (hc : c ≠ a ∨ d ≠ b) : kindsOf (insT (a, b, k) E) c d = kindsOf E c d :=
  (srt_kindsOf (srt_insT h) c d).ext (srt_kindsOf h c d) fun x => by
    rw [mem_kindsOf, mem_insT, mem_kindsOf]
    constructor
    · rintro (e | e)
      · simp only [Prod.mk.injEq] at e; omega
      · exact e
    · exact .inr
theorem kinds_nil {E : List Tr} {a b : Int} (h : b ∉ row (prs E) a) : kindsOf E a b = [] := by
  rw [List.eq_nil_iff_forall_not_mem]
  exact fun k hk => h (mem_row.2 (mem_prs.2 ⟨k, mem_kindsOf.1 hk⟩))
theorem row_prs_same (E : List Tr) (a b k : Int) : row (prs (insT (a, b, k) E)) a = insI b (row (prs E) a) := by rw [prs_ins, row_insP_same (srt_prs E)]
theorem row_prs_other (E : List Tr) (a b k : Int) {c : Int} (hc : c ≠ a) : row (prs (insT (a, b, k) E)) c = row (prs E) c := by rw [prs_ins, row_insP_other (srt_prs E) a b hc]

/-! ### graphs -/
structure GrOk (N : List Int) (E : List Tr) : Prop where
  srtN : SrtI N
  srtE : SrtT E
  sub : ∀ e ∈ E, e.1 ∈ N ∧ e.2.1 ∈ N
theorem GrOk.nil : GrOk [] [] := ⟨List.Pairwise.nil, List.Pairwise.nil, fun _ h => by simp at h⟩
theorem GrOk.node {N : List Int} {E : List Tr} (h : GrOk N E) (a : Int) : GrOk (insI a N) E := ⟨srt_insI h.srtN, h.srtE, fun e he => ⟨mem_insI.2 (.inr (h.sub e he).1), mem_insI.2 (.inr (h.sub e he).2)⟩⟩
theorem GrOk.edge {N : List Int} {E : List Tr} (h : GrOk N E) (a b k : Int) : GrOk (insI b (insI a N)) (insT (a, b, k) E) := by
  refine ⟨srt_insI (srt_insI h.srtN), srt_insT h.srtE, fun e he => ?_⟩
  rcases mem_insT.1 he with rfl | he
  · exact ⟨mem_insI.2 (.inr (mem_insI.2 (.inl rfl))), mem_insI.2 (.inl rfl)⟩
  · exact ⟨mem_insI.2 (.inr (mem_insI.2 (.inr (h.sub e he).1))), mem_insI.2 (.inr (mem_insI.2 (.inr (h.sub e he).2)))⟩
theorem GrOk.pair {N : List Int} {E : List Tr} (h : GrOk N E) {a b : Int} (hp : (a, b) ∈ prs E) : a ∈ N ∧ b ∈ N := by
  obtain ⟨k, hk⟩ := mem_prs.1 hp
  exact h.sub _ hk

/-- All edges, node by node, pair by pair. -/
def edgesAt (E : List Tr) (a b : Int) : List Tr := (kindsOf E a b).map fun k => (a, b, k)
def edgesFrom (E : List Tr) (a : Int) : List Tr := (row (prs E) a).flatMap (edgesAt E a)
theorem mem_edgesAt {E : List Tr} {a b : Int} {x : Tr} : x ∈ edgesAt E a b ↔ x ∈ E ∧ x.1 = a ∧ x.2.1 = b := by
  unfold edgesAt
  simp only [List.mem_map, mem_kindsOf]
  constructor
  · rintro ⟨k, hk, rfl⟩; exact ⟨hk, rfl, rfl⟩
  · obtain ⟨x1, x2, x3⟩ := x
    rintro ⟨h, rfl, rfl⟩; exact ⟨x3, h, rfl⟩
theorem mem_edgesFrom {E : List Tr} {a : Int} {x : Tr} : x ∈ edgesFrom E a ↔ x ∈ E ∧ x.1 = a := by
  unfold edgesFrom
  simp only [List.mem_flatMap, mem_edgesAt, mem_row, mem_prs]
  constructor
  · rintro ⟨b, -, h, h1, -⟩; exact ⟨h, h1⟩
  · rintro ⟨h, rfl⟩; exact ⟨x.2.1, ⟨x.2.2, h⟩, h, rfl, rfl⟩
theorem flat_edges {N : List Int} {E : List Tr} (h : GrOk N E) : N.flatMap (edgesFrom E) = E := by
  refine SrtT.ext ?_ h.srtE fun x => ?_
  · unfold SrtT
    rw [List.pairwise_flatMap]
    refine ⟨fun a _ => ?_, List.Pairwise.imp (fun {a a'} hlt x hx y hy => ?_) h.srtN⟩
    · unfold edgesFrom
      rw [List.pairwise_flatMap]
      refine ⟨fun b _ => ?_, List.Pairwise.imp (fun {b b'} hlt x hx y hy => ?_) (srt_row (srt_prs E) a)⟩
      · unfold edgesAt
        rw [List.pairwise_map]
        exact List.Pairwise.imp (fun hlt => .inr ⟨rfl, .inr ⟨rfl, hlt⟩⟩) (srt_kindsOf h.srtE a b)
      · have h1 := mem_edgesAt.1 hx
        have h2 := mem_edgesAt.1 hy
        refine .inr ⟨by rw [h1.2.1, h2.2.1], .inl ?_⟩
        rw [h1.2.2, h2.2.2]; exact hlt
    · have h1 := mem_edgesFrom.1 hx
      have h2 := mem_edgesFrom.1 hy
      refine .inl ?_
      rw [h1.2, h2.2]; exact hlt
  · simp only [List.mem_flatMap, mem_edgesFrom]
    constructor
    · rintro ⟨a, -, h1, -⟩; exact h1
    · exact fun hx => ⟨x.1, (h.sub x hx).1, hx, rfl⟩

theorem IsReach.uniq {P : List Pr} {a : Int} {R R' : List Int} (h : IsReach P a R) (k : IsReach P a R') : R = R' := h.1.ext k.1 fun b => (h.2 b).trans (k.2 b).symm
end Go.Proofs.Ytlmeblhcipkgmaa
