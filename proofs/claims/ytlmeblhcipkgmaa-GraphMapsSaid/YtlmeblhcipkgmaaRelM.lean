/- Relations as lists of pairs that rise; what leads to what. Plain lists and numbers: no program in sight. Conditions: those of each theorem, as typed. -/
namespace Go.Proofs.Ytlmeblhcipkgmaa

abbrev Pr := Int × Int
def plt (x y : Pr) : Prop := x.1 < y.1 ∨ (x.1 = y.1 ∧ x.2 < y.2)
instance (x y : Pr) : Decidable (plt x y) := inferInstanceAs (Decidable (_ ∨ _))
def Srt (l : List Pr) : Prop := l.Pairwise plt
def SrtI (l : List Int) : Prop := l.Pairwise (· < ·)

theorem plt_irrefl (x : Pr) : ¬ plt x x := by unfold plt; omega
theorem plt_trans {x y z : Pr} (h : plt x y) (k : plt y z) : plt x z := by unfold plt at *; omega
theorem plt_total {x y : Pr} (h : x ≠ y) : plt x y ∨ plt y x := by
  unfold plt
  have : x.1 ≠ y.1 ∨ x.2 ≠ y.2 := by
    rcases Int.lt_trichotomy x.1 y.1 with h1 | h1 | h1
    · exact .inl (by omega)
    · refine .inr fun h2 => h (Prod.ext h1 h2)
    · exact .inl (by omega)
  omega

/-- A list that rises is told by what is in it. -/
theorem rise_ext {α : Type} {r : α → α → Prop} (hi : ∀ x, ¬ r x x) (ht : ∀ {x y z}, r x y → r y z → r x z) : ∀ {l l' : List α}, l.Pairwise r → l'.Pairwise r → (∀ x, x ∈ l ↔ x ∈ l') → l = l'
  | [], [], _, _, _ => rfl
  | [], y :: l', _, _, h => absurd ((h y).2 (by simp)) (by simp)
  | x :: l, [], _, _, h => absurd ((h x).1 (by simp)) (by simp)
  | x :: l, y :: l', h1, h2, h => by
    obtain ⟨a1, a2⟩ := List.pairwise_cons.1 h1
    obtain ⟨b1, b2⟩ := List.pairwise_cons.1 h2
    have e : x = y := by
      rcases List.mem_cons.1 ((h x).1 (by simp)) with e | e
      · exact e
      · rcases List.mem_cons.1 ((h y).2 (by simp)) with e' | e'
        · exact e'.symm
        · exact absurd (ht (a1 y e') (b1 x e)) (hi x)
    subst e
    have : l = l' := rise_ext hi ht a2 b2 fun z => by
      constructor
      · intro hz
        rcases List.mem_cons.1 ((h z).1 (by simp [hz])) with e | e
        · subst e; exact absurd (a1 z hz) (hi z)
        · exact e
      · intro hz
        rcases List.mem_cons.1 ((h z).2 (by simp [hz])) with e | e
        · subst e; exact absurd (b1 z hz) (hi z)
        · exact e
    rw [this]
theorem Srt.ext {l l' : List Pr} (h1 : Srt l) (h2 : Srt l') (h : ∀ x, x ∈ l ↔ x ∈ l') : l = l' := rise_ext plt_irrefl plt_trans h1 h2 h
theorem SrtI.ext {l l' : List Int} (h1 : SrtI l) (h2 : SrtI l') (h : ∀ x, x ∈ l ↔ x ∈ l') : l = l' := rise_ext (fun _ => Int.lt_irrefl _) Int.lt_trans h1 h2 h
theorem SrtI.nodup {l : List Int} (h : SrtI l) : l.Nodup := h.imp (fun h => by omega)
theorem Srt.nodup {l : List Pr} (h : Srt l) : l.Nodup := h.imp (fun {a b} (h : plt a b) (e : a = b) => plt_irrefl b (by rw [e] at h; exact h))

/-! ### one more -/
def insI (n : Int) : List Int → List Int
  | [] => [n]
  | y :: r => if y = n then y :: r else if n < y then n :: y :: r else y :: insI n r
theorem mem_insI {n x : Int} : ∀ {l : List Int}, x ∈ insI n l ↔ x = n ∨ x ∈ l
  | [] => by simp [insI]
  | y :: r => by
    unfold insI
    split
    · rename_i h; subst h; simp
    · split
      · simp
      · simp [mem_insI (l := r)]
        constructor
        · rintro (h | h | h) <;> simp [h]
        · rintro (h | h | h) <;> simp [h]
theorem srt_insI {n : Int} : ∀ {l : List Int}, SrtI l → SrtI (insI n l)
  | [], _ => by simp [insI, SrtI]
  | y :: r, h => by
    obtain ⟨h1, h2⟩ := List.pairwise_cons.1 h
    unfold insI
    split
    · exact h
    · split
      · rename_i h3
        refine List.pairwise_cons.2 ⟨fun z hz => ?_, h⟩
        rcases List.mem_cons.1 hz with rfl | hz
        · exact h3
        · have := h1 z hz; omega
      · refine List.pairwise_cons.2 ⟨fun z hz => ?_, srt_insI h2⟩
        rcases mem_insI.1 hz with rfl | hz
        · omega
        · exact h1 z hz
theorem insI_of_mem {n : Int} {l : List Int} (h : SrtI l) (hm : n ∈ l) : insI n l = l := (srt_insI h).ext h fun x => by rw [mem_insI]; constructor; (rintro (rfl | h) <;> assumption); exact .inr
theorem length_insI {n : Int} : ∀ {l : List Int}, (insI n l).length ≤ l.length + 1
  | [] => by simp [insI]
  | y :: r => by
    unfold insI
    have := length_insI (n := n) (l := r)
    split
    · simp
    · split <;> simp <;> omega
theorem length_insI_new {n : Int} : ∀ {l : List Int}, n ∉ l → (insI n l).length = l.length + 1
  | [], _ => by simp [insI]
  | y :: r, h => by
    simp only [List.mem_cons, not_or] at h
    unfold insI
    rw [if_neg (fun e => h.1 e.symm)]
    have := length_insI_new h.2
    split <;> simp <;> omega

def insP (p : Pr) : List Pr → List Pr
  | [] => [p]
  | y :: r => if y = p then y :: r else if plt p y then p :: y :: r else y :: insP p r
theorem mem_insP {p x : Pr} : ∀ {l : List Pr}, x ∈ insP p l ↔ x = p ∨ x ∈ l
  | [] => by simp [insP]
  | y :: r => by
    unfold insP
    split
    · rename_i h; subst h; simp
    · split
      · simp
      · simp only [List.mem_cons, mem_insP (l := r)]
        constructor
        · rintro (h | h | h) <;> simp [h]
        · rintro (h | h | h) <;> simp [h]
theorem srt_insP {p : Pr} : ∀ {l : List Pr}, Srt l → Srt (insP p l)
  | [], _ => by simp [insP, Srt]
  | y :: r, h => by
    obtain ⟨h1, h2⟩ := List.pairwise_cons.1 h
    unfold insP
    split
    · exact h
    · rename_i hne
      split
      · rename_i h3
        refine List.pairwise_cons.2 ⟨fun z hz => ?_, h⟩
        rcases List.mem_cons.1 hz with rfl | hz
        · exact h3
        · exact plt_trans h3 (h1 z hz)
      · rename_i h3
        refine List.pairwise_cons.2 ⟨fun z hz => ?_, srt_insP h2⟩
        rcases mem_insP.1 hz with rfl | hz
        · rcases plt_total hne with h | h
          · exact h
          · exact absurd h h3
        · exact h1 z hz
theorem insP_of_mem {p : Pr} {l : List Pr} (h : Srt l) (hm : p ∈ l) : insP p l = l := (srt_insP h).ext h fun x => by rw [mem_insP]; constructor; (rintro (rfl | h) <;> assumption); exact .inr
theorem length_insP {p : Pr} : ∀ {l : List Pr}, (insP p l).length ≤ l.length + 1
  | [] => by simp [insP]
  | y :: r => by
    unfold insP
    have := length_insP (p := p) (l := r)
    split
    · simp
    · split <;> simp <;> omega
theorem length_insP_new {p : Pr} : ∀ {l : List Pr}, p ∉ l → (insP p l).length = l.length + 1
  | [], _ => by simp [insP]
  | y :: r, h => by
    simp only [List.mem_cons, not_or] at h
    unfold insP
    rw [if_neg (fun e => h.1 e.symm)]
    have := length_insP_new h.2
    split <;> simp <;> omega

def putAll (l : List Pr) : List Pr := l.foldl (fun m p => insP p m) []
theorem putAll_snoc (l : List Pr) (p : Pr) : putAll (l ++ [p]) = insP p (putAll l) := by simp [putAll]
theorem mem_fold (x : Pr) : ∀ (l m : List Pr), x ∈ l.foldl (fun m p => insP p m) m ↔ x ∈ m ∨ x ∈ l
  | [], m => by simp
  | p :: l, m => by
    rw [List.foldl_cons, mem_fold x l, mem_insP, List.mem_cons]
    constructor
    · rintro ((h | h) | h) <;> simp [h]
    · rintro (h | h | h) <;> simp [h]
theorem mem_putAll {x : Pr} {l : List Pr} : x ∈ putAll l ↔ x ∈ l := by rw [putAll, mem_fold]; simp
theorem srt_fold : ∀ (l m : List Pr), Srt m → Srt (l.foldl (fun m p => insP p m) m)
  | [], _, h => h
  | _ :: l, _, h => srt_fold l _ (srt_insP h)
theorem srt_putAll (l : List Pr) : Srt (putAll l) := srt_fold l [] List.Pairwise.nil
theorem length_fold : ∀ (l m : List Pr), (l.foldl (fun m p => insP p m) m).length ≤ m.length + l.length
  | [], m => by simp
  | p :: l, m => by
    have := length_fold l (insP p m)
    have := length_insP (p := p) (l := m)
    simp only [List.foldl_cons, List.length_cons]
    omega
theorem length_putAll (l : List Pr) : (putAll l).length ≤ l.length := by have := length_fold l []; simpa [putAll] using this

/-! ### rows -/
/-- What is behind a. -/
def row (l : List Pr) (a : Int) : List Int := (l.filter fun p => p.1 == a).map (·.2)
theorem mem_row {l : List Pr} {a b : Int} : b ∈ row l a ↔ (a, b) ∈ l := by
  unfold row
  simp only [List.mem_map, List.mem_filter, beq_iff_eq]
  constructor
  · rintro ⟨⟨x, y⟩, ⟨h, rfl⟩, rfl⟩; exact h
  · exact fun h => ⟨(a, b), ⟨h, rfl⟩, rfl⟩
theorem srt_row {l : List Pr} (h : Srt l) (a : Int) : SrtI (row l a) := by
  unfold row SrtI
  rw [List.pairwise_map]
  refine List.Pairwise.imp_of_mem ?_ (h.filter _)
  intro x y hx hy hp
  have h1 := (List.mem_filter.1 hx).2
  have h2 := (List.mem_filter.1 hy).2
  simp only [beq_iff_eq] at h1 h2
  unfold plt at hp
  omega
theorem row_insP_same {l : List Pr} (h : Srt l) (a b : Int) : row (insP (a, b) l) a = insI b (row l a) :=
  (srt_row (srt_insP h) a).ext (srt_insI (srt_row h a)) fun x => by
    rw [mem_row, mem_insP, mem_insI, mem_row]
    simp
theorem row_insP_other {l : List Pr} (h : Srt l) (a b : Int) {c : Int} (hc : c ≠ a) : row (insP (a, b) l) c = row l c :=
  (srt_row (srt_insP h) c).ext (srt_row h c) fun x => by
    rw [mem_row, mem_insP, mem_row]
    simp [hc]
theorem length_row (l : List Pr) (a : Int) : (row l a).length ≤ l.length := by
  unfold row
  rw [List.length_map]
  exact List.length_filter_le _ _

/-- What is ahead of b. -/
def col (l : List Pr) (b : Int) : List Int := (l.filter fun p => p.2 == b).map (·.1)
theorem mem_col {l : List Pr} {a b : Int} : a ∈ col l b ↔ (a, b) ∈ l := by
  unfold col
  simp only [List.mem_map, List.mem_filter, beq_iff_eq]
  constructor
  · rintro ⟨⟨x, y⟩, ⟨h, rfl⟩, rfl⟩; exact h
  · exact fun h => ⟨(a, b), ⟨h, rfl⟩, rfl⟩
theorem srt_col {l : List Pr} (h : Srt l) (b : Int) : SrtI (col l b) := by
  unfold col SrtI
  rw [List.pairwise_map]
  refine List.Pairwise.imp_of_mem ?_ (h.filter _)
  intro x y hx hy hp
  have h1 := (List.mem_filter.1 hx).2
  have h2 := (List.mem_filter.1 hy).2
  simp only [beq_iff_eq] at h1 h2
  unfold plt at hp
  omega

/-- Who has something behind it. -/
def heads : List Pr → List Int
  | [] => []
  | p :: r => insI p.1 (heads r)
theorem mem_heads {l : List Pr} {a : Int} : a ∈ heads l ↔ ∃ b, (a, b) ∈ l := by
  induction l with
  | nil => simp [heads]
  | cons p r ih =>
    rw [heads, mem_insI, ih]
    obtain ⟨x, y⟩ := p
    constructor
    · rintro (rfl | ⟨b, hb⟩)
      · exact ⟨y, by simp⟩
      · exact ⟨b, by simp [hb]⟩
    · rintro ⟨b, hb⟩
      rcases List.mem_cons.1 hb with e | e
      · simp only [Prod.mk.injEq] at e; exact .inl e.1
      · exact .inr ⟨b, e⟩
theorem srt_heads (l : List Pr) : SrtI (heads l) := by
  induction l with
  | nil => exact List.Pairwise.nil
  | cons p r ih => exact srt_insI ih

/-- All pairs, row by row. -/
theorem flat_rows {l : List Pr} (h : Srt l) : (heads l).flatMap (fun a => (row l a).map fun b => (a, b)) = l := by
  refine Srt.ext ?_ h fun x => ?_
  · unfold Srt
    rw [List.pairwise_flatMap]
    refine ⟨fun a _ => ?_, (srt_heads l).imp fun {a a'} hlt x hx y hy => ?_⟩
    · rw [List.pairwise_map]
      exact (srt_row h a).imp fun hlt => .inr ⟨rfl, hlt⟩
    · obtain ⟨b, _, rfl⟩ := List.mem_map.1 hx
      obtain ⟨b', _, rfl⟩ := List.mem_map.1 hy
      exact .inl hlt
  · obtain ⟨a, b⟩ := x
    simp only [List.mem_flatMap, List.mem_map, mem_row, mem_heads, Prod.mk.injEq]
    constructor
    · rintro ⟨_, _, _, h, rfl, rfl⟩; exact h
    · exact fun h => ⟨a, ⟨b, h⟩, b, h, rfl, rfl⟩

/-- How many pairs stand in the rows of some. -/
def upto (l : List Pr) (p : Int → Bool) : Nat := (l.filter fun x => p x.1).length
theorem upto_all (l : List Pr) (p : Int → Bool) (h : ∀ x ∈ l, p x.1 = true) : upto l p = l.length := by
  unfold upto
  rw [List.filter_eq_self.2 h]
theorem upto_none (l : List Pr) (p : Int → Bool) (h : ∀ x ∈ l, p x.1 = false) : upto l p = 0 := by
  unfold upto
  rw [List.filter_eq_nil_iff.2 fun x hx => by simp [h x hx], List.length_nil]
theorem upto_one (l : List Pr) (p p' : Int → Bool) (a : Int) (ha : p a = false) (h : ∀ x, p' x = (p x || x == a)) : upto l p' = upto l p + (row l a).length := by
  induction l with
  | nil => rfl
  | cons x l ih =>
    have e : ∀ q : Int → Bool, upto (x :: l) q = (if q x.1 then 1 else 0) + upto l q := fun q => by
      unfold upto
      by_cases hq : q x.1 = true <;> simp [hq]; omega
    have e2 : (row (x :: l) a).length = (if x.1 = a then 1 else 0) + (row l a).length := by
      unfold row
      by_cases hq : x.1 = a <;> simp [hq]; omega
    rw [e, e, e2, ih, h]
    by_cases hx : x.1 = a
    · rw [hx, ha]; simp; omega
    · have : (x.1 == a) = false := by simpa using hx
      rw [this, Bool.or_false, if_neg hx]; omega

/-! ### what leads to what -/
inductive Tc (l : List Pr) : Int → Int → Prop
  | one {a b : Int} : (a, b) ∈ l → Tc l a b
  | more {a b c : Int} : Tc l a b → (b, c) ∈ l → Tc l a c
theorem Tc.trans {l : List Pr} {a b c : Int} (h : Tc l a b) (k : Tc l b c) : Tc l a c := by
  induction k with
  | one k => exact .more h k
  | more _ k ih => exact .more ih k
theorem Tc.head {l : List Pr} {a b : Int} (h : Tc l a b) : ∃ c, (a, c) ∈ l := by
  induction h with
  | one h => exact ⟨_, h⟩
  | more _ _ ih => exact ih
theorem Tc.last {l : List Pr} {a b : Int} (h : Tc l a b) : ∃ c, (c, b) ∈ l := by
  cases h with
  | one h => exact ⟨_, h⟩
  | more _ h => exact ⟨_, h⟩
/-- What a has behind it, and what that has, is all that a leads to. -/
theorem Tc.closed {l : List Pr} {a : Int} {O : Int → Prop} (h1 : ∀ b, (a, b) ∈ l → O b) (h2 : ∀ b, O b → ∀ c, (b, c) ∈ l → O c) {b : Int} (h : Tc l a b) : O b := by
  induction h with
  | one h => exact h1 _ h
  | more _ k ih => exact h2 _ ih _ k

/-- c is l's closure. -/
structure IsClo (l c : List Pr) : Prop where
  srt : Srt c
  mem : ∀ a b, (a, b) ∈ c ↔ Tc l a b
theorem IsClo.uniq {l c c' : List Pr} (h : IsClo l c) (k : IsClo l c') : c = c' := h.srt.ext k.srt fun ⟨a, b⟩ => (h.mem a b).trans (k.mem a b).symm
theorem IsClo.again {l c : List Pr} (h : IsClo l c) : IsClo c c := ⟨h.srt, fun a b => ⟨.one, fun k => by
  induction k with
  | one k => exact k
  | more _ k ih => exact (h.mem _ _).2 (((h.mem _ _).1 ih).trans ((h.mem _ _).1 k))⟩⟩
theorem IsClo.sub {l c : List Pr} (h : IsClo l c) {x : Pr} (hx : x ∈ l) : x ∈ c := (h.mem x.1 x.2).2 (.one hx)

def hasCircle (c : List Pr) : Bool := c.any fun p => p.1 == p.2
def fitsB (l : List Pr) (o : List Int) : Bool := (List.range o.length).all fun i => (List.range (i + 1)).all fun k => !l.contains (o.getD i 0, o.getD k 0)
theorem fitsB_iff {l : List Pr} {o : List Int} : fitsB l o = true ↔ ∀ i k, k ≤ i → i < o.length → (o.getD i 0, o.getD k 0) ∉ l := by
  unfold fitsB
  simp only [List.all_eq_true, List.mem_range, Bool.not_eq_true', List.contains_eq_mem, decide_eq_false_iff_not]
  exact ⟨fun h i k hk hi => h i hi k (by omega), fun h i hi k hk => h i k (by omega) hi⟩
theorem circle_iff {l c : List Pr} (h : IsClo l c) : hasCircle c = true ↔ ∃ a, Tc l a a := by
  unfold hasCircle
  simp only [List.any_eq_true, beq_iff_eq]
  constructor
  · rintro ⟨⟨a, b⟩, hm, e⟩; simp only at e; subst e; exact ⟨a, (h.mem _ _).1 hm⟩
  · rintro ⟨a, ha⟩; exact ⟨(a, a), (h.mem _ _).2 ha, rfl⟩
theorem circle_again {l c : List Pr} (h : IsClo l c) {d : List Pr} (k : IsClo c d) : hasCircle d = hasCircle c := by rw [k.uniq h.again]

/-- An order that fits, with all that is named, fits the closure. -/
theorem fits_clo {l c : List Pr} (h : IsClo l c) {o : List Int} (ho : ∀ x ∈ l, x.1 ∈ o ∧ x.2 ∈ o) : fitsB l o = fitsB c o ∧ ¬ (fitsB l o = true ∧ hasCircle c = true) := by
  have key : fitsB l o = true → ∀ x y, Tc l x y → ∀ i j, i < o.length → j < o.length → o.getD i 0 = x → o.getD j 0 = y → i < j := by
    intro hf x y hxy
    rw [fitsB_iff] at hf
    induction hxy with
    | one hm =>
      intro i j hi hj e1 e2
      rcases Nat.lt_or_ge i j with h | h
      · exact h
      · exact absurd (by rw [e1, e2]; exact hm) (hf i j h hi)
    | more hm hl ih =>
      rename_i b c
      intro i j hi hj e1 e2
      obtain ⟨k, hk, ek⟩ := List.getElem_of_mem (ho _ hl).1
      have ek' : o.getD k 0 = b := by rw [List.getD_eq_getElem?_getD, List.getElem?_eq_getElem hk]; exact ek
      have h1 := ih i k hi hk e1 ek'
      rcases Nat.lt_or_ge k j with h | h
      · omega
      · exact absurd (by rw [ek', e2]; exact hl) (hf k j h hk)
  have fw : fitsB l o = true → fitsB c o = true := by
    intro hf
    rw [fitsB_iff]
    intro i k hk hi hm
    have := key hf _ _ ((h.mem _ _).1 hm) i k hi (by omega) rfl rfl
    omega
  have bw : fitsB c o = true → fitsB l o = true := by
    intro hf
    rw [fitsB_iff] at hf ⊢
    exact fun i k hk hi hm => hf i k hk hi (h.sub hm)
  refine ⟨by rw [Bool.eq_iff_iff]; exact ⟨fw, bw⟩, ?_⟩
  rintro ⟨h1, h2⟩
  obtain ⟨a, ha⟩ := (circle_iff h).1 h2
  obtain ⟨b, hb⟩ := ha.head
  obtain ⟨k, hk, ek⟩ := List.getElem_of_mem (ho _ hb).1
  have ek' : o.getD k 0 = a := by rw [List.getD_eq_getElem?_getD, List.getElem?_eq_getElem hk]; exact ek
  have := key h1 a a ha k k hk hk ek' ek'
  omega

/-- No list without repeats out of another one is longer. -/
theorem nodup_le {α : Type} [DecidableEq α] : ∀ {l m : List α}, l.Nodup → (∀ x ∈ l, x ∈ m) → l.length ≤ m.length
  | [], _, _, _ => by simp
  | x :: l, m, h, hm => by
    obtain ⟨h1, h2⟩ := List.nodup_cons.1 h
    have := nodup_le (l := l) (m := m.erase x) h2 fun y hy => (List.mem_erase_of_ne (by rintro rfl; exact h1 hy)).2 (hm y (by simp [hy]))
    rw [List.length_erase_of_mem (hm x (by simp))] at this
    have := List.length_pos_of_mem (hm x (by simp))
    simp only [List.length_cons]
    omega
end Go.Proofs.Ytlmeblhcipkgmaa
