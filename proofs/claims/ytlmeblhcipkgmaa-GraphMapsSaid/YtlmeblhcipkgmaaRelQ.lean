/- A search along pairs, with a queue: it finds what a leads to, and no more. Plain lists and numbers. Conditions: those of each theorem, as typed. -/
import Derived.Test.YtlmeblhcipkgmaaRelM
namespace Go.Proofs.Ytlmeblhcipkgmaa

def tails : List Pr → List Int
  | [] => []
  | p :: r => insI p.2 (tails r)
theorem mem_tails {l : List Pr} {b : Int} : b ∈ tails l ↔ ∃ a, (a, b) ∈ l := by
  induction l with
  | nil => simp [tails]
  | cons p r ih =>
    rw [tails, mem_insI, ih]
    obtain ⟨x, y⟩ := p
    constructor
    · rintro (rfl | ⟨b, hb⟩)
      · exact ⟨x, by simp⟩
      · exact ⟨b, by simp [hb]⟩
    · rintro ⟨b, hb⟩
      rcases List.mem_cons.1 hb with e | e
      · simp only [Prod.mk.injEq] at e; exact .inl e.2
      · exact .inr ⟨b, e⟩
theorem srt_tails (l : List Pr) : SrtI (tails l) := by
  induction l with
  | nil => exact List.Pairwise.nil
  | cons p r ih => exact srt_insI ih
def area (l : List Pr) : Nat := (heads l).length * (tails l).length
theorem length_area {l c : List Pr} (hc : Srt c) (h : ∀ x z, (x, z) ∈ c → x ∈ heads l ∧ z ∈ tails l) : c.length ≤ area l := by
  have h1 : c.length ≤ ((heads l).flatMap fun a => (tails l).map fun b => (a, b)).length := nodup_le hc.nodup fun ⟨x, z⟩ hx => by
    obtain ⟨h1, h2⟩ := h x z hx
    exact List.mem_flatMap.2 ⟨x, h1, List.mem_map.2 ⟨z, h2, rfl⟩⟩
  have h2 : ∀ m : List Int, (m.flatMap fun a => (tails l).map fun b => (a, b)).length = m.length * (tails l).length := by
    intro m
    induction m with
    | nil => simp
    | cons x m ih => simp only [List.flatMap_cons, List.length_append, List.length_map, ih, List.length_cons, Nat.add_mul]; omega
  rw [h2] at h1
  exact h1
theorem length_le_area {l : List Pr} (h : Srt l) : l.length ≤ area l := length_area h fun x z hx => ⟨mem_heads.2 ⟨z, hx⟩, mem_tails.2 ⟨x, hx⟩⟩
theorem Tc.ends {l : List Pr} {a b : Int} (h : Tc l a b) : a ∈ heads l ∧ b ∈ tails l := ⟨mem_heads.2 h.head, mem_tails.2 h.last⟩
theorem IsClo.heads {l c : List Pr} (h : IsClo l c) : heads c = heads l := (srt_heads c).ext (srt_heads l) fun x => by
  rw [mem_heads, mem_heads]
  constructor
  · rintro ⟨b, hb⟩; exact ((h.mem _ _).1 hb).head
  · rintro ⟨b, hb⟩; exact ⟨b, h.sub hb⟩
theorem IsClo.tails {l c : List Pr} (h : IsClo l c) : tails c = tails l := (srt_tails c).ext (srt_tails l) fun x => by
  rw [mem_tails, mem_tails]
  constructor
  · rintro ⟨b, hb⟩; exact ((h.mem _ _).1 hb).last
  · rintro ⟨b, hb⟩; exact ⟨b, h.sub hb⟩
theorem IsClo.area {l c : List Pr} (h : IsClo l c) : area c = area l := by unfold Go.Proofs.Ytlmeblhcipkgmaa.area; rw [h.heads, h.tails]
theorem IsClo.dom {l c : List Pr} {dom : Int → Prop} (h : IsClo l c) (hd : ∀ x ∈ l, dom x.1 ∧ dom x.2) : ∀ x ∈ c, dom x.1 ∧ dom x.2 := fun x hx => by
  have h1 := (h.mem x.1 x.2).1 hx
  obtain ⟨y, hy⟩ := h1.head
  obtain ⟨z, hz⟩ := h1.last
  exact ⟨(hd _ hy).1, (hd _ hz).2⟩
theorem row_tails {l : List Pr} (hl : Srt l) (a : Int) {m : List Pr} (h : ∀ z, (a, z) ∈ l → z ∈ tails m) : (row l a).length ≤ (tails m).length :=
  nodup_le (srt_row hl a).nodup fun z hz => h z (mem_row.1 hz)

/-- While what a leads to is sought: C0 is what was there, t the queue. -/
structure QInv (L C0 : List Pr) (a : Int) (C : List Pr) (t : List Int) : Prop where
  srt : Srt C
  tc : ∀ x z, (x, z) ∈ C → Tc L x z
  old : ∀ x z, x ≠ a → ((x, z) ∈ C ↔ (x, z) ∈ C0)
  queue : ∀ y ∈ t, Tc L a y
  first : ∀ y, (a, y) ∈ L → (a, y) ∈ C ∨ y ∈ t
  step : ∀ y, (a, y) ∈ C → ∀ z, (y, z) ∈ L → (a, z) ∈ C ∨ z ∈ t
section
variable {L C0 C : List Pr} {a y : Int} {t : List Int}
theorem QInv.start (hs : Srt C0) (htc : ∀ x z, (x, z) ∈ C0 → Tc L x z) (ha : ∀ z, (a, z) ∉ C0) : QInv L C0 a C0 (row L a) where
  srt := hs
  tc := htc
  old _ _ _ := Iff.rfl
  queue y hy := .one (mem_row.1 hy)
  first y hy := .inr (mem_row.2 hy)
  step y hy := absurd hy (ha y)
theorem QInv.seen (h : QInv L C0 a C (y :: t)) (hy : (a, y) ∈ C) : QInv L C0 a C t where
  srt := h.srt
  tc := h.tc
  old := h.old
  queue z hz := h.queue z (by simp [hz])
  first z hz := by
    rcases h.first z hz with h1 | h1
    · exact .inl h1
    · rcases List.mem_cons.1 h1 with rfl | h1
      · exact .inl hy
      · exact .inr h1
  step x hx z hz := by
    rcases h.step x hx z hz with h1 | h1
    · exact .inl h1
    · rcases List.mem_cons.1 h1 with rfl | h1
      · exact .inl hy
      · exact .inr h1
theorem QInv.fresh (h : QInv L C0 a C (y :: t)) : QInv L C0 a (insP (a, y) C) (t ++ row L y) where
  srt := srt_insP h.srt
  tc x z hx := by
    rcases mem_insP.1 hx with e | hx
    · simp only [Prod.mk.injEq] at e; rw [e.1, e.2]; exact h.queue y (by simp)
    · exact h.tc x z hx
  old x z hne := by
    rw [mem_insP, ← h.old x z hne]
    simp [hne]
  queue z hz := by
    rcases List.mem_append.1 hz with hz | hz
    · exact h.queue z (by simp [hz])
    · exact (h.queue y (by simp)).more (mem_row.1 hz)
  first z hz := by
    rcases h.first z hz with h1 | h1
    · exact .inl (mem_insP.2 (.inr h1))
    · rcases List.mem_cons.1 h1 with rfl | h1
      · exact .inl (mem_insP.2 (.inl rfl))
      · exact .inr (List.mem_append.2 (.inl h1))
  step x hx z hz := by
    rcases mem_insP.1 hx with e | hx
    · simp only [Prod.mk.injEq, true_and] at e
      subst e
      exact .inr (List.mem_append.2 (.inr (mem_row.2 hz)))
    · rcases h.step x hx z hz with h1 | h1
      · exact .inl (mem_insP.2 (.inr h1))
      · rcases List.mem_cons.1 h1 with rfl | h1
        · exact .inl (mem_insP.2 (.inl rfl))
        · exact .inr (List.mem_append.2 (.inl h1))
theorem QInv.done (h : QInv L C0 a C []) (x z : Int) : (x, z) ∈ C ↔ (x ≠ a ∧ (x, z) ∈ C0) ∨ (x = a ∧ Tc L a z) := by
  by_cases hx : x = a
  · subst hx
    constructor
    · exact fun hm => .inr ⟨rfl, h.tc _ _ hm⟩
    · rintro (⟨h1, _⟩ | ⟨_, h1⟩)
      · exact absurd rfl h1
      · exact h1.closed (O := fun z => (x, z) ∈ C) (fun b hb => by simpa using h.first b hb) (fun b hb c hc => by simpa using h.step b hb c hc)
  · rw [h.old x z hx]
    simp [hx]
end
end Go.Proofs.Ytlmeblhcipkgmaa
