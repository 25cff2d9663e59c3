/- Maps in memory whose keys stand for whole numbers, told as lists that rise by them: what is read, what a store makes of it, how a range goes over it. The engine late: what it is, where it lies, what keeps it. Conditions: those of each theorem, as typed. Merged by program out of 2 texts. -/
import Derived.Maps.OwnSet
import Derived.Maps.RangeWalk
import Derived.Test.YtogphaiomlfofaaGreatDoorQL10
set_option linter.unusedVariables false
set_option linter.unusedSimpArgs false
namespace Go.Proofs.YtogphaiomlfofaaGreatDoor
open Go.RowKit Go.Maps

abbrev DU := DataW Unit
abbrev RdU := Value → Option (DU × List MemPlace)

/-! ### lists of numbers with what stands at them -/
section
variable {ε : Type}
def KSrt (M : List (Int × ε)) : Prop := M.Pairwise fun x y => x.1 < y.1
def upd (a : Int) (v : ε) : List (Int × ε) → List (Int × ε)
  | [] => [(a, v)]
  | (x, u) :: r => if x = a then (a, v) :: r else if a < x then (a, v) :: (x, u) :: r else (x, u) :: upd a v r
def fnd (a : Int) : List (Int × ε) → Option ε
  | [] => none
  | (x, u) :: r => if x = a then some u else fnd a r
theorem keys_upd {a : Int} {v : ε} {z : Int} : ∀ {M : List (Int × ε)}, (∃ u, (z, u) ∈ upd a v M) ↔ z = a ∨ ∃ u, (z, u) ∈ M
  | [] => by simp [upd]
  | (x, u) :: r => by
    have ih := keys_upd (a := a) (v := v) (z := z) (M := r)
    unfold upd
    split
    · rename_i h
      subst h
      simp only [List.mem_cons, Prod.mk.injEq]
      constructor
      · rintro ⟨y, ⟨h, _⟩ | h⟩
        · exact .inl h
        · exact .inr ⟨y, .inr h⟩
      · rintro (h | ⟨y, ⟨h, _⟩ | h⟩)
        · exact ⟨v, .inl ⟨h, rfl⟩⟩
        · exact ⟨v, .inl ⟨h, rfl⟩⟩
        · exact ⟨y, .inr h⟩
    · split
      · simp only [List.mem_cons, Prod.mk.injEq]
        constructor
        · rintro ⟨y, ⟨h, _⟩ | h⟩
          · exact .inl h
          · exact .inr ⟨y, h⟩
        · rintro (h | ⟨y, h⟩)
          · exact ⟨v, .inl ⟨h, rfl⟩⟩
          · exact ⟨y, .inr h⟩
      · simp only [List.mem_cons, Prod.mk.injEq]
        constructor
        · rintro ⟨y, ⟨h, h'⟩ | h⟩
          · exact .inr ⟨y, .inl ⟨h, h'⟩⟩
          · rcases ih.1 ⟨y, h⟩ with h | ⟨y', h⟩
            · exact .inl h
            · exact .inr ⟨y', .inr h⟩
        · rintro (h | ⟨y, ⟨h, h'⟩ | h⟩)
          · obtain ⟨y, h⟩ := ih.2 (.inl h); exact ⟨y, .inr h⟩
          · exact ⟨y, .inl ⟨h, h'⟩⟩
          · obtain ⟨y, h⟩ := ih.2 (.inr ⟨y, h⟩); exact ⟨y, .inr h⟩
theorem mem_upd {a : Int} {v : ε} {p : Int × ε} : ∀ {M : List (Int × ε)}, KSrt M → (p ∈ upd a v M ↔ p = (a, v) ∨ (p ∈ M ∧ p.1 ≠ a))
  | [], _ => by simp [upd]
  | (x, u) :: r, h => by
    obtain ⟨h1, h2⟩ := List.pairwise_cons.1 h
    have ih := mem_upd (a := a) (v := v) (p := p) h2
    unfold upd
    split
    · rename_i hx
      subst hx
      simp only [List.mem_cons]
      constructor
      · rintro (h | h)
        · exact .inl h
        · exact .inr ⟨.inr h, by have := h1 p h; simp only at this; omega⟩
      · rintro (h | ⟨h | h, hne⟩)
        · exact .inl h
        · exact absurd (by rw [h]) hne
        · exact .inr h
    · rename_i hx
      split
      · rename_i hlt
        simp only [List.mem_cons]
        constructor
        · rintro (h | h | h)
          · exact .inl h
          · exact .inr ⟨.inl h, by rw [h]; exact hx⟩
          · exact .inr ⟨.inr h, by have := h1 p h; simp only at this; omega⟩
        · rintro (h | ⟨h, _⟩)
          · exact .inl h
          · exact .inr h
      · simp only [List.mem_cons, ih]
        constructor
        · rintro (h | h | ⟨h, hne⟩)
          · exact .inr ⟨.inl h, by rw [h]; exact hx⟩
          · exact .inl h
          · exact .inr ⟨.inr h, hne⟩
        · rintro (h | ⟨h | h, hne⟩)
          · exact .inr (.inl h)
          · exact .inl h
          · exact .inr (.inr ⟨h, hne⟩)
theorem srt_upd {a : Int} {v : ε} : ∀ {M : List (Int × ε)}, KSrt M → KSrt (upd a v M)
  | [], _ => by simp [upd, KSrt]
  | (x, u) :: r, h => by
    obtain ⟨h1, h2⟩ := List.pairwise_cons.1 h
    unfold upd
    split
    · rename_i hx
      subst hx
      exact List.pairwise_cons.2 ⟨h1, h2⟩
    · rename_i hx
      split
      · rename_i hlt
        refine List.pairwise_cons.2 ⟨fun z hz => ?_, h⟩
        rcases List.mem_cons.1 hz with rfl | hz
        · exact hlt
        · have := h1 z hz; simp only at this ⊢; omega
      · refine List.pairwise_cons.2 ⟨fun z hz => ?_, srt_upd h2⟩
        rcases (mem_upd h2).1 hz with rfl | ⟨hz, _⟩
        · simp only; omega
        · exact h1 z hz
theorem fnd_some {a : Int} {u : ε} : ∀ {M : List (Int × ε)}, KSrt M → (fnd a M = some u ↔ (a, u) ∈ M)
  | [], _ => by simp [fnd]
  | (x, y) :: r, h => by
    obtain ⟨h1, h2⟩ := List.pairwise_cons.1 h
    unfold fnd
    split
    · rename_i hx
      subst hx
      simp only [Option.some.injEq, List.mem_cons, Prod.mk.injEq, true_and]
      constructor
      · exact fun h => .inl h.symm
      · rintro (h | h)
        · exact h.symm
        · have := h1 _ h; simp only at this; omega
    · rename_i hx
      rw [fnd_some h2]
      simp only [List.mem_cons, Prod.mk.injEq]
      constructor
      · exact .inr
      · rintro (⟨h, _⟩ | h)
        · exact absurd h.symm hx
        · exact h
theorem fnd_none {a : Int} : ∀ {M : List (Int × ε)}, fnd a M = none ↔ ∀ u, (a, u) ∉ M
  | [] => by simp [fnd]
  | (x, y) :: r => by
    unfold fnd
    split
    · rename_i hx
      subst hx
      simp only [reduceCtorEq, false_iff]
      exact fun h => h y (by simp)
    · rename_i hx
      rw [fnd_none]
      constructor
      · intro h u hm
        rcases List.mem_cons.1 hm with e | e
        · simp only [Prod.mk.injEq] at e; exact hx e.1.symm
        · exact h u e
      · exact fun h u hm => h u (by simp [hm])
theorem fnd_upd_same {a : Int} {v : ε} {M : List (Int × ε)} (h : KSrt M) : fnd a (upd a v M) = some v := (fnd_some (srt_upd h)).2 ((mem_upd h).2 (.inl rfl))
theorem fnd_upd_other {a c : Int} {v : ε} {M : List (Int × ε)} (h : KSrt M) (hc : c ≠ a) : fnd c (upd a v M) = fnd c M := by
  cases e : fnd c M with
  | some u => exact (fnd_some (srt_upd h)).2 ((mem_upd h).2 (.inr ⟨(fnd_some h).1 e, hc⟩))
  | none =>
    rw [fnd_none] at e ⊢
    intro u hm
    rcases (mem_upd h).1 hm with e' | ⟨hm, _⟩
    · simp only [Prod.mk.injEq] at e'; exact hc e'.1
    · exact e u hm
theorem length_upd_le {a : Int} {v : ε} : ∀ {M : List (Int × ε)}, (upd a v M).length ≤ M.length + 1
  | [] => by simp [upd]
  | (x, u) :: r => by
    have := length_upd_le (a := a) (v := v) (M := r)
    unfold upd
    split
    · simp
    · split <;> simp <;> omega
end

/-! ### keys -/
/-- What stands for a number as a key: as the reader reads it, and as a value. -/
structure KeyT (P : Program) (K : TypeId) (kv : Int → Value) (kl : Int → Lit) (dom : Int → Prop) : Prop where
  keyed : Keyed P K
  of : ∀ x, dom x → keyOf P K (kv x) = some (kl x)
  before : ∀ x y, dom x → dom y → ((kl x).before (kl y) = true ↔ x < y)
  inj : ∀ x y, dom x → dom y → kl x = kl y → x = y
section
variable {P : Program} {K : TypeId} {kv : Int → Value} {kl : Int → Lit} {dom : Int → Prop} {ε : Type}
theorem KeyT.key (T : KeyT P K kv kl dom) {x : Int} (hx : dom x) : WideAt.IsKeyLit (kl x) := T.keyed.key (T.of x hx)
theorem KeyT.self (T : KeyT P K kv kl dom) {x : Int} (hx : dom x) : (kl x).sameKey (kl x) = true := WideAt.sameKey_self (T.key hx)
theorem KeyT.same (T : KeyT P K kv kl dom) {x y : Int} (hx : dom x) (hy : dom y) : (kl x).sameKey (kl y) = (x == y) := by
  by_cases h : x = y
  · subst h; rw [T.self hx]; simp
  · rw [sameKey_ne fun e => h (T.inj x y hx hy e)]; simp [h]
def KDom (dom : Int → Prop) (M : List (Int × ε)) : Prop := ∀ p ∈ M, dom p.1
theorem KDom.upd {a : Int} {v : ε} {M : List (Int × ε)} (h : KDom dom M) (ha : dom a) : KDom dom (upd a v M) := fun p hp => by
  rcases keys_upd.1 ⟨p.2, hp⟩ with h' | ⟨u, h'⟩
  · rw [h']; exact ha
  · exact h (p.1, u) h'

/-- The map as the reader reads it. -/
def mapD (kl : Int → Lit) (ed : ε → DU) (M : List (Int × ε)) : DU := .map (M.map fun p => (kl p.1, ed p.2))
variable {ed : ε → DU} {M : List (Int × ε)}
theorem mapD_size : Maps.size (mapD kl ed M) = M.length := by simp [mapD, Maps.size]
theorem mapD_find (T : KeyT P K kv kl dom) {a : Int} (ha : dom a) : ∀ {M : List (Int × ε)}, KDom dom M → (M.map fun p => (kl p.1, ed p.2)).find? (fun p => p.1.sameKey (kl a)) = (fnd a M).map fun u => (kl a, ed u)
  | [], _ => rfl
  | (x, u) :: r, h => by
    have hx : dom x := h (x, u) (by simp)
    have ih := mapD_find T ha (M := r) fun p hp => h p (by simp [hp])
    simp only [List.map_cons, List.find?_cons, T.same hx ha, fnd]
    by_cases e : x = a
    · subst e; simp
    · have : (x == a) = false := by simpa using e
      rw [this, if_neg e]
      exact ih
theorem mapD_at (T : KeyT P K kv kl dom) {a : Int} (ha : dom a) (h : KDom dom M) (z : DU) : (mapD kl ed M).atKey (kl a) z = match fnd a M with | some u => ed u | none => z := by
  unfold mapD DataW.atKey
  simp only
  rw [mapD_find T ha h]
  cases fnd a M <;> rfl
theorem mapD_has (T : KeyT P K kv kl dom) {a : Int} (ha : dom a) (h : KDom dom M) : Maps.has (mapD kl ed M) (kl a) = (fnd a M).isSome := by
  have h1 := mapD_find (ed := ed) T ha h
  unfold mapD Maps.has
  simp only
  rw [show ((M.map fun p => (kl p.1, ed p.2)).any fun p => p.1.sameKey (kl a)) = ((M.map fun p => (kl p.1, ed p.2)).find? fun p => p.1.sameKey (kl a)).isSome from (List.isSome_find? ..).symm, h1]
  cases fnd a M <;> rfl
theorem mapD_put (T : KeyT P K kv kl dom) {a : Int} (ha : dom a) (v : ε) (h : KDom dom M) (hs : KSrt M) : (mapD kl ed M).put (kl a) (ed v) = mapD kl ed (upd a v M) := by
  unfold mapD DataW.put
  simp only [DataW.map.injEq]
  induction M with
  | nil => rfl
  | cons q r ih =>
    obtain ⟨x, u⟩ := q
    have hx : dom x := h (x, u) (by simp)
    have hr : KDom dom r := fun p hp => h p (by simp [hp])
    obtain ⟨h1, h2⟩ := List.pairwise_cons.1 hs
    have keep : a ≤ x → (r.map fun p => (kl p.1, ed p.2)).filter (fun p => !p.1.sameKey (kl a)) = r.map fun p => (kl p.1, ed p.2) := fun hle => by
      refine List.filter_eq_self.2 fun p hp => ?_
      obtain ⟨y, hy, rfl⟩ := List.mem_map.1 hp
      have := h1 y hy
      simp only at this ⊢
      rw [T.same (hr y hy) ha]
      have : (y.1 == a) = false := by rw [beq_eq_false_iff_ne]; omega
      rw [this]
      rfl
    unfold upd
    by_cases e : x = a
    · subst e
      simp only [List.map_cons, List.filter_cons, T.self hx, Bool.not_true, Bool.false_eq_true, if_false, if_true]
      rw [keep (Int.le_refl _)]
      cases r with
      | nil => rfl
      | cons y r =>
        have hy : dom y.1 := hr y (by simp)
        have hlt : (kl x).before (kl y.1) = true := (T.before x y.1 hx hy).2 (h1 y (by simp))
        simp only [List.map_cons, DataW.insert, hlt, if_true]
    · have e1 : (kl x).sameKey (kl a) = false := by rw [T.same hx ha]; simpa using e
      simp only [List.map_cons, List.filter_cons, e1, Bool.not_false, if_true, if_neg e]
      by_cases hlt : a < x
      · rw [keep (Int.le_of_lt hlt), if_pos hlt]
        simp only [DataW.insert, (T.before a x ha hx).2 hlt, if_true, List.map_cons]
      · rw [if_neg hlt]
        have hb : ¬ (kl a).before (kl x) = true := fun hb => hlt ((T.before a x ha hx).1 hb)
        simp only [DataW.insert, if_neg hb, List.map_cons]
        rw [ih hr h2]

/-! ### in memory -/
/-- How elements stand in memory, and how they are read. -/
structure ElemT (R : RdU) (ev : ε → Value) (ed : ε → DU) (zv : Value) (zd : DU) : Prop where
  of : ∀ x, ∃ ps, R (ev x) = some (ed x, ps)
  zero : ∃ ps, R zv = some (zd, ps)
  inv : ∀ v x ps, R v = some (ed x, ps) → v = ev x
  invz : ∀ v ps, R v = some (zd, ps) → v = zv

def IsMapK (P : Program) (K : TypeId) (R : RdU) (kl : Int → Lit) (ed : ε → DU) (w : World) (b n : Nat) (M : List (Int × ε)) : Prop := w.ownsMap P K R b n (mapD kl ed M)
variable {R : RdU} {ev : ε → Value} {zv : Value} {zd : DU} {w w' : World} {b n : Nat}
theorem IsMapK.lt (h : IsMapK P K R kl ed w b n M) : b < w.heap.size := World.ownsMap.lt h
theorem IsMapK.below {B : Nat} (h : IsMapK P K R kl ed w b n M) (hb : Below B w w') (hlt : b < B) : IsMapK P K R kl ed w' b n M := by
  obtain ⟨es, clock, h1, h2⟩ := h
  exact ⟨es, clock, (hb.block b hlt).trans h1, h2⟩
theorem IsMapK.obj (h : IsMapK P K R kl ed w b n M) (hw : w'.heap[b]? = w.heap[b]?) : IsMapK P K R kl ed w' b n M := by
  obtain ⟨es, clock, h1, h2⟩ := h
  exact ⟨es, clock, hw.trans h1, h2⟩
theorem IsMapK.alloc (h : IsMapK P K R kl ed w b n M) (o : Obj) : IsMapK P K R kl ed (w.alloc o) b n M := World.ownsMap.alloc h o
theorem IsMapK.drew (h : IsMapK P K R kl ed w b n M) : IsMapK P K R kl ed w.drew b n M := h
theorem IsMapK.set (h : IsMapK P K R kl ed w b n M) {g j : Nat} {v : Value} (hg : b ≠ g) : IsMapK P K R kl ed (w.setCell ⟨g, j, none⟩ v) b n M := World.ownsMap.setCell h (a := ⟨g, j, none⟩) hg v
theorem IsMapK.mono {n' : Nat} (h : IsMapK P K R kl ed w b n M) (hn : n ≤ n') : IsMapK P K R kl ed w b n' M := World.ownsMap.mono h hn
theorem IsMapK.made (w : World) : IsMapK P K R kl ed (w.alloc (.map #[] 0)) w.heap.size 0 [] := World.ownsMap_made w P K R
theorem IsMapK.length_le (h : IsMapK P K R kl ed w b n M) : M.length ≤ n := by have := World.ownsMap.size_le h; rwa [mapD_size] at this

theorem IsMapK.look (T : KeyT P K kv kl dom) (E : ElemT R ev ed zv zd) (h : IsMapK P K R kl ed w b n M) (hM : KDom dom M) {t e : TypeId} (ht : P.underlying t = some (.map K e)) (hz : (zeroValue e).run P w = .ok zv w) {a : Int} (ha : dom a) :
    (Instr.lookup t (.map (some b)) (kv a) false).run P w = .ok (match fnd a M with | some u => ev u | none => zv) w := by
  obtain ⟨zp, hzd⟩ := E.zero
  obtain ⟨v, ps, hrun, hv⟩ := World.ownsMap.lookup h T.keyed ht hz hzd (T.of a ha)
  rw [mapD_at T ha hM] at hv
  rw [hrun]
  cases hf : fnd a M with
  | some u => rw [hf] at hv; rw [E.inv v u ps hv]
  | none => rw [hf] at hv; rw [E.invz v ps hv]
theorem IsMapK.lookOk (T : KeyT P K kv kl dom) (E : ElemT R ev ed zv zd) (h : IsMapK P K R kl ed w b n M) (hM : KDom dom M) {t e : TypeId} (ht : P.underlying t = some (.map K e)) (hz : (zeroValue e).run P w = .ok zv w) {a : Int} (ha : dom a) :
    (Instr.lookup t (.map (some b)) (kv a) true).run P w = .ok (.tuple #[match fnd a M with | some u => ev u | none => zv, .bool (fnd a M).isSome]) w := by
  obtain ⟨zp, hzd⟩ := E.zero
  obtain ⟨v, ps, hrun, hv⟩ := World.ownsMap.look_ok h T.keyed ht hz hzd (T.of a ha)
  rw [mapD_at T ha hM] at hv
  rw [hrun, mapD_has T ha hM]
  cases hf : fnd a M with
  | some u => rw [hf] at hv; rw [E.inv v u ps hv]
  | none => rw [hf] at hv; rw [E.invz v ps hv]
theorem IsMapK.len (h : IsMapK P K R kl ed w b n M) {t e : TypeId} (ht : P.underlying t = some (.map K e)) (ty : TypeId) : (Builtin.len_ #[t] ty #[.map (some b)]).run P w = .ok (.int .i64 M.length) w := by
  have := World.ownsMap.len h ht ty
  rwa [mapD_size] at this

/-- 'm[k] = v' at the operation. -/
theorem IsMapK.wp_store (T : KeyT P K kv kl dom) (E : ElemT R ev ed zv zd) (h : IsMapK P K R kl ed w b n M) (hM : KDom dom M) (hs : KSrt M) {t e : TypeId} (ht : P.underlying t = some (.map K e)) (hn : n < maxLen) {a : Int} (ha : dom a) {v : ε}
    {o : Oper} {act : Act} {Q : Exit → Act → World → Prop} {K' : Act → World → Prop} {m x y : Operand} (hop : o.op = Op.mapUpdate t m x y) (hm : act.eval m = .map (some b)) (hx : act.eval x = kv a) (hy : act.eval y = ev v)
    (hK : ∀ w', IsMapK P K R kl ed w' b (n + 1) (upd a v M) → w.mapTurned w' b → K' (act.put o.dst undef) w') : o.wp P act w K' Q := by
  obtain ⟨ps, hv⟩ := E.of v
  obtain ⟨w', hrun, h1, h2⟩ := World.ownsMap.store h T.keyed ht hn (T.of a ha) hv
  rw [mapD_put T ha v hM hs] at h1
  unfold Oper.wp
  simp only [execOp, hop, hm, hx, hy, Sem.run_bind, hrun, Result.andThen_ok, Sem.run_pure]
  exact hK w' h1 h2
theorem IsMapK.wpList_store (T : KeyT P K kv kl dom) (E : ElemT R ev ed zv zd) (h : IsMapK P K R kl ed w b n M) (hM : KDom dom M) (hs : KSrt M) {t e : TypeId} (ht : P.underlying t = some (.map K e)) (hn : n < maxLen) {a : Int} (ha : dom a) {v : ε}
    {ops : Array Oper} {rest : List Oper} {o : Oper} {act : Act} {Q : Exit → Act → World → Prop} {m x y : Operand} (hg : o.guard = none) (hop : o.op = Op.mapUpdate t m x y) (hm : act.eval m = .map (some b)) (hx : act.eval x = kv a) (hy : act.eval y = ev v)
    (hK : ∀ w', IsMapK P K R kl ed w' b (n + 1) (upd a v M) → w.mapTurned w' b → wpList P ops Q rest (act.put o.dst undef) w') : wpList P ops Q (o :: rest) act w :=
  wpList_plain hg fun _ hK' => h.wp_store T E hM hs ht hn ha hop hm hx hy fun w' h1 h2 => hK' _ _ (hK w' h1 h2)

/-! ### a range over it -/
/-- A range that is under way: S says of each key whether it is still to come. -/
def Rng (P : Program) (K : TypeId) (R : RdU) (kl : Int → Lit) (ed : ε → DU) (w : World) (b r n : Nat) (M : List (Int × ε)) (S : Int → Bool) (cnt : Nat) : Prop :=
  ∃ left, w.ranges P K R b r n (mapD kl ed M) left cnt ∧ ∀ p ∈ M, left (kl p.1) = S p.1
theorem Rng.left_eq {r cnt : Nat} {S : Int → Bool} (h : Rng P K R kl ed w b r n M S cnt) : w.rangeLeft b r = cnt := let ⟨_, h, _⟩ := h; h.left_eq
theorem Rng.owns {r cnt : Nat} {S : Int → Bool} (h : Rng P K R kl ed w b r n M S cnt) : IsMapK P K R kl ed w b n M := let ⟨_, h, _⟩ := h; h.owns
theorem Rng.lt {r cnt : Nat} {S : Int → Bool} (h : Rng P K R kl ed w b r n M S cnt) : r < w.heap.size := let ⟨_, h, _⟩ := h; h.lt
theorem Rng.ne {r cnt : Nat} {S : Int → Bool} (h : Rng P K R kl ed w b r n M S cnt) : r ≠ b := let ⟨_, h, _⟩ := h; h.ne
theorem Rng.obj {r cnt : Nat} {S : Int → Bool} (h : Rng P K R kl ed w b r n M S cnt) (h1 : w'.heap[b]? = w.heap[b]?) (h2 : w'.heap[r]? = w.heap[r]?) : Rng P K R kl ed w' b r n M S cnt := by
  obtain ⟨left, ⟨es, clock, since, seen, c0, hb, F, hs, hD, hr, rest⟩, hl⟩ := h
  exact ⟨left, ⟨es, clock, since, seen, c0, h1.trans hb, F, hs, hD, h2.trans hr, rest⟩, hl⟩
theorem Rng.below {r cnt B : Nat} {S : Int → Bool} (h : Rng P K R kl ed w b r n M S cnt) (hb : Below B w w') (h1 : b < B) (h2 : r < B) : Rng P K R kl ed w' b r n M S cnt := h.obj (hb.block b h1) (hb.block r h2)
theorem Rng.alloc {r cnt : Nat} {S : Int → Bool} (h : Rng P K R kl ed w b r n M S cnt) (o : Obj) : Rng P K R kl ed (w.alloc o) b r n M S cnt := let ⟨left, h1, h2⟩ := h; ⟨left, h1.alloc o, h2⟩
theorem Rng.iter {r cnt : Nat} {S : Int → Bool} (h : Rng P K R kl ed w b r n M S cnt) : ∃ since seen c0, w.heap[r]? = some (.mapIter (some b) since seen c0) := by
  obtain ⟨left, ⟨es, clock, since, seen, c0, hb, F, hs, hD, hr, rest⟩, hl⟩ := h
  exact ⟨since, seen, c0, hr⟩
theorem Rng.key {r cnt : Nat} {l : Lit} {left : Lit → Bool} (hr : w.ranges P K R b r n (mapD kl ed M) left cnt) (hl : left l = true) : ∃ p ∈ M, kl p.1 = l := by
  obtain ⟨es, clock, since, seen, c0, hb, F, hs, hD, hr, h1, h2, h3, h4, h5⟩ := hr
  obtain ⟨x, hx, rfl⟩ := h4 l hl
  have hm : WideElems.rg P K R x ∈ (es.toList.map (WideElems.rg P K R)).foldr DataW.insert [] := mem_sorted.2 (List.mem_map.2 ⟨x, hx, rfl⟩)
  have e : M.map (fun p => (kl p.1, ed p.2)) = (es.toList.map (WideElems.rg P K R)).foldr DataW.insert [] := by
    have := hD
    unfold mapD at this
    simpa using this
  rw [← e] at hm
  obtain ⟨p, hp, hq⟩ := List.mem_map.1 hm
  exact ⟨p, hp, by rw [← hq]⟩

theorem IsMapK.wpList_range (T : KeyT P K kv kl dom) (h : IsMapK P K R kl ed w b n M) (hM : KDom dom M) (hs : KSrt M) {t e : TypeId} (ht : P.underlying t = some (.map K e))
    {ops : Array Oper} {rest : List Oper} {o : Oper} {act : Act} {Q : Exit → Act → World → Prop} {m : Operand} (hg : o.guard = none) (hop : o.op = Op.range t m) (hm : act.eval m = .map (some b))
    (hK : ∀ w', Rng P K R kl ed w' b w.heap.size n M (fun _ => true) M.length → w.grownBy w' none → w'.heap.size = w.heap.size + 1 → wpList P ops Q rest (act.put o.dst (.pointer (some ⟨w.heap.size, 0, none⟩))) w') : wpList P ops Q (o :: rest) act w :=
  wpList_range_own w hg m t hop K e T.keyed ht R b n _ hm h fun w' h1 h2 h3 => hK w' ⟨_, by rw [mapD_size] at h1; exact h1, fun p hp => by
    rw [mapD_has T (hM p hp) hM, (fnd_some hs).2 (show (p.1, p.2) ∈ M from hp)]; rfl⟩ h2 h3

/-- One step of it. -/
theorem Rng.wpList_next (T : KeyT P K kv kl dom) (E : ElemT R ev ed zv zd) {r cnt : Nat} {S : Int → Bool} (h : Rng P K R kl ed w b r n M S cnt) (hM : KDom dom M) (hs : KSrt M)
    {ops : Array Oper} {rest : List Oper} {o : Oper} {act : Act} {Q : Exit → Act → World → Prop} {it : Operand} (hg : o.guard = none) (hop : o.op = Op.next it false) (hit : act.eval it = .pointer (some ⟨r, 0, none⟩))
    (hDone : (∀ p ∈ M, S p.1 = false) → wpList P ops Q rest (act.put o.dst (.tuple #[.bool false])) w)
    (hMore : ∀ (x : Int) (u : ε) (w' : World) (cnt' : Nat), (x, u) ∈ M → S x = true → Rng P K R kl ed w' b r n M (fun z => S z && !(z == x)) cnt' → cnt' < cnt → w.grownBy w' (some r) → w'.heap.size = w.heap.size →
      (Instr.entry (.pointer (some ⟨r, 0, none⟩))).run P w' = .ok (.tuple #[kv x, ev u]) w' → wpList P ops Q rest (act.put o.dst (.tuple #[.bool true, kv x, ev u])) w') : wpList P ops Q (o :: rest) act w := by
  refine wpList_plain hg fun K' hK' => ?_
  obtain ⟨left, hr, hl⟩ := h
  unfold Oper.wp
  rcases hr.next T.keyed o.type with ⟨h1, h2, hrun⟩ | ⟨key, v, l, y, w', cnt', hkey, hlk, hv, hat, hrun, hrg, hlt, hgr, hsz, hen⟩
  · simp only [execOp, hop, hit, Sem.run_bind, hrun, Result.andThen_ok]
    exact hK' _ _ (hDone fun p hp => by rw [← hl p hp]; exact h2 _)
  · obtain ⟨⟨x, u⟩, hp, rfl⟩ := Rng.key hr hlk
    obtain rfl : key = kv x := T.keyed.inj hkey (T.of x (hM _ hp))
    have hv2 : v = ev u := by
      have := hat zd
      rw [mapD_at T (hM _ hp) hM, (fnd_some hs).2 hp] at this
      obtain ⟨yd, ps⟩ := y
      simp only at this
      rw [← this] at hv
      exact E.inv v u ps hv
    subst hv2
    simp only [execOp, hop, hit, Sem.run_bind, hrun, Result.andThen_ok]
    refine hK' _ _ (hMore x u w' cnt' hp (by rw [← hl _ hp]; exact hlk) ⟨_, hrg, fun p hp' => ?_⟩ hlt hgr hsz hen)
    rw [hl p hp', T.same (hM p hp') (hM _ hp)]
end

/-! ### kinds of elements -/
def Rbool : RdU
  | .bool x => some (.lit (.bool x), [])
  | _ => none
def Rmap : RdU
  | .map (some r) => some (.lit (.int .i64 r), [])
  | .map none => some (.nil, [])
  | _ => none
def Rint : RdU
  | .int .i64 n => some (.lit (.int .i64 n), [])
  | _ => none
theorem elem_bool : ElemT Rbool (fun _ : Unit => .bool true) (fun _ => .lit (.bool true)) (.bool false) (.lit (.bool false)) where
  of _ := ⟨[], rfl⟩
  zero := ⟨[], rfl⟩
  inv v _ ps h := by cases v <;> simp_all [Rbool]
  invz v ps h := by cases v <;> simp_all [Rbool]
theorem elem_map : ElemT Rmap (fun r : Nat => .map (some r)) (fun r => .lit (.int .i64 r)) (.map none) .nil where
  of _ := ⟨[], rfl⟩
  zero := ⟨[], rfl⟩
  inv v x ps h := by
    unfold Rmap at h
    split at h <;> simp_all
    omega
  invz v ps h := by
    unfold Rmap at h
    split at h <;> simp_all
theorem elem_int : ElemT Rint (fun n : Int => .int .i64 n) (fun n => .lit (.int .i64 n)) (.int .i64 0) (.lit (.int .i64 0)) where
  of _ := ⟨[], rfl⟩
  zero := ⟨[], rfl⟩
  inv v x ps h := by
    unfold Rint at h
    split at h <;> simp_all
  invz v ps h := by
    unfold Rint at h
    split at h <;> simp_all
/-- Whole numbers stand for themselves. -/
def dI (x : Int) : Prop := (Lit.int .i64 x).wf = true
theorem keyT_int {P : Program} {K : TypeId} (hk : P.underlying K = some (.int .i64)) : KeyT P K (.int .i64) (.int .i64) dI where
  keyed := int_keyed hk
  of x hx := keyOf_int_mk hk hx
  before x y _ _ := by simp [Lit.before]
  inj x y _ _ h := by simpa using h
end Go.Proofs.YtogphaiomlfofaaGreatDoor
namespace Go.Proofs.YtogphaiomlfofaaGreatDoor
open Go.RowKit Go.Maps
set_option linter.unusedVariables false
set_option linter.unusedSimpArgs false
attribute [local irreducible] wpL

/-! ### what it is -/
structure Ce where
  val : Int
  ver : Int
def Ce.cells (c : Ce) : List Value := [.int .i64 c.val, .int .i64 c.ver]
theorem Ce.len (c : Ce) : c.cells.length = 2 := rfl
abbrev MI := List (Int × Int)
abbrev Wo := Option (MI × MI)
/-- What a thread does next. -/
inductive Nx where
  | none
  | ends (abort : Bool)
  | look
  | ans (e : Ev)
structure LM where
  W : Wst
  cs : List Ce
  ws : List Wo
  nx : List Nx
def reactOf (e : Ev) : Nx := if e.kind = 1 then .none else if e.kind = 7 then .ends true else if e.kind = 4 then .look else .ans e
def Wst.putO (s : Wst) (i : Nat) : Option (Th × Ev) → Wst
  | none => s
  | some y => s.put i y
/-- The cells behind those writes of s that have been done (S: those still to come). -/
def wrS (s : MI) (S : Int → Bool) (cs : List Ce) : List Ce := cs.mapIdx fun k c => match fnd (k : Int) s with
  | some v => if S k then c else ⟨v, c.ver + 1⟩
  | none => c
def verAt (cs : List Ce) (k : Int) : Int := match cs[k.toNat]? with
  | some c => c.ver
  | none => 0
def valAt (cs : List Ce) (k : Int) : Int := match cs[k.toNat]? with
  | some c => c.val
  | none => 0
def stands (r : MI) (cs : List Ce) : Bool := r.all fun p => verAt cs p.1 == p.2
/-- An answer: to a write, to a read of its own write, to a read. -/
def ansStep (P : Pg) (M : LM) (i : Nat) (t : Th) (e : Ev) (r s : MI) : LM :=
  if e.op = 2 then { M with W := M.W.putO i (ansOf P i t 0 false), ws := M.ws.set i (some (r, upd e.obj e.val s)) }
  else match fnd e.obj s with
    | some v => { M with W := M.W.putO i (ansOf P i t v false) }
    | none => { M with W := M.W.putO i (ansOf P i t (valAt M.cs e.obj) false), ws := if (fnd e.obj r).isSome then M.ws else M.ws.set i (some (upd e.obj (verAt M.cs e.obj) r, s)) }
def lookStep (P : Pg) (M : LM) (i : Nat) (t : Th) (r s : MI) : LM × Nx :=
  if stands r M.cs = true then ({ M with cs := wrS s (fun _ => false) M.cs }, .ends false)
  else ({ M with W := M.W.putO i (ansOf P i t 0 true) }, .none)
def ownStep (P : Pg) (M : LM) (i : Nat) (t : Th) : LM × Nx :=
  match nextOf P i t with
  | none => (M, .none)
  | some y => ({ M with W := M.W.put i y, ws := if y.2.kind = 1 then M.ws.set i (some ([], [])) else M.ws }, reactOf y.2)
/-- What thread i, that has not ended, does next. -/
def doStep (P : Pg) (M : LM) (i : Nat) (t : Th) (x : Nx) (r s : MI) : LM × Nx :=
  match x with
  | .none => ownStep P M i t
  | .ends b => ({ M with W := M.W.putO i (ansOf P i t 0 b) }, .none)
  | .look => lookStep P M i t r s
  | .ans e => (ansStep P M i t e r s, .none)

/-! ### where it lies -/
structure LC where
  B : Nat
  bM : Nat
  bD : Nat
  bW : Nat
  gT : Nat
  gN : Nat
  gW : Nat
  vc : Value
  vt : Value
  pc : Value
  pt : Value
  ce : Value
  /-- boxes of others, that stay -/
  F : Nat → Array Value → Prop
abbrev LC.rf (C : LC) : Value := .func (.func 53) #[.pointer (some ⟨C.bM, 0, none⟩)] #[]
def moC (u : Value × Value) : List Value := [u.1, u.2]
theorem moC_len (u : Value × Value) : (moC u).length = 2 := rfl
abbrev IsMI (w : World) (b n : Nat) (M : MI) : Prop := IsMapK Tryz.prog 3 Rint (Lit.int .i64) (fun n : Int => .lit (.int .i64 n)) w b n M
/-- Keys that name cells. -/
def KCe (r : MI) : Prop := ∀ p ∈ r, 0 ≤ p.1 ∧ p.1 < 4
theorem KCe.dom {r : MI} (h : KCe r) : KDom dI r := fun p hp => by have := h p hp; unfold dI Lit.wf; simp [IntKind.min, IntKind.max, IntKind.bits, IntKind.signed]; omega
theorem ksrt_len {ε : Type} : ∀ (l : List (Int × ε)) (a b : Int), KSrt l → (∀ p ∈ l, a ≤ p.1 ∧ p.1 < b) → (l.length : Int) ≤ max 0 (b - a)
  | [], a, b, _, _ => by simp; omega
  | x :: l, a, b, h, hb => by
    obtain ⟨h1, h2⟩ := List.pairwise_cons.1 h
    have h3 := hb x (by simp)
    have := ksrt_len l (x.1 + 1) b h2 fun p hp => ⟨by have := h1 p hp; omega, (hb p (by simp [hp])).2⟩
    simp only [List.length_cons]
    omega
theorem KCe.len {r : MI} (h : KCe r) (hs : KSrt r) : r.length ≤ 4 := by have := ksrt_len r 0 4 hs h; omega
/-- A worker's maps. -/
def WoAt (w : World) (B : Nat) (u : Value × Value) : Wo → Prop
  | none => u = (.map none, .map none)
  | some (r, s) => ∃ br bs, u = (.map (some br), .map (some bs)) ∧ B ≤ br ∧ B ≤ bs ∧ br ≠ bs ∧ IsMI w br r.length r ∧ IsMI w bs s.length s ∧ KCe r ∧ KSrt r ∧ KCe s ∧ KSrt s
def mbOf : Value → Option Nat
  | .map b => b
  | _ => none
def mbs (u : Value × Value) (b : Nat) : Prop := mbOf u.1 = some b ∨ mbOf u.2 = some b
/-- What is done next, as a function in memory. -/
def NxAt (w : World) (C : LC) (i : Nat) (ve v : Value) : Nx → Prop
  | .none => v = .nilFunc
  | .ends true => ∃ p1 p2, v = .func (.func 81) #[] #[.pointer (some ⟨p1, 0, none⟩), .pointer (some ⟨p2, 0, none⟩)] ∧ w.heap[p1]? = some (.cells #[.pointer (some ⟨C.bM, 0, none⟩)] 49 (0, 0)) ∧ w.heap[p2]? = some (.cells #[.int .i64 i] 3 (0, 0)) ∧ C.B ≤ p1 ∧ C.B ≤ p2
  | .ends false => ∃ p1 p2, v = .func (.func 126) #[] #[.pointer (some ⟨p1, 0, none⟩), .pointer (some ⟨p2, 0, none⟩)] ∧ w.heap[p1]? = some (.cells #[.pointer (some ⟨C.bM, 0, none⟩)] 49 (0, 0)) ∧ w.heap[p2]? = some (.cells #[.int .i64 i] 3 (0, 0)) ∧ C.B ≤ p1 ∧ C.B ≤ p2
  | .look => ∃ p1 p2, v = .func (.func 83) #[] #[.pointer (some ⟨p1, 0, none⟩), .pointer (some ⟨p2, 0, none⟩)] ∧ w.heap[p1]? = some (.cells #[.pointer (some ⟨C.bM, 0, none⟩)] 49 (0, 0)) ∧ w.heap[p2]? = some (.cells #[.int .i64 i] 3 (0, 0)) ∧ C.B ≤ p1 ∧ C.B ≤ p2
  | .ans e => ∃ p1 p2 p3, v = .func (.func 85) #[] #[.pointer (some ⟨p1, 0, none⟩), .pointer (some ⟨p2, 0, none⟩), .pointer (some ⟨p3, 0, none⟩)] ∧ w.heap[p1]? = some (.cells #[.pointer (some ⟨C.bM, 0, none⟩)] 49 (0, 0)) ∧ w.heap[p2]? = some (.cells #[.int .i64 i] 3 (0, 0)) ∧ w.heap[p3]? = some (.cells e.cells.toArray 46 (0, 0)) ∧ ve.ownBlock ≠ some p3 ∧ C.B ≤ p1 ∧ C.B ≤ p2 ∧ C.B ≤ p3
/-- The workers. -/
structure WksAt (w : World) (C : LC) (n : Nat) (us : List (Value × Value)) (ws : List Wo) : Prop where
  own : OwnF moC 162 2 w C.B (.slice (some ⟨C.gW, 0, none⟩) n n) us
  len : ws.length = n
  maps : ∀ (i : Nat) (u : Value × Value) (o : Wo), us[i]? = some u → ws[i]? = some o → WoAt w C.B u o
  apart : ∀ (i j : Nat) (u u' : Value × Value), us[i]? = some u → us[j]? = some u' → i ≠ j → ∀ b, mbs u b → ¬ mbs u' b
/-- The engine. -/
structure LaAt (w : World) (C : LC) (ve : Value) (us : List (Value × Value)) (P : Pg) (M : LM) : Prop where
  row : w.heap[C.bM]? = some (.cells #[.pointer (some ⟨C.bD, 0, none⟩), C.ce, .slice (some ⟨C.gW, 0, none⟩) P.threads.length P.threads.length] 96 (0, 0))
  hB : C.B ≤ C.bM
  dr : ∃ vs, DrAt w C.B C.bD C.bW C.gT C.gN C.vc C.vt ve C.pc C.pt C.rf P M.W vs ∧ M.nx.length = P.threads.length ∧ ∀ (i : Nat) (v : Value) (x : Nx), vs[i]? = some v → M.nx[i]? = some x → NxAt w C i ve v x
  cells : OwnF Ce.cells 101 2 w C.B C.ce M.cs
  clen : M.cs.length = P.cells.length
  wks : WksAt w C P.threads.length us M.ws
  fr : ∀ (k : Nat) (cs : Array Value), C.F k cs → w.heap[k]? = some (.cells cs 31 (0, 0))

/-! ### what keeps it -/
section
variable {w w' : World} {C : LC} {ve ve' : Value} {P : Pg} {M : LM} {us : List (Value × Value)}
theorem NxAt.keep {i : Nat} {v : Value} {x : Nx} (h : NxAt w C i ve v x)
    (h1 : ∀ (p : Nat) (u : Value), w.heap[p]? = some (.cells #[u] 49 (0, 0)) → w'.heap[p]? = some (.cells #[u] 49 (0, 0)))
    (h2 : ∀ (p : Nat) (u : Value), w.heap[p]? = some (.cells #[u] 3 (0, 0)) → w'.heap[p]? = some (.cells #[u] 3 (0, 0)))
    (h3 : ∀ (p : Nat) (cs : Array Value), w.heap[p]? = some (.cells cs 46 (0, 0)) → ve.ownBlock ≠ some p → w'.heap[p]? = some (.cells cs 46 (0, 0)) ∧ ve'.ownBlock ≠ some p) : NxAt w' C i ve' v x := by
  cases x with
  | none => exact h
  | ends b =>
    cases b
    · obtain ⟨p1, p2, hv, k1, k2, r⟩ := h
      exact ⟨p1, p2, hv, h1 _ _ k1, h2 _ _ k2, r⟩
    · obtain ⟨p1, p2, hv, k1, k2, r⟩ := h
      exact ⟨p1, p2, hv, h1 _ _ k1, h2 _ _ k2, r⟩
  | look =>
    obtain ⟨p1, p2, hv, k1, k2, r⟩ := h
    exact ⟨p1, p2, hv, h1 _ _ k1, h2 _ _ k2, r⟩
  | ans e =>
    obtain ⟨p1, p2, p3, hv, k1, k2, k3, k4, r⟩ := h
    obtain ⟨k5, k6⟩ := h3 _ _ k3 k4
    exact ⟨p1, p2, p3, hv, h1 _ _ k1, h2 _ _ k2, k5, k6, r⟩
theorem WoAt.keep {B : Nat} {u : Value × Value} {o : Wo} (h : WoAt w B u o) (hk : ∀ b : Nat, mbs u b → w'.heap[b]? = w.heap[b]?) : WoAt w' B u o := by
  cases o with
  | none => exact h
  | some p =>
    obtain ⟨br, bs, rfl, h1, h2, h3, h6, h7, h8⟩ := h
    exact ⟨br, bs, rfl, h1, h2, h3, h6.obj (hk br (.inl rfl)), h7.obj (hk bs (.inr rfl)), h8⟩
/-- Such a block holds a map. -/
theorem WoAt.isMap {B : Nat} {u : Value × Value} {o : Wo} (h : WoAt w B u o) : ∀ b, mbs u b → B ≤ b ∧ ∃ es c, w.heap[b]? = some (.map es c) := by
  cases o with
  | none =>
    obtain rfl := h
    rintro b (h | h) <;> cases h
  | some p =>
    obtain ⟨br, bs, rfl, h1, h2, h3, ⟨es, c, h6, -⟩, ⟨es', c', h7, -⟩, h8⟩ := h
    rintro b (h | h)
    · cases h; exact ⟨h1, es, c, h6⟩
    · cases h; exact ⟨h2, es', c', h7⟩
theorem WksAt.at {n : Nat} {us : List (Value × Value)} {ws : List Wo} (h : WksAt w C n us ws) {i : Nat} {u : Value × Value} (hu : us[i]? = some u) : ∃ o, ws[i]? = some o ∧ WoAt w C.B u o := by
  have hl := h.own.len
  have hi : i < us.length := (List.getElem?_eq_some_iff.1 hu).1
  obtain ⟨o, ho⟩ : ∃ o, ws[i]? = some o := ⟨_, List.getElem?_eq_getElem (by rw [h.len]; omega)⟩
  exact ⟨o, ho, h.maps i u o hu ho⟩
theorem WksAt.keep {n : Nat} {us : List (Value × Value)} {ws : List Wo} (h : WksAt w C n us ws)
    (h1 : OwnF moC 162 2 w' C.B (.slice (some ⟨C.gW, 0, none⟩) n n) us)
    (hk : ∀ (b : Nat) (es : Array MapEntry) (c : Nat), w.heap[b]? = some (.map es c) → w'.heap[b]? = some (.map es c)) : WksAt w' C n us ws :=
  ⟨h1, h.len, fun i u o hu ho => (h.maps i u o hu ho).keep fun b hb => by
    obtain ⟨-, es, c, hm⟩ := (h.maps i u o hu ho).isMap b hb
    rw [hk b es c hm, hm], h.apart⟩
theorem LaAt.below (h : LaAt w C ve us P M) (hb : Below w.heap.size w w') : LaAt w' C ve us P M := by
  obtain ⟨vs, h1, h2, h3⟩ := h.dr
  refine ⟨row_below h.row hb (row_lt h.row), h.hB, ⟨vs, h1.below hb, h2, fun i v x hv hx => NxAt.keep (h3 i v x hv hx) (fun p u hp => row_below hp hb (row_lt hp)) (fun p u hp => row_below hp hb (row_lt hp)) fun p cs hp he => ⟨row_below hp hb (row_lt hp), he⟩⟩, OwnF.below h.cells hb, h.clen, ?_, fun k cs hf => row_below (h.fr k cs hf) hb (row_lt (h.fr k cs hf))⟩
  exact h.wks.keep (OwnF.below h.wks.own hb) fun b es c hm => row_below hm hb (row_lt hm)
/-- The walk has gone on. -/
theorem LaAt.walked {S' : Wst} (h : LaAt w C ve us P M) (hk : Kp Mw ve w w') (hw : WkAt w' C.B C.bW C.gT C.vc C.vt ve' P S') (ho : ∀ k, ve'.ownBlock = some k → ve.ownBlock = some k ∨ w.heap.size ≤ k) : LaAt w' C ve' us P { M with W := S' } := by
  obtain ⟨vs, h1, h2, h3⟩ := h.dr
  refine ⟨hk.rowW h.row (by decide) (by decide) (by decide), h.hB, ⟨vs, h1.walked hk hw, h2, fun i v x hv hx => NxAt.keep (h3 i v x hv hx) (fun p u hp => hk.rowW hp (by decide) (by decide) (by decide)) (fun p u hp => hk.rowW hp (by decide) (by decide) (by decide)) fun p cs hp he => ⟨hk.cells p cs _ _ hp (by unfold Mw; decide) (fun _ => he), fun e => ?_⟩⟩, OwnF.kpW h.cells hk (by decide) (by decide) (by decide), h.clen, ?_, fun k cs hf => hk.rowW (h.fr k cs hf) (by decide) (by decide) (by decide)⟩
  · rcases ho p e with h | h
    · exact he h
    · have := row_lt hp; omega
  · exact h.wks.keep (OwnF.kpW h.wks.own hk (by decide) (by decide) (by decide)) fun b es c hm => hk.maps b es c hm
end

/-! ### cells of one type are written, or a map -/
/-- Blocks of cells of all types but those of M stay. -/
def Kd (M : TypeId → Prop) (w w' : World) : Prop := ∀ (k : Nat) (cs : Array Value) (t : TypeId) (fz : Nat × Nat), w.heap[k]? = some (.cells cs t fz) → ¬ M t → w'.heap[k]? = some (.cells cs t fz)
def KmAll (w w' : World) : Prop := ∀ (b : Nat) (es : Array MapEntry) (c : Nat), w.heap[b]? = some (.map es c) → w'.heap[b]? = some (.map es c)
theorem turned_other {w w' : World} {b i : Nat} (h : w.mapTurned w' b) (hi : i ≠ b) : w'.heap[i]? = w.heap[i]? := by
  obtain ⟨es, c, es', c', hb, rfl⟩ := h
  exact Go.ChangeMaps.heap_setBlock_other hb _ hi
theorem turned_size {w w' : World} {b : Nat} (h : w.mapTurned w' b) : w'.heap.size = w.heap.size := by
  obtain ⟨es, c, es', c', hb, rfl⟩ := h
  simp [ChangeMaps.setBlock]
theorem Below.turned {w w' : World} {b B : Nat} (h : w.mapTurned w' b) (hB : B ≤ b) : Below B w w' := by
  obtain ⟨es, c, es', c', hb, rfl⟩ := h
  exact ⟨rfl, rfl, rfl, by simp [ChangeMaps.setBlock], fun i hi => Go.ChangeMaps.heap_setBlock_other hb _ (by omega)⟩
section
variable {w w' w1 : World} {C : LC} {ve ve' : Value} {P : Pg} {M : LM} {us : List (Value × Value)} {T T' : TypeId → Prop}
theorem Kd.refl (w : World) : Kd T w w := fun _ _ _ _ h _ => h
theorem Kd.trans (h : Kd T w w1) (k : Kd T w1 w') : Kd T w w' := fun b cs t fz hb ht => k b cs t fz (h b cs t fz hb ht) ht
theorem Kd.below (h : Below w.heap.size w w') : Kd T w w' := fun _ _ _ _ hb _ => row_below hb h (row_lt hb)
theorem Kd.set {g j : Nat} {cs : Array Value} {t : TypeId} {fz : Nat × Nat} (hg : w.heap[g]? = some (.cells cs t fz)) (ht : T t) (v : Value) : Kd T w (w.setCell ⟨g, j, none⟩ v) := fun b cs' t' fz' hb hT => row_other hb (by
  rintro rfl
  rw [hg] at hb
  simp only [Option.some.injEq, Obj.cells.injEq] at hb
  exact hT (hb.2.1 ▸ ht))
theorem Kd.turned {b : Nat} (h : w.mapTurned w' b) : Kd T w w' := fun k cs t fz hk _ => (turned_other h (by
  rintro rfl
  obtain ⟨es, c, es', c', hb, -⟩ := h
  rw [hb] at hk
  cases hk)).trans hk
theorem KmAll.refl (w : World) : KmAll w w := fun _ _ _ h => h
theorem KmAll.trans (h : KmAll w w1) (k : KmAll w1 w') : KmAll w w' := fun b es c hb => k b es c (h b es c hb)
theorem KmAll.below (h : Below w.heap.size w w') : KmAll w w' := fun _ _ _ hb => row_below hb h (row_lt hb)
theorem KmAll.set {g j : Nat} {cs : Array Value} {t : TypeId} {fz : Nat × Nat} (hg : w.heap[g]? = some (.cells cs t fz)) (v : Value) : KmAll w (w.setCell ⟨g, j, none⟩ v) := fun b es c hb => row_other hb (by
  rintro rfl
  rw [hg] at hb
  cases hb)
theorem OwnF.kd {α : Type} {f : α → List Value} {e : TypeId} {sz B : Nat} {v : Value} {l : List α} (h : OwnF f e sz w B v l) (hk : Kd T w w') (he : ¬ T e) : OwnF f e sz w' B v l := by
  obtain ⟨h1, h2⟩ := h
  refine ⟨h1, ?_⟩
  rcases h2 with h2 | ⟨g, cap, cur, rfl, hg, hh, r⟩
  · exact .inl h2
  · exact .inr ⟨g, cap, cur, rfl, hg, hk g cur e _ hh he, r⟩
theorem OwnThr.kd {B : Nat} {v : Value} {l : List (List (List Ac))} (h : OwnThr w B v l) (hk : Kd T w w') (h0 : ¬ T 68) (h1 : ¬ T 67) (h2 : ¬ T 70) : OwnThr w' B v l :=
  h.map (fun _ h => OwnF.kd h hk h0) (fun _ _ h => h.map (fun _ h => OwnF.kd h hk h1) (fun _ _ h => OwnF.kd h hk h2))
def Ml (t : TypeId) : Prop := t = 101 ∨ t = 162
theorem WkAt.kd {B bW gT : Nat} {vc vt : Value} {S : Wst} (h : WkAt w B bW gT vc vt ve P S) (hk : Kd Ml w w') : WkAt w' B bW gT vc vt ve P S :=
  ⟨hk _ _ _ _ h.row (by unfold Ml; decide), h.hB, OwnF.kd h.cells hk (by unfold Ml; decide), h.thr.kd hk (by unfold Ml; decide) (by unfold Ml; decide) (by unfold Ml; decide), OwnF.kd h.ths hk (by unfold Ml; decide), OwnF.kd h.evs hk (by unfold Ml; decide), h.ok, h.tok⟩
theorem DrAt.kd {B bD bW gT gN : Nat} {vc vt pc pt rf : Value} {S : Wst} {nx : List Value} (h : DrAt w B bD bW gT gN vc vt ve pc pt rf P S nx) (hk : Kd Ml w w') : DrAt w' B bD bW gT gN vc vt ve pc pt rf P S nx :=
  ⟨hk _ _ _ _ h.row (by unfold Ml; decide), h.hB, h.walk.kd hk, OwnF.kd h.pcells hk (by unfold Ml; decide), h.pthr.kd hk (by unfold Ml; decide) (by unfold Ml; decide) (by unfold Ml; decide), OwnF.kd h.next hk (by unfold Ml; decide)⟩
/-- Cells or workers are others. -/
theorem LaAt.turn {us' : List (Value × Value)} {cs' : List Ce} {ws' : List Wo} (h : LaAt w C ve us P M) (hk : Kd Ml w w') (hce : OwnF Ce.cells 101 2 w' C.B C.ce cs') (hcl : cs'.length = P.cells.length) (hwk : WksAt w' C P.threads.length us' ws') : LaAt w' C ve us' P { M with cs := cs', ws := ws' } := by
  obtain ⟨vs, h1, h2, h3⟩ := h.dr
  exact ⟨hk _ _ _ _ h.row (by unfold Ml; decide), h.hB, ⟨vs, h1.kd hk, h2, fun i v x hv hx => NxAt.keep (h3 i v x hv hx) (fun p u hp => hk _ _ _ _ hp (by unfold Ml; decide)) (fun p u hp => hk _ _ _ _ hp (by unfold Ml; decide)) fun p cs hp he => ⟨hk _ _ _ _ hp (by unfold Ml; decide), he⟩⟩, hce, hcl, hwk, fun k cs hf => hk _ _ _ _ (h.fr k cs hf) (by unfold Ml; decide)⟩
/-- Boxes of others. -/
theorem LaAt.frame (h : LaAt w C ve us P M) {F' : Nat → Array Value → Prop} (hf : ∀ (k : Nat) (cs : Array Value), F' k cs → w.heap[k]? = some (.cells cs 31 (0, 0))) : LaAt w { C with F := F' } ve us P M := by
  obtain ⟨vs, h1, h2, h3⟩ := h.dr
  refine ⟨h.row, h.hB, ⟨vs, h1, h2, fun i v x hv hx => ?_⟩, h.cells, h.clen, ⟨h.wks.own, h.wks.len, h.wks.maps, h.wks.apart⟩, hf⟩
  have := h3 i v x hv hx
  cases x with
  | none => exact this
  | ends b => cases b <;> exact this
  | look => exact this
  | ans e => exact this
/-- A map of a worker's is another. -/
theorem WksAt.store {n : Nat} {ws : List Wo} (h : WksAt w C n us ws) {i b : Nat} {u : Value × Value} {o' : Wo} (hu : us[i]? = some u) (hb : mbs u b) (ht : w.mapTurned w' b) (hw : WoAt w' C.B u o') : WksAt w' C n us (ws.set i o') := by
  refine ⟨OwnF.kd h.own (Kd.turned (T := fun _ => False) ht) (fun h => h), by rw [List.length_set]; exact h.len, fun j v o hv ho => ?_, h.apart⟩
  by_cases e : i = j
  · subst e
    rw [hu] at hv
    obtain rfl := Option.some.inj hv
    rw [List.getElem?_set_self (by have := (List.getElem?_eq_some_iff.1 ho).1; simpa using this)] at ho
    rw [← Option.some.inj ho]
    exact hw
  · rw [List.getElem?_set_ne e] at ho
    refine (h.maps j v o hv ho).keep fun b' hb' => turned_other ht ?_
    rintro rfl
    exact h.apart i j u v hu hv e _ hb hb'
/-- New maps. -/
theorem WksAt.begin {n : Nat} {ws : List Wo} (h : WksAt w C n us ws) {i : Nat} {u : Value × Value} {o' : Wo} (hm : KmAll w w') (h1 : OwnF moC 162 2 w' C.B (.slice (some ⟨C.gW, 0, none⟩) n n) (us.set i u)) (hnew : ∀ b, mbs u b → w.heap.size ≤ b) (hw : WoAt w' C.B u o') : WksAt w' C n (us.set i u) (ws.set i o') := by
  refine ⟨h1, by rw [List.length_set]; exact h.len, fun j v o hv ho => ?_, fun j k v v' hv hv' hne b hb hb' => ?_⟩
  · by_cases e : i = j
    · subst e
      rw [List.getElem?_set_self (by have := (List.getElem?_eq_some_iff.1 ho).1; simpa using this)] at ho
      rw [List.getElem?_set_self (by have := (List.getElem?_eq_some_iff.1 hv).1; simpa using this)] at hv
      rw [← Option.some.inj ho, ← Option.some.inj hv]
      exact hw
    · rw [List.getElem?_set_ne e] at ho hv
      refine (h.maps j v o hv ho).keep fun b' hb' => ?_
      obtain ⟨-, es, c, hh⟩ := (h.maps j v o hv ho).isMap b' hb'
      rw [hm _ _ _ hh, hh]
  · have old : ∀ (j : Nat) (v : Value × Value), us[j]? = some v → ∀ b, mbs v b → b < w.heap.size := fun j v hv b hb => by
      obtain ⟨o, -, ho⟩ := h.at hv
      obtain ⟨-, es, c, hh⟩ := ho.isMap b hb
      exact row_lt hh
    by_cases e : i = j
    · subst e
      rw [List.getElem?_set_self (by have := (List.getElem?_eq_some_iff.1 hv).1; simpa using this)] at hv
      rw [List.getElem?_set_ne hne] at hv'
      obtain rfl := Option.some.inj hv
      have := hnew b hb
      have := old k v' hv' b hb'
      omega
    · rw [List.getElem?_set_ne e] at hv
      by_cases e2 : i = k
      · subst e2
        rw [List.getElem?_set_self (by have := (List.getElem?_eq_some_iff.1 hv').1; simpa using this)] at hv'
        obtain rfl := Option.some.inj hv'
        have := hnew b hb'
        have := old j v hv b hb
        omega
      · rw [List.getElem?_set_ne e2] at hv'
        exact h.apart j k v v' hv hv' hne b hb hb'
end

/-! ### one element written -/
theorem flat_set1 : ∀ (l : List Value) (k : Nat) (u : Value), (l.flatMap valC).set k u = (l.set k u).flatMap valC := fun l k u => by rw [flat_val, flat_val]
theorem flat_set2 {α : Type} {f : α → List Value} (hf : ∀ x, (f x).length = 2) {u : α} {a b : Value} (hu : f u = [a, b]) : ∀ (l : List α) (k : Nat), ((l.flatMap f).set (k * 2) a).set (k * 2 + 1) b = (l.set k u).flatMap f
  | [], k => by simp
  | x :: l, 0 => by
    have h := hf x
    match hx : f x, h with
    | [p, q], _ => simp [hx, hu]
  | x :: l, k + 1 => by
    have ih := flat_set2 hf hu l k
    have h := hf x
    match hx : f x, h with
    | [p, q], _ =>
      rw [show (k + 1) * 2 = k * 2 + 1 + 1 by omega]
      simp [hx, ih]
theorem own_set2 {α : Type} {f : α → List Value} {e : TypeId} {w : World} {B g n c : Nat} {l : List α} (h : OwnF f e 2 w B (.slice (some ⟨g, 0, none⟩) n c) l) (hf : ∀ x, (f x).length = 2) {u : α} {a b : Value} (hu : f u = [a, b]) (k : Nat) :
    OwnF f e 2 ((w.setCell ⟨g, k * 2, none⟩ a).setCell ⟨g, k * 2 + 1, none⟩ b) B (.slice (some ⟨g, 0, none⟩) n c) (l.set k u) := by
  have hn := h.len
  subst hn
  have := ownsRow_set (ownsRow_set h (k * 2) a) (k * 2 + 1) b
  rw [flat_set2 hf hu] at this
  unfold OwnF
  rw [List.length_set]
  exact this
theorem own_set1 {e : TypeId} {w : World} {B g n c : Nat} {l : List Value} (h : OwnF valC e 1 w B (.slice (some ⟨g, 0, none⟩) n c) l) (u : Value) (k : Nat) : OwnF valC e 1 (w.setCell ⟨g, k, none⟩ u) B (.slice (some ⟨g, 0, none⟩) n c) (l.set k u) := by
  have hn := h.len
  subst hn
  have := ownsRow_set h k u
  rw [flat_set1] at this
  unfold OwnF
  rw [List.length_set]
  exact this
end Go.Proofs.YtogphaiomlfofaaGreatDoor
