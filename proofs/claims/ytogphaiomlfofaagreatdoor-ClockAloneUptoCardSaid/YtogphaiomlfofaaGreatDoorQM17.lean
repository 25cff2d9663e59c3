/- The automaton of well-formed histories in memory: where it lies, what keeps it. A region that draws its order of evaluation, walked along a tree of orders; what is asked of an operation is that it keeps the blocks of a set N. The automaton of well-formed histories: its moves. Small functions that the automaton of well-formed histories calls. Conditions: those of each theorem, as typed. Merged by program out of 4 texts. -/
import Derived.Test.YtogphaiomlfofaaGreatDoorQM16
import Derived.Test.YtogphaiomlfofaaGreatDoorQM03
import Derived.Test.YtogphaiomlfofaaGreatDoorQM10
set_option linter.unusedVariables false
set_option linter.unusedSimpArgs false
namespace Go.Proofs.YtogphaiomlfofaaGreatDoor
open Go.RowKit Go.Maps
set_option linter.unusedVariables false
set_option linter.unusedSimpArgs false
attribute [local irreducible] wpL

structure Chg (S : Nat → Prop) (w w' : World) : Prop where
  os : w'.os = w.os
  tape : w'.tape = w.tape
  output : w'.output = w.output
  size : w.heap.size ≤ w'.heap.size
  keep : ∀ k, k < w.heap.size → ¬ S k → w'.heap[k]? = w.heap[k]?
section
variable {S T : Nat → Prop} {w w' w1 : World}
theorem Chg.refl (w : World) : Chg S w w := ⟨rfl, rfl, rfl, Nat.le_refl _, fun _ _ _ => rfl⟩
theorem Chg.trans (h : Chg S w w1) (k : Chg T w1 w') (hT : ∀ j, j < w.heap.size → T j → S j) : Chg S w w' :=
  ⟨k.os.trans h.os, k.tape.trans h.tape, k.output.trans h.output, Nat.le_trans h.size k.size, fun j hj hs => (k.keep j (Nat.lt_of_lt_of_le hj h.size) fun ht => hs (hT j hj ht)).trans (h.keep j hj hs)⟩
theorem Chg.mono (h : Chg S w w') (hS : ∀ j, S j → T j) : Chg T w w' := ⟨h.os, h.tape, h.output, h.size, fun j hj ht => h.keep j hj fun hs => ht (hS j hs)⟩
theorem Chg.of_below (h : Below w.heap.size w w') : Chg S w w' := ⟨h.os, h.tape, h.output, h.size, fun j hj _ => h.block j hj⟩
theorem Chg.below {B : Nat} (h : Chg S w w') (hS : ∀ j, S j → B ≤ j) (hB : B ≤ w.heap.size) : Below B w w' := ⟨h.os, h.tape, h.output, h.size, fun j hj => h.keep j (by omega) fun hs => by have := hS j hs; omega⟩
theorem Chg.set (h : Chg S w w') {g j : Nat} {v : Value} (hg : S g) : Chg S w (w'.setCell ⟨g, j, none⟩ v) :=
  ⟨h.os, h.tape, h.output, by have := h.size; rw [show (w'.setCell ⟨g, j, none⟩ v).heap.size = w'.heap.size from by simp]; exact this, fun k hk hs => (Go.RowKit.Below.heap_setCell _ _ _ _ (by rintro rfl; exact hs hg)).trans (h.keep k hk hs)⟩
theorem Chg.alloc (h : Chg S w w') (o : Obj) : Chg S w (w'.alloc o) := ⟨h.os, h.tape, h.output, by have := h.size; simp; omega, fun k hk hs => (heap_alloc_old w' o (by have := h.size; omega)).trans (h.keep k hk hs)⟩
theorem Chg.drew (h : Chg S w w') : Chg S w w'.drew := ⟨h.os, h.tape, h.output, h.size, h.keep⟩
theorem Chg.turned {b : Nat} (h : w.mapTurned w' b) (hb : S b) : Chg S w w' := by
  obtain ⟨es, c, es', c', hh, rfl⟩ := h
  exact ⟨rfl, rfl, rfl, by simp [ChangeMaps.setBlock], fun k hk hs => Go.ChangeMaps.heap_setBlock_other hh _ (by rintro rfl; exact hs hb)⟩
theorem Chg.grw {v v' : Value} (h : Grw w w' v v') (hv : ∀ k, v.ownBlock = some k → S k) : Chg S w w' :=
  ⟨h.grown.os, h.grown.tape, h.grown.output, h.grown.size, fun k hk hs => h.grown.block k hk fun e => hs (hv k e.symm)⟩
theorem Chg.row {g : Nat} {x : Obj} (h : Chg S w w') (hg : w.heap[g]? = some x) (hs : ¬ S g) : w'.heap[g]? = some x := (h.keep g (row_lt hg) hs).trans hg
theorem OwnF.typ {α : Type} {f : α → List Value} {e : TypeId} {sz B : Nat} {v : Value} {l : List α} (h : OwnF f e sz w B v l) {g : Nat} (hg : v.ownBlock = some g) : ∃ cs fz, w.heap[g]? = some (.cells cs e fz) := by
  obtain ⟨-, h2⟩ := h
  rcases h2 with ⟨rfl, -⟩ | ⟨g', cap, cur, rfl, -, hh, -⟩
  · cases hg
  · simp only [Value.ownBlock, Option.some.injEq] at hg
    subst hg
    exact ⟨_, _, hh⟩
theorem OwnF.chg {α : Type} {f : α → List Value} {e : TypeId} {sz B : Nat} {v : Value} {l : List α} (h : OwnF f e sz w B v l) (hc : Chg S w w') (hs : ∀ g, v.ownBlock = some g → ¬ S g) : OwnF f e sz w' B v l := by
  obtain ⟨h1, h2⟩ := h
  refine ⟨h1, ?_⟩
  rcases h2 with h2 | ⟨g, cap, cur, rfl, hg, hh, r⟩
  · exact .inl h2
  · exact .inr ⟨g, cap, cur, rfl, hg, hc.row hh (hs g rfl), r⟩
theorem RawM.chg {b : Nat} {M : Int → Option Value} (h : RawM w b M) (hc : Chg S w w') (hs : ¬ S b) : RawM w' b M := h.obj (hc.keep b h.lt hs)
end

/-! ### where it lies -/
def stCs (s : St) (dv : Value) : List Value := [.int .i64 s.id, .int .i64 s.thread, .int .i64 s.status, .int .i64 s.beg, .int .i64 s.fin, .int .i64 s.tri, dv, .int .i64 s.stand]
abbrev OwnD (w : World) (B : Nat) (v : Value) (l : List Dd) : Prop := OwnF Dd.cells 43 8 w B v l
structure StAt (w : World) (B : Nat) (p : Nat × Value) (s : St) : Prop where
  row : w.heap[p.1]? = some (.cells (stCs s p.2).toArray 150 (0, 0))
  hB : B ≤ p.1
  dds : OwnD w B p.2 s.deeds
def stS (p : Nat × Value) : Nat → Prop := fun k => k = p.1 ∨ p.2.ownBlock = some k
def ptrV (g : Nat) : Value := .pointer (some ⟨g, 0, none⟩)
structure AuIn (w : World) (B bA bY bZ : Nat) (ov tv : Value) (os : List Ob) (n : Nat) (A : Au) (Z : Int → Prop) (bs : List (Nat × Value)) : Prop where
  row : w.heap[bA]? = some (.cells #[ov, .int .i64 n, tv, .map (some bY), .map (some bZ)] 147 (0, 0))
  hB : B ≤ bA
  obs : OwnF Ob.cells 120 2 w B ov os
  txs : OwnF valC 148 1 w B tv (bs.map fun p => ptrV p.1)
  len : bs.length = A.length
  sts : ∀ (k : Nat) (p : Nat × Value) (s : St), bs[k]? = some p → A[k]? = some s → StAt w B p s
  nod : (bs.map (·.1)).Nodup
  dis : ∀ (j k : Nat) (p q : Nat × Value), bs[j]? = some p → bs[k]? = some q → j ≠ k → ∀ g, p.2.ownBlock = some g → q.2.ownBlock ≠ some g
  by_ : B ≤ bY ∧ ∃ M, RawM w bY M ∧ (∀ (k : Nat) (p : Nat × Value) (s : St), bs[k]? = some p → A[k]? = some s → M s.id = some (ptrV p.1)) ∧ ∀ x, ¬ hasId x A → M x = none
  bz : B ≤ bZ ∧ ∃ M, RawM w bZ M ∧ ∀ x, ¬ Z x → M x = none
  ne : bY ≠ bZ
def AuAt (w : World) (B bA : Nat) (os : List Ob) (n : Nat) (A : Au) : Prop := ∃ bY bZ ov tv bs, AuIn w B bA bY bZ ov tv os n A (fun x => isBusy x A) bs
section
variable {w w' : World} {B bA bY bZ n : Nat} {ov tv : Value} {os : List Ob} {A : Au} {Z : Int → Prop} {bs : List (Nat × Value)}
theorem StAt.typ {p : Nat × Value} {s : St} (h : StAt w B p s) {k : Nat} (hk : stS p k) : ∃ cs t fz, w.heap[k]? = some (.cells cs t fz) ∧ (t = 150 ∨ t = 43) := by
  rcases hk with rfl | hk
  · exact ⟨_, _, _, h.row, .inl rfl⟩
  · obtain ⟨cs, fz, hh⟩ := OwnF.typ h.dds hk
    exact ⟨_, _, _, hh, .inr rfl⟩
theorem StAt.ge {p : Nat × Value} {s : St} (h : StAt w B p s) {k : Nat} (hk : stS p k) : B ≤ k := by
  rcases hk with rfl | hk
  · exact h.hB
  · exact (OwnF.lt h.dds k hk).1
theorem StAt.notCells {p : Nat × Value} {s : St} (h : StAt w B p s) {g : Nat} {cs : Array Value} {t : TypeId} {fz : Nat × Nat} (hg : w.heap[g]? = some (.cells cs t fz)) (h1 : t ≠ 150) (h2 : t ≠ 43) : ¬ stS p g := fun hk => by
  obtain ⟨cs', t', fz', hh, ht⟩ := h.typ hk
  rw [hg] at hh
  simp only [Option.some.injEq, Obj.cells.injEq] at hh
  rcases ht with ht | ht
  · exact h1 (hh.2.1.trans ht)
  · exact h2 (hh.2.1.trans ht)
theorem StAt.notMap {p : Nat × Value} {s : St} (h : StAt w B p s) {g : Nat} (hg : ∃ es c, w.heap[g]? = some (.map es c)) : ¬ stS p g := fun hk => by
  obtain ⟨cs', t', fz', hh, -⟩ := h.typ hk
  obtain ⟨es, c, hg⟩ := hg
  rw [hg] at hh
  cases hh
theorem AuIn.get (h : AuIn w B bA bY bZ ov tv os n A Z bs) {k : Nat} {s : St} (hs : A[k]? = some s) : ∃ p, bs[k]? = some p ∧ StAt w B p s := by
  have hk := (List.getElem?_eq_some_iff.1 hs).1
  obtain ⟨p, hp⟩ : ∃ p, bs[k]? = some p := ⟨_, List.getElem?_eq_getElem (by rw [h.len]; exact hk)⟩
  exact ⟨p, hp, h.sts k p s hp hs⟩
theorem AuIn.apart (h : AuIn w B bA bY bZ ov tv os n A Z bs) {j k : Nat} {p q : Nat × Value} {s t : St} (hp : bs[j]? = some p) (hq : bs[k]? = some q) (hs : A[j]? = some s) (ht : A[k]? = some t) (hne : j ≠ k) {g : Nat} (hg : stS p g) : ¬ stS q g := by
  have hj := (List.getElem?_eq_some_iff.1 hp).1
  rcases hg with rfl | hg
  · rintro (hk | hk)
    · have := (List.getElem?_inj (i := j) (j := k) (by simpa using hj) h.nod).1 (by simp [hp, hq, hk])
      exact hne this
    · obtain ⟨cs, fz, hh⟩ := OwnF.typ (h.sts k q t hq ht).dds hk
      rw [(h.sts j p s hp hs).row] at hh
      simp at hh
  · rintro (hk | hk)
    · obtain ⟨cs, fz, hh⟩ := OwnF.typ (h.sts j p s hp hs).dds hg
      rw [hk, (h.sts k q t hq ht).row] at hh
      simp at hh
    · exact h.dis j k p q hp hq hne g hg hk
theorem StAt.chg {S : Nat → Prop} {p : Nat × Value} {s : St} (h : StAt w B p s) (hc : Chg S w w') (hs : ∀ g, stS p g → ¬ S g) : StAt w' B p s := ⟨hc.row h.row (hs _ (.inl rfl)), h.hB, OwnF.chg h.dds hc fun g hg => hs g (.inr hg)⟩
theorem AuIn.chg {S : Nat → Prop} (h : AuIn w B bA bY bZ ov tv os n A Z bs) (hc : Chg S w w') (hS : ∀ k, k < w.heap.size → ¬ S k) : AuIn w' B bA bY bZ ov tv os n A Z bs := by
  have hw : ∀ k x, w.heap[k]? = some x → ¬ S k := fun k x hx => hS k (row_lt hx)
  refine ⟨hc.row h.row (hw _ _ h.row), h.hB, OwnF.chg h.obs hc fun g hg => hS g (OwnF.lt h.obs g hg).2, OwnF.chg h.txs hc fun g hg => hS g (OwnF.lt h.txs g hg).2, h.len, fun k p s hp hs => (h.sts k p s hp hs).chg hc fun g hg => ?_, h.nod, h.dis, ⟨h.by_.1, ?_⟩, ⟨h.bz.1, ?_⟩, h.ne⟩
  · obtain ⟨cs, t, fz, hh, -⟩ := (h.sts k p s hp hs).typ hg
    exact hw _ _ hh
  · obtain ⟨M, h1, h2⟩ := h.by_.2
    exact ⟨M, h1.chg hc (hS _ h1.lt), h2⟩
  · obtain ⟨M, h1, h2⟩ := h.bz.2
    exact ⟨M, h1.chg hc (hS _ h1.lt), h2⟩
theorem AuIn.below (h : AuIn w B bA bY bZ ov tv os n A Z bs) (hb : Below w.heap.size w w') : AuIn w' B bA bY bZ ov tv os n A Z bs := h.chg (S := fun _ => False) (Chg.of_below hb) (fun _ _ h => h)
theorem AuIn.moved (h : AuIn w B bA bY bZ ov tv os n A Z bs) {k : Nat} {p : Nat × Value} {s s' : St} (hp : bs[k]? = some p) (hs : A[k]? = some s) (hc : Chg (stS p) w w') {dv : Value} (hst : StAt w' B (p.1, dv) s') (hid : s'.id = s.id) (hth : s'.thread = s.thread)
    (hdv : ∀ g, dv.ownBlock = some g → p.2.ownBlock = some g ∨ w.heap.size ≤ g) : AuIn w' B bA bY bZ ov tv os n (A.set k s') Z (bs.set k (p.1, dv)) := by
  have hsp := h.sts k p s hp hs
  have hmap : (bs.set k (p.1, dv)).map (fun p => ptrV p.1) = bs.map fun p => ptrV p.1 := by
    apply List.ext_getElem?
    intro j
    by_cases e : k = j
    · subst e
      rw [List.getElem?_map, List.getElem?_map, List.getElem?_set_self (List.getElem?_eq_some_iff.1 hp).1, hp]; rfl
    · rw [List.getElem?_map, List.getElem?_map, List.getElem?_set_ne e]
  have hmap1 : (bs.set k (p.1, dv)).map (·.1) = bs.map (·.1) := by
    apply List.ext_getElem?
    intro j
    by_cases e : k = j
    · subst e
      rw [List.getElem?_map, List.getElem?_map, List.getElem?_set_self (List.getElem?_eq_some_iff.1 hp).1, hp]; rfl
    · rw [List.getElem?_map, List.getElem?_map, List.getElem?_set_ne e]
  have fresh : ∀ (j : Nat) (q : Nat × Value) (t : St), bs[j]? = some q → A[j]? = some t → ∀ g, q.2.ownBlock = some g → g < w.heap.size := fun j q t hq ht g hg => (OwnF.lt (h.sts j q t hq ht).dds g hg).2
  have getA : ∀ (j : Nat) (q : Nat × Value), bs[j]? = some q → ∃ t, A[j]? = some t := fun j q hq => ⟨_, List.getElem?_eq_getElem (by rw [← h.len]; exact (List.getElem?_eq_some_iff.1 hq).1)⟩
  refine ⟨hc.row h.row (hsp.notCells h.row (by decide) (by decide)), h.hB, OwnF.chg h.obs hc fun g hg => ?_, ?_, by simpa using h.len, fun j q t hq ht => ?_, by rw [hmap1]; exact h.nod, fun i j q r hq hr hne g hg => ?_, ⟨h.by_.1, ?_⟩, ⟨h.bz.1, ?_⟩, h.ne⟩
  · obtain ⟨cs, fz, hh⟩ := OwnF.typ h.obs hg
    exact hsp.notCells hh (by decide) (by decide)
  · rw [hmap]
    refine OwnF.chg h.txs hc fun g hg => ?_
    obtain ⟨cs, fz, hh⟩ := OwnF.typ h.txs hg
    exact hsp.notCells hh (by decide) (by decide)
  · rcases get_set hq with ⟨rfl, rfl⟩ | ⟨hne, hq⟩
    · rcases get_set ht with ⟨-, rfl⟩ | ⟨hne, -⟩
      · exact hst
      · exact absurd rfl hne
    · rw [List.getElem?_set_ne hne] at ht
      exact (h.sts j q t hq ht).chg hc fun g hg => h.apart hq hp ht hs (Ne.symm hne) hg
  · rcases get_set hq with ⟨rfl, rfl⟩ | ⟨hne1, hq⟩
    · rw [List.getElem?_set_ne hne] at hr
      obtain ⟨t, ht⟩ := getA j r hr
      rcases hdv g hg with h1 | h1
      · exact h.dis k j p r hp hr hne g h1
      · intro h2
        have := fresh j r t hr ht g h2
        omega
    · rcases get_set hr with ⟨rfl, rfl⟩ | ⟨hne2, hr⟩
      · intro h2
        obtain ⟨t, ht⟩ := getA i q hq
        rcases hdv g h2 with h1 | h1
        · exact h.dis i k q p hq hp hne g hg h1
        · have := fresh i q t hq ht g hg
          omega
      · exact h.dis i j q r hq hr hne g hg
  · obtain ⟨M, h1, h2, h3⟩ := h.by_.2
    refine ⟨M, h1.chg hc (hsp.notMap h1.isMap), fun j q t hq ht => ?_, fun x hx => h3 x fun hh => hx ?_⟩
    · rcases get_set hq with ⟨rfl, rfl⟩ | ⟨hne, hq⟩
      · rcases get_set ht with ⟨-, rfl⟩ | ⟨hne, -⟩
        · rw [hid]; exact h2 k p s hp hs
        · exact absurd rfl hne
      · rw [List.getElem?_set_ne hne] at ht
        exact h2 j q t hq ht
    · obtain ⟨t, ht, hti⟩ := hh
      obtain ⟨j, hj⟩ := List.mem_iff_getElem?.1 ht
      by_cases e : k = j
      · subst e
        rw [hs] at hj
        obtain rfl := Option.some.inj hj
        exact ⟨s', mem_set_self hs, hid.trans hti⟩
      · exact ⟨t, List.mem_iff_getElem?.2 ⟨j, by rw [List.getElem?_set_ne e]; exact hj⟩, hti⟩
  · obtain ⟨M, h1, h2⟩ := h.bz.2
    exact ⟨M, h1.chg hc (hsp.notMap h1.isMap), h2⟩
theorem AuIn.zmono {Z' : Int → Prop} (h : AuIn w B bA bY bZ ov tv os n A Z bs) (hz : ∀ x, Z x → Z' x) : AuIn w B bA bY bZ ov tv os n A Z' bs :=
  ⟨h.row, h.hB, h.obs, h.txs, h.len, h.sts, h.nod, h.dis, h.by_, ⟨h.bz.1, let ⟨M, h1, h2⟩ := h.bz.2; ⟨M, h1, fun x hx => h2 x fun e => hx (hz x e)⟩⟩, h.ne⟩
end
end Go.Proofs.YtogphaiomlfofaaGreatDoor
namespace Go.Proofs.YtogphaiomlfofaaGreatDoor.RK
open Go.RowKit

def KeepsN (N : Nat → Prop) (w w' : World) : Prop := w.heap.size ≤ w'.heap.size ∧ ∀ k, N k → w'.heap[k]? = w.heap[k]?
theorem KeepsN.refl (N : Nat → Prop) (w : World) : KeepsN N w w := ⟨Nat.le_refl _, fun _ _ => rfl⟩
theorem KeepsN.trans {N : Nat → Prop} {a b c : World} (h : KeepsN N a b) (k : KeepsN N b c) : KeepsN N a c := ⟨Nat.le_trans h.1 k.1, fun i hi => (k.2 i hi).trans (h.2 i hi)⟩
theorem KeepsN.cell {N : Nat → Prop} {w w' : World} (h : KeepsN N w w') (b off : Nat) (hb : N b) : w'.cell? ⟨b, off, none⟩ = w.cell? ⟨b, off, none⟩ := by
  simp only [World.cell?, h.2 b hb]
theorem KeepsN.alloc {N : Nat → Prop} (w : World) (o : Obj) (hN : ∀ k, N k → k < w.heap.size) : KeepsN N w (w.alloc o) := ⟨by simp, fun k hk => by
  have := hN k hk
  show (w.heap.push o)[k]? = _
  rw [Array.getElem?_push, if_neg (by omega)]⟩
theorem KeepsN.of_below {N : Nat → Prop} {M : Nat} {w w' : World} (h : Below M w w') (hM : ∀ k, N k → k < M) : KeepsN N w w' := ⟨h.size, fun k hk => h.block k (hM k hk)⟩
theorem KeepsN.set {N : Nat → Prop} (w : World) (a : Addr) (v : Value) (h : ¬ N a.block) : KeepsN N w (w.setCell a v) := ⟨by simp, fun k hk => Below.heap_setCell _ _ _ _ (by rintro rfl; exact h hk)⟩

section
variable {N : Nat → Prop} {P : Program} {ops : Array Oper} {Q Q' : Exit → Act → World → Prop} {md : Region.Mode} {kd : Nat → Nat} {C : World → Prop}

def wpOpX (N : Nat → Prop) (P : Program) (ops : Array Oper) (kd : Nat → Nat) (Q : Exit → Act → World → Prop) (i : Nat) (K : Act → World → Prop) (a : Act) (w : World) : Prop :=
  match ops[i]? with
  | none => K a w
  | some o =>
    if Region.wanted o (yielded ops a.tmps) then
      (kd i = 0 → ∃ v, (∀ w', (execOp a.eval o).run P w' = .ok (.value v) w') ∧ K (a.put o.dst v) w) ∧
      (kd i = 1 → ∃ v, (∀ w', KeepsN N w w' → (execOp a.eval o).run P w' = .ok (.value v) w') ∧ K (a.put o.dst v) w) ∧
      (kd i = 2 → o.wp P a w K (Only Q)) ∧
      (3 ≤ kd i → o.wp P a w (fun a' w' => KeepsN N w w' ∧ K a' w') (Only Q))
    else K (a.put o.dst undef) w

theorem wpOpX_mono {i : Nat} {a : Act} {w : World} {K K' : Act → World → Prop} (h : ∀ a w, K a w → K' a w)
    (hh : wpOpX N P ops kd Q i K a w) : wpOpX N P ops kd Q i K' a w := by
  unfold wpOpX at *
  split
  · exact h _ _ (by simpa [*] using hh)
  · rename_i o ho
    simp only [ho] at hh
    split
    · rename_i hw
      simp only [hw, if_true] at hh
      exact ⟨fun hk => let ⟨v, h1, h2⟩ := hh.1 hk; ⟨v, h1, h _ _ h2⟩, fun hk => let ⟨v, h1, h2⟩ := hh.2.1 hk; ⟨v, h1, h _ _ h2⟩, fun hk => Oper.wp_mono h (hh.2.2.1 hk), fun hk => Oper.wp_mono (fun a w h' => ⟨h'.1, h a w h'.2⟩) (hh.2.2.2 hk)⟩
    · rename_i hw; simp only [hw] at hh; exact h _ _ hh

theorem wpOp_of_wpOpX {i : Nat} {a : Act} {w : World} {K K' : Act → World → Prop} (h : ∀ a w, K a w → K' a w)
    (hh : wpOpX N P ops kd Q i K a w) : wpOp P ops Q i K' a w := by
  unfold wpOpX at hh
  unfold wpOp
  split
  · exact h _ _ (by simpa [*] using hh)
  · rename_i o ho
    simp only [ho] at hh
    split
    · rename_i hw
      simp only [hw, if_true] at hh
      refine .inl ?_
      rcases Nat.lt_or_ge (kd i) 2 with hk | hk
      · rcases Nat.lt_or_ge (kd i) 1 with hk' | hk'
        · obtain ⟨v, h1, h2⟩ := hh.1 (by omega)
          simp only [Oper.wp, h1 w, Oper.upon]
          exact h _ _ h2
        · obtain ⟨v, h1, h2⟩ := hh.2.1 (by omega)
          simp only [Oper.wp, h1 w (KeepsN.refl N w), Oper.upon]
          exact h _ _ h2
      · rcases Nat.lt_or_ge (kd i) 3 with hk' | hk'
        · exact wp_only h (hh.2.2.1 (by omega))
        · exact wp_only (fun a w h' => h a w h'.2) (hh.2.2.2 hk')
    · rename_i hw; simp only [hw] at hh; exact h _ _ hh

def wpAnyX (N : Nat → Prop) (P : Program) (md : Region.Mode) (ops : Array Oper) (kd : Nat → Nat) (Q : Exit → Act → World → Prop) : Nat → Array Bool → Act → World → Prop
  | 0, listed, a, w => Region.ready md ops listed = [] ∧ Q .normal a w
  | fuel + 1, listed, a, w =>
    (Region.ready md ops listed = [] → Q .normal a w) ∧
    ∀ i ∈ Region.ready md ops listed, wpOpX N P ops kd Q i (wpAnyX N P md ops kd Q fuel (listed.setIfInBounds i true)) a w

theorem wpAny_of_X : ∀ (fuel : Nat) (listed : Array Bool) (a : Act) (w : World), wpAnyX N P md ops kd Q fuel listed a w → wpAny P md ops Q fuel listed a w
  | 0, _, _, _, h => h
  | fuel + 1, _, _, _, h => ⟨h.1, fun i hi => wpOp_of_wpOpX (fun a w => wpAny_of_X fuel _ a w) (h.2 i hi)⟩

theorem wpOpX_put {j : Nat} {oi oj : Oper} {v : Value} (hj : ops[j]? = some oj) (hap : oi.apart ops oj = true)
    (hsi : ∀ cs b, oi.op ≠ .select cs b) (hsj : ∀ cs b, oj.op ≠ .select cs b) (hCk : ∀ w w', C w → KeepsN N w w' → C w') (hE : kd j ≠ 2 ∨ ∀ w, C w)
    {K : Act → World → Prop} {a : Act} {w : World} (hC : C w)
    (hy : YieldsX P ops C oi v a) (h : wpOpX N P ops kd Q j K (a.put oi.dst v) w) :
    wpOpX N P ops kd Q j (fun a' w' => C w' ∧ YieldsX P ops C oi v a' ∧ K (a'.put oi.dst v) w') a w := by
  obtain ⟨h1, h2, h3⟩ := Oper.apart_spec hap
  have keep : ∀ (a : Act), YieldsX P ops C oi v a → ∀ u, YieldsX P ops C oi v (a.put oj.dst u) := fun a hy u =>
    hy.of_same (execOp_put oi hsi a oj.dst u h3) (wanted_put oi a oj.dst u h3)
  have keepD : ∀ d, YieldsX P ops C oi v { a with defers := d :: a.defers } := fun d => hy.of_same rfl rfl
  unfold wpOpX at *
  simp only [hj] at *
  rw [wanted_put oj a oi.dst v h1, execOp_put oj hsj a oi.dst v h1] at h
  split
  · rename_i hw
    simp only [hw, if_true] at h
    refine ⟨fun hk => ?_, fun hk => ?_, fun hk => ?_, fun hk => ?_⟩
    · obtain ⟨u, h4, h5⟩ := h.1 hk
      exact ⟨u, h4, hC, keep a hy u, by rw [← Act.put_comm a v u h2]; exact h5⟩
    · obtain ⟨u, h4, h5⟩ := h.2.1 hk
      exact ⟨u, h4, hC, keep a hy u, by rw [← Act.put_comm a v u h2]; exact h5⟩
    · have hall : ∀ w, C w := hE.resolve_left (fun h => h hk)
      replace h := h.2.2.1 hk
      unfold Oper.wp at *
      rw [execOp_put oj hsj a oi.dst v h1] at h
      generalize (execOp a.eval oj).run P w = r at *
      cases r with
      | ok n w' =>
        cases n <;> simp only [Oper.upon] at h ⊢
        case value u => exact ⟨hall _, keep a hy u, by rw [← Act.put_comm a v u h2]; exact h⟩
        case skip => exact ⟨hall _, keep a hy _, by rw [← Act.put_comm a v undef h2]; exact h⟩
        case defer d =>
          refine ⟨hall _, keep _ (keepD d) _, ?_⟩
          rw [← Act.put_comm _ v undef h2, ← Act.put_defers]
          exact h
        case enter f args =>
          refine Calls.mono h fun e w'' he => ?_
          cases e with
          | returned u => exact ⟨hall _, keep a hy u, by rw [← Act.put_comm a v u h2]; exact he⟩
          | panicked c => exact (he : False).elim
          | outgrown => exact (not_letsOut_only he).elim
        case row row args => exact Rows.mono h fun u w'' he => ⟨hall _, keep a hy u, by rw [← Act.put_comm a v u h2]; exact he⟩
      | halt x w' =>
        cases x <;> simp only [Oper.upon] at h ⊢
        case panic u => exact (h : False).elim
    · replace h := h.2.2.2 hk
      unfold Oper.wp at *
      rw [execOp_put oj hsj a oi.dst v h1] at h
      generalize (execOp a.eval oj).run P w = r at *
      cases r with
      | ok n w' =>
        cases n <;> simp only [Oper.upon] at h ⊢
        case value u => exact ⟨h.1, hCk _ _ hC h.1, keep a hy u, by rw [← Act.put_comm a v u h2]; exact h.2⟩
        case skip => exact ⟨h.1, hCk _ _ hC h.1, keep a hy _, by rw [← Act.put_comm a v undef h2]; exact h.2⟩
        case defer d =>
          refine ⟨h.1, hCk _ _ hC h.1, keep _ (keepD d) _, ?_⟩
          rw [← Act.put_comm _ v undef h2, ← Act.put_defers]
          exact h.2
        case enter f args =>
          refine Calls.mono h fun e w'' he => ?_
          cases e with
          | returned u => exact ⟨he.1, hCk _ _ hC he.1, keep a hy u, by rw [← Act.put_comm a v u h2]; exact he.2⟩
          | panicked c => exact (he : False).elim
          | outgrown => exact (not_letsOut_only he).elim
        case row row args => exact Rows.mono h fun u w'' he => ⟨he.1, hCk _ _ hC he.1, keep a hy u, by rw [← Act.put_comm a v u h2]; exact he.2⟩
      | halt x w' =>
        cases x <;> simp only [Oper.upon] at h ⊢
        case panic u => exact (h : False).elim
  · rename_i hw
    simp only [hw] at h
    exact ⟨hC, keep a hy _, by rw [← Act.put_comm a v undef h2]; exact h⟩

theorem wpAnyX_first {i : Nat} {oi : Oper} {v : Value} (hi : ops[i]? = some oi) (hsel : ∀ (j : Nat) (o : Oper) cs b, ops[j]? = some o → o.op ≠ .select cs b) (hki : kd i ≤ 1)
    (hCk : ∀ w w', C w → KeepsN N w w' → C w')
    (hput : ∀ (a : Act) (w : World) K, C w → YieldsX P ops C oi v a → K (a.put oi.dst v) w → wpOpX N P ops kd Q i K a w) :
    ∀ (fuel : Nat) (listed : Array Bool) (a : Act) (w : World), Closed md ops listed → C w →
      (∀ j oj, ops[j]? = some oj → j ≠ i → listed.getD j true = false → ¬ (∃ n, waits md ops n j i = true) → oi.apart ops oj = true ∧ (kd j ≠ 2 ∨ ∀ w, C w)) →
      i ∈ Region.ready md ops listed → YieldsX P ops C oi v a →
      wpAnyX N P md ops kd Q fuel (listed.setIfInBounds i true) (a.put oi.dst v) w → wpAnyX N P md ops kd Q (fuel + 1) listed a w := by
  intro fuel
  induction fuel with
  | zero =>
    intro listed a w _ hC _ hr hy H
    refine ⟨fun h => (by rw [h] at hr; cases hr), fun j hj => ?_⟩
    by_cases hji : j = i
    · subst hji; exact hput a w _ hC hy H
    · have := ready_mono hj hji
      rw [H.1] at this
      cases this
  | succ fuel ih =>
    intro listed a w hcl hC hfree hr hy H
    refine ⟨fun h => (by rw [h] at hr; cases hr), fun j hj => ?_⟩
    by_cases hji : j = i
    · subst hji; exact hput a w _ hC hy H
    · have h1 := H.2 j (ready_mono hj hji)
      obtain ⟨hjun, oj, hoj, hall⟩ := mem_ready.1 hj
      have hiun := getD_false_of_true (mem_ready.1 hr).1
      have hnw : ¬ (∃ n, waits md ops n j i = true) := fun ⟨n, hw⟩ => absurd hj (waits_not_ready hcl hiun n j hw).2
      obtain ⟨hap, hE⟩ := hfree j oj hoj hji hjun hnw
      have h2 := wpOpX_put hoj hap (fun cs b => hsel i oi cs b hi) (fun cs b => hsel j oj cs b hoj) hCk hE hC hy h1
      have hfree' : ∀ k ok, ops[k]? = some ok → k ≠ i → (listed.setIfInBounds j true).getD k true = false → ¬ (∃ n, waits md ops n k i = true) → oi.apart ops ok = true ∧ (kd k ≠ 2 ∨ ∀ w, C w) := fun k ok hk hki hun hno => by
        refine hfree k ok hk hki ?_ hno
        by_cases hjk : j = k
        · subst hjk; exact hjun
        · rw [getD_set_ne true hjk] at hun; exact hun
      refine wpOpX_mono (fun a' w' h3 => ih (listed.setIfInBounds j true) a' w' (hcl.put hj) h3.1 hfree' (ready_mono hr (Ne.symm hji)) h3.2.1 ?_) h2
      rw [Array.setIfInBounds_comm _ _ hji]
      exact h3.2.2

def wpX (N : Nat → Prop) (P : Program) (ops : Array Oper) (kd : Nat → Nat) (Q : Exit → Act → World → Prop) : List Nat → Act → World → Prop
  | [], a, w => Q .normal a w
  | i :: l, a, w => wpOpX N P ops kd Q i (wpX N P ops kd Q l) a w

def wpK (N : Nat → Prop) (P : Program) (Q : Exit → Act → World → Prop) (k : Nat) (g : Option (Option Tmp × Bool)) (o : Oper) (K : Act → World → Prop) (a : Act) (w : World) : Prop :=
  if wantedAt g a.tmps then
    (k = 0 → ∃ v, (∀ w', (execOp a.eval o).run P w' = .ok (.value v) w') ∧ K (a.put o.dst v) w) ∧
    (k = 1 → ∃ v, (∀ w', KeepsN N w w' → (execOp a.eval o).run P w' = .ok (.value v) w') ∧ K (a.put o.dst v) w) ∧
    (k = 2 → o.wp P a w K (Only Q)) ∧
    (3 ≤ k → o.wp P a w (fun a' w' => KeepsN N w w' ∧ K a' w') (Only Q))
  else K (a.put o.dst undef) w

def wpL (N : Nat → Prop) (P : Program) (Q : Exit → Act → World → Prop) : List XOp → Act → World → Prop
  | [], a, w => Q .normal a w
  | x :: l, a, w => wpK N P Q x.kind x.guard x.oper (wpL N P Q l) a w

theorem wpX_of_wpL {ks : List Nat} {l : List Oper} : ∀ (σ : List Nat) (a : Act) (w : World), wpL N P Q (selX ks l σ) a w → wpX N P l.toArray (fun i => ks.getD i 2) Q σ a w
  | [], _, _, h => h
  | i :: σ, a, w, h => by
    simp only [wpX]
    unfold wpOpX
    simp only [List.getElem?_toArray]
    simp only [selX] at h
    cases ho : l[i]? with
    | none => simp only [ho] at h; exact wpX_of_wpL σ a w h
    | some o =>
      simp only [ho, wpL, wpK, wantedAt_eq] at h
      simp only
      split
      · rename_i hw
        simp only [hw, if_true] at h
        exact ⟨fun hk => let ⟨v, h1, h2⟩ := h.1 hk; ⟨v, h1, wpX_of_wpL σ _ _ h2⟩, fun hk => let ⟨v, h1, h2⟩ := h.2.1 hk; ⟨v, h1, wpX_of_wpL σ _ _ h2⟩,
          fun hk => Oper.wp_mono (fun a w h' => wpX_of_wpL σ a w h') (h.2.2.1 hk), fun hk => Oper.wp_mono (fun a w h' => ⟨h'.1, wpX_of_wpL σ a w h'.2⟩) (h.2.2.2 hk)⟩
      · rename_i hw
        simp only [hw] at h
        exact wpX_of_wpL σ _ _ h

theorem wpOpX_monoQ {i : Nat} {a : Act} {w : World} {K K' : Act → World → Prop} (h : ∀ a w, K a w → K' a w) (hh : wpOpX N P ops kd Q' i K a w) : wpOpX N P ops kd Q i K' a w := by
  unfold wpOpX at *
  cases ho : ops[i]? with
  | none => simp only [ho] at hh ⊢; exact h _ _ hh
  | some o =>
    simp only [ho] at hh ⊢
    split
    · rename_i hw
      simp only [hw, if_true] at hh
      exact ⟨fun hk => let ⟨v, h1, h2⟩ := hh.1 hk; ⟨v, h1, h _ _ h2⟩, fun hk => let ⟨v, h1, h2⟩ := hh.2.1 hk; ⟨v, h1, h _ _ h2⟩, fun hk => wp_onlyA h (hh.2.2.1 hk), fun hk => wp_onlyA (fun a w h' => ⟨h'.1, h a w h'.2⟩) (hh.2.2.2 hk)⟩
    · rename_i hw; simp only [hw] at hh; exact h _ _ hh

theorem wpAnyX_of_pre {bf : Array Nat} (hbf : ∀ j i, (bf.getD j 0).testBit i = true → ∃ n, waits md ops n j i = true) (hs : Region.noSelect ops = true) (n : Nat) : ∀ (l : List Nat) (listed : Array Bool) (a : Act) (w : World), Closed md ops listed →
    checkP md ops bf kd l listed = true → (Closed md ops (after l listed) → ∀ a w, Q' .normal a w → wpAnyX N P md ops kd Q n (after l listed) a w) → wpX N P ops kd Q' l a w → wpAnyX N P md ops kd Q (l.length + n) listed a w
  | [], listed, a, w, hcl, _, hE, h => by rw [show ([] : List Nat).length + n = n from Nat.zero_add n]; exact hE hcl a w h
  | i :: l, listed, a, w, hcl, hB, hE, h => by
    rw [show (i :: l).length + n = (l.length + n) + 1 by simp only [List.length_cons]; omega]
    simp only [checkP, Bool.and_eq_true] at hB
    obtain ⟨hB, hB'⟩ := hB
    have hsel := Region.noSelect_spec hs
    by_cases hk : kd i ≤ 1
    · rw [if_pos hk] at hB
      simp only [Bool.and_eq_true] at hB
      obtain ⟨hr, hf⟩ := hB
      have hr : i ∈ Region.ready md ops listed := by simpa using hr
      split at hf
      · cases hf
      · rename_i oi hoi
        have hfree : ∀ j oj, ops[j]? = some oj → j ≠ i → listed.getD j true = false → ¬ (∃ n, waits md ops n j i = true) → oi.apart ops oj = true ∧ (kd i = 0 ∨ kd j ≠ 2) := by
          intro j oj hoj hji hun hnw
          simp only [List.all_eq_true, List.mem_range] at hf
          have h1 := hf j (Array.getElem?_eq_some_iff.1 hoj).1
          have hnb : ¬ (bf.getD j 0).testBit i = true := fun h => hnw (hbf j i h)
          simp only [hoj, Bool.or_eq_true, beq_iff_eq, hji, false_or, hun, hnb, Bool.false_eq_true, Bool.and_eq_true, bne_iff_ne, ne_eq] at h1
          exact h1
        have hcl' := hcl.put hr
        have ht := fun (a' : Act) (w' : World) => wpAnyX_of_pre hbf hs n l (listed.setIfInBounds i true) a' w' hcl' hB' hE
        simp only [wpX] at h
        unfold wpOpX at h
        simp only [hoi] at h
        by_cases hw : Region.wanted oi (yielded ops a.tmps) = true
        · simp only [hw, if_true] at h
          rcases Nat.lt_or_ge (kd i) 1 with hk0 | hk1
          · have hk0 : kd i = 0 := by omega
            obtain ⟨v, h1, h2⟩ := h.1 hk0
            refine wpAnyX_first (C := fun _ => True) hoi hsel hk (fun _ _ h _ => h) ?_ (l.length + n) listed a w hcl trivial (fun j oj a1 a2 a3 a4 => ⟨(hfree j oj a1 a2 a3 a4).1, .inr fun _ => trivial⟩) hr (.inl ⟨hw, fun w' _ => h1 w'⟩) (ht _ _ h2)
            intro a w K _ hy hK
            unfold wpOpX
            simp only [hoi]
            rcases hy with ⟨hw, hv⟩ | ⟨hw, rfl⟩
            · simp only [hw, if_true]
              exact ⟨fun _ => ⟨v, fun w' => hv w' trivial, hK⟩, fun hk => by omega, fun hk => by omega, fun hk => by omega⟩
            · simp only [hw, Bool.false_eq_true, if_false]; exact hK
          · have hk1 : kd i = 1 := by omega
            obtain ⟨v, h1, h2⟩ := h.2.1 hk1
            refine wpAnyX_first (C := fun w' => KeepsN N w w') hoi hsel hk (fun _ _ h h' => h.trans h') ?_ (l.length + n) listed a w hcl (KeepsN.refl N w) (fun j oj a1 a2 a3 a4 => ⟨(hfree j oj a1 a2 a3 a4).1, .inl ((hfree j oj a1 a2 a3 a4).2.resolve_left (by omega))⟩) hr (.inl ⟨hw, fun w' hw' => h1 w' hw'⟩) (ht _ _ h2)
            intro a' w' K hC hy hK
            unfold wpOpX
            simp only [hoi]
            rcases hy with ⟨hw, hv⟩ | ⟨hw, rfl⟩
            · simp only [hw, if_true]
              exact ⟨fun hk => by omega, fun _ => ⟨v, fun w2 hk2 => hv w2 (KeepsN.trans hC hk2), hK⟩, fun hk => by omega, fun hk => by omega⟩
            · simp only [hw, Bool.false_eq_true, if_false]; exact hK
        · simp only [hw] at h
          have hw' : Region.wanted oi (yielded ops a.tmps) = false := by simpa using hw
          by_cases hk0 : kd i = 0
          · refine wpAnyX_first (C := fun _ => True) hoi hsel hk (fun _ _ h _ => h) ?_ (l.length + n) listed a w hcl trivial (fun j oj a1 a2 a3 a4 => ⟨(hfree j oj a1 a2 a3 a4).1, .inr fun _ => trivial⟩) hr (.inr ⟨hw', rfl⟩) (ht _ _ h)
            intro a w K _ hy hK
            unfold wpOpX
            simp only [hoi]
            rcases hy with ⟨hw, hv⟩ | ⟨hw, hv⟩
            · simp only [hw, if_true]
              exact ⟨fun _ => ⟨_, fun w' => hv w' trivial, hK⟩, fun hk => by omega, fun hk => by omega, fun hk => by omega⟩
            · simp only [hw, Bool.false_eq_true, if_false]; exact hK
          · refine wpAnyX_first (C := fun w' => KeepsN N w w') hoi hsel hk (fun _ _ h h' => h.trans h') ?_ (l.length + n) listed a w hcl (KeepsN.refl N w) (fun j oj a1 a2 a3 a4 => ⟨(hfree j oj a1 a2 a3 a4).1, .inl ((hfree j oj a1 a2 a3 a4).2.resolve_left hk0)⟩) hr (.inr ⟨hw', rfl⟩) (ht _ _ h)
            intro a' w' K hC hy hK
            unfold wpOpX
            simp only [hoi]
            rcases hy with ⟨hw, hv⟩ | ⟨hw, hv⟩
            · simp only [hw, if_true]
              exact ⟨fun hk => by omega, fun _ => ⟨_, fun w2 hk2 => hv w2 (KeepsN.trans hC hk2), hK⟩, fun hk => by omega, fun hk => by omega⟩
            · simp only [hw, Bool.false_eq_true, if_false]; exact hK
    · rw [if_neg hk] at hB
      have hr : Region.ready md ops listed = [i] := by simpa using hB
      refine ⟨fun h0 => (by rw [hr] at h0; cases h0), fun j hj => ?_⟩
      rw [hr] at hj
      obtain rfl : j = i := by simpa using hj
      exact wpOpX_monoQ (fun a' w' h' => wpAnyX_of_pre hbf hs n l _ a' w' (hcl.put (by rw [hr]; simp)) hB' hE h') h

end

inductive Tr where
  | fin (σ : List Nat)
  | frk (σ : List Nat) (a b : Tr)
def Tr.len : Tr → Nat
  | .fin σ => σ.length
  | .frk σ a _ => σ.length + a.len
def Tr.head : Tr → Nat
  | .fin σ => σ.headD 0
  | .frk σ _ _ => σ.headD 0
def Tr.one : Tr → Bool
  | .fin σ => !σ.isEmpty
  | .frk σ _ _ => !σ.isEmpty
def checkT (l : List Oper) (ks : List Nat) : Tr → Array Bool → Bool
  | .fin σ, s => checkP .any l.toArray (Region.before l.toArray) (fun i => ks.getD i 2) σ s && (Region.ready .any l.toArray (after σ s)).isEmpty
  | .frk σ a b, s => checkP .any l.toArray (Region.before l.toArray) (fun i => ks.getD i 2) σ s && (Region.ready .any l.toArray (after σ s) == [a.head, b.head]) && a.one && b.one && (a.len == b.len) &&
      checkU l ks a (after σ s) && checkU l ks b (after σ s)
where
  /-- The same, where the first operation is one of two. -/
  checkU (l : List Oper) (ks : List Nat) : Tr → Array Bool → Bool
  | .fin σ, s => checkP .any l.toArray (Region.before l.toArray) (fun i => ks.getD i 2) σ.tail (s.setIfInBounds (σ.headD 0) true) && (Region.ready .any l.toArray (after σ s)).isEmpty
  | .frk σ a b, s => checkP .any l.toArray (Region.before l.toArray) (fun i => ks.getD i 2) σ.tail (s.setIfInBounds (σ.headD 0) true) && (Region.ready .any l.toArray (after σ s) == [a.head, b.head]) && a.one && b.one && (a.len == b.len) &&
      checkU l ks a (after σ s) && checkU l ks b (after σ s)
def End (Q : Exit → Act → World → Prop) (p : Act → World → Prop) : Exit → Act → World → Prop
  | .normal, a, w => p a w
  | e, a, w => Q e a w
def wpT (N : Nat → Prop) (P : Program) (Q : Exit → Act → World → Prop) (l : List Oper) (ks : List Nat) : Tr → Act → World → Prop
  | .fin σ, a, w => wpL N P Q (selX ks l σ) a w
  | .frk σ x y, a, w => wpL N P (End Q fun a w => wpT N P Q l ks x a w ∧ wpT N P Q l ks y a w) (selX ks l σ) a w
section
variable {N : Nat → Prop} {P : Program} {Q : Exit → Act → World → Prop} {l : List Oper} {ks : List Nat}
theorem after_cons (i : Nat) (σ : List Nat) (s : Array Bool) : after (i :: σ) s = after σ (s.setIfInBounds i true) := rfl
theorem wpT_u (hs : Region.noSelect l.toArray = true) : ∀ (t : Tr) (s : Array Bool) (a : Act) (w : World), Closed .any l.toArray s → t.one = true → t.head ∈ Region.ready .any l.toArray s → checkT.checkU l ks t s = true → wpT N P Q l ks t a w →
    ∃ n, n + 1 = t.len ∧ wpOpX N P l.toArray (fun i => ks.getD i 2) Q t.head (wpAnyX N P .any l.toArray (fun i => ks.getD i 2) Q n (s.setIfInBounds t.head true)) a w
  | .fin [], _, _, _, _, h, _, _, _ => by simp [Tr.one] at h
  | .fin (i :: σ), s, a, w, hcl, _, hr, hc, h => by
    simp only [checkT.checkU, List.tail_cons, List.headD_cons, Bool.and_eq_true, List.isEmpty_iff] at hc
    have h' := wpX_of_wpL (i :: σ) a w h
    simp only [wpX] at h'
    refine ⟨σ.length, rfl, wpOpX_mono (fun a' w' hk => ?_) h'⟩
    exact wpAnyX_of_pre (Q' := Q) (fun _ _ => before_waits) hs 0 σ _ a' w' (hcl.put hr) hc.1 (fun _ a w hq => ⟨by have := hc.2; rwa [after_cons] at this, hq⟩) hk
  | .frk [] _ _, _, _, _, _, h, _, _, _ => by simp [Tr.one] at h
  | .frk (i :: σ) x y, s, a, w, hcl, _, hr, hc, h => by
    simp only [checkT.checkU, List.tail_cons, List.headD_cons, Bool.and_eq_true, beq_iff_eq] at hc
    obtain ⟨⟨⟨⟨⟨⟨c1, c2⟩, c3⟩, c4⟩, c5⟩, c6⟩, c7⟩ := hc
    rw [after_cons] at c2 c6 c7
    have h' := wpX_of_wpL (i :: σ) a w h
    simp only [wpX] at h'
    obtain ⟨m, hm⟩ : ∃ m, m + 1 = x.len := by
      cases x with
      | fin τ => cases τ with
        | nil => simp [Tr.one] at c3
        | cons j τ => exact ⟨τ.length, rfl⟩
      | frk τ u v => cases τ with
        | nil => simp [Tr.one] at c3
        | cons j τ => exact ⟨τ.length + u.len, by simp only [Tr.len, List.length_cons]; omega⟩
    refine ⟨σ.length + (m + 1), by simp only [Tr.len, List.length_cons]; omega, wpOpX_monoQ (fun a' w' hk => ?_) h'⟩
    show wpAnyX N P .any l.toArray (fun i => ks.getD i 2) Q (σ.length + (m + 1)) (s.setIfInBounds i true) a' w'
    refine wpAnyX_of_pre (fun _ _ => before_waits) hs (m + 1) σ _ a' w' (hcl.put hr) c1 (fun hcl2 a w hq => ?_) hk
    obtain ⟨q1, q2⟩ := hq
    refine ⟨fun h0 => (by rw [c2] at h0; cases h0), fun j hj => ?_⟩
    have hj0 := hj
    rw [c2] at hj
    simp only [List.mem_cons, List.not_mem_nil, or_false] at hj
    rcases hj with rfl | rfl
    · obtain ⟨n, hn, r⟩ := wpT_u hs x _ a w hcl2 c3 hj0 c6 q1
      obtain rfl : n = m := by omega
      exact r
    · obtain ⟨n, hn, r⟩ := wpT_u hs y _ a w hcl2 c4 hj0 c7 q2
      obtain rfl : n = m := by omega
      exact r
theorem wpT_any (hs : Region.noSelect l.toArray = true) : ∀ (t : Tr) (s : Array Bool) (a : Act) (w : World), Closed .any l.toArray s → checkT l ks t s = true → wpT N P Q l ks t a w → wpAnyX N P .any l.toArray (fun i => ks.getD i 2) Q t.len s a w
  | .fin σ, s, a, w, hcl, hc, h => by
    simp only [checkT, Bool.and_eq_true, List.isEmpty_iff] at hc
    exact wpAnyX_of_pre (Q' := Q) (fun _ _ => before_waits) hs 0 σ s a w hcl hc.1 (fun _ a w hq => ⟨hc.2, hq⟩) (wpX_of_wpL σ a w h)
  | .frk σ x y, s, a, w, hcl, hc, h => by
    simp only [checkT, Bool.and_eq_true, beq_iff_eq] at hc
    obtain ⟨⟨⟨⟨⟨⟨c1, c2⟩, c3⟩, c4⟩, c5⟩, c6⟩, c7⟩ := hc
    refine wpAnyX_of_pre (fun _ _ => before_waits) hs x.len σ s a w hcl c1 (fun hcl2 a w hq => ?_) (wpX_of_wpL σ a w h)
    obtain ⟨q1, q2⟩ := hq
    obtain ⟨m, hm⟩ : ∃ m, m + 1 = x.len := by
      cases x with
      | fin τ => cases τ with
        | nil => simp [Tr.one] at c3
        | cons j τ => exact ⟨τ.length, rfl⟩
      | frk τ u v => cases τ with
        | nil => simp [Tr.one] at c3
        | cons j τ => exact ⟨τ.length + u.len, by simp only [Tr.len, List.length_cons]; omega⟩
    rw [← hm]
    refine ⟨fun h0 => (by rw [c2] at h0; cases h0), fun j hj => ?_⟩
    have hj0 := hj
    rw [c2] at hj
    simp only [List.mem_cons, List.not_mem_nil, or_false] at hj
    rcases hj with rfl | rfl
    · obtain ⟨n, hn, r⟩ := wpT_u hs x _ a w hcl2 c3 hj0 c6 q1
      obtain rfl : n = m := by omega
      exact r
    · obtain ⟨n, hn, r⟩ := wpT_u hs y _ a w hcl2 c4 hj0 c7 q2
      obtain rfl : n = m := by omega
      exact r
theorem wp_region_t {id : Nat} {a : Act} {w : World} (N : Nat → Prop) (ks : List Nat) (t : Tr) (hm : P.follows .mixedOrders = true) (hs : Region.noSelect l.toArray = true)
    (hn : t.len = l.length) (hB : checkT l ks t (Array.replicate l.length false) = true) (h : wpT N P Q l ks t a w.drew) : (Code.region id l.toArray true).wp P Q a w := by
  refine wp_region_any hm (wpAny_of_X (N := N) (kd := fun i => ks.getD i 2) _ _ _ _ ?_)
  have := wpT_any hs t (Array.replicate l.length false) a _ (closed_none _) hB h
  rw [hn] at this
  simpa using this
end

/-! ### The steps -/
section
variable {N : Nat → Prop} {P : Program} {Q : Exit → Act → World → Prop} {l : List XOp} {o : Oper} {a : Act} {w : World}
theorem wpL_nil (h : Q .normal a w) : wpL N P Q [] a w := h

theorem wpL_p (h : ∀ K : Act → World → Prop, (∀ a w, wpL N P Q l a w → K a w) → ∃ v, (∀ w', (execOp a.eval o).run P w' = .ok (.value v) w') ∧ K (a.put o.dst v) w) :
    wpL N P Q (⟨0, none, o⟩ :: l) a w := by
  simp only [wpL, wpK, wantedAt, if_true]
  exact ⟨fun _ => h _ (fun _ _ h => h), fun hk => by omega, fun hk => by omega, fun hk => by omega⟩

theorem wpL_r (h : ∀ K : Act → World → Prop, (∀ a w, wpL N P Q l a w → K a w) → ∃ v, (∀ w', KeepsN N w w' → (execOp a.eval o).run P w' = .ok (.value v) w') ∧ K (a.put o.dst v) w) :
    wpL N P Q (⟨1, none, o⟩ :: l) a w := by
  simp only [wpL, wpK, wantedAt, if_true]
  exact ⟨fun hk => by omega, fun _ => h _ (fun _ _ h => h), fun hk => by omega, fun hk => by omega⟩

theorem wpL_s {v : Value} (h1 : ∀ w', KeepsN N w w' → (execOp a.eval o).run P w' = .ok (.value v) w') (h2 : wpL N P Q l (a.put o.dst v) w) : wpL N P Q (⟨1, none, o⟩ :: l) a w := wpL_r fun K hK => ⟨v, h1, hK _ _ h2⟩
theorem wpL_e (h : ∀ K : Act → World → Prop, (∀ a w, wpL N P Q l a w → K a w) → o.wp P a w K (Only Q)) :
    wpL N P Q (⟨2, none, o⟩ :: l) a w := by
  simp only [wpL, wpK, wantedAt, if_true]
  exact ⟨fun hk => by omega, fun hk => by omega, fun _ => h _ (fun _ _ h => h), fun hk => by omega⟩

theorem wpL_k (h : ∀ K : Act → World → Prop, (∀ a w', KeepsN N w w' → wpL N P Q l a w' → K a w') → o.wp P a w K (Only Q)) :
    wpL N P Q (⟨3, none, o⟩ :: l) a w := by
  simp only [wpL, wpK, wantedAt, if_true]
  exact ⟨fun hk => by omega, fun hk => by omega, fun hk => by omega, fun _ => h _ (fun _ _ h h' => ⟨h, h'⟩)⟩

theorem wpL_no {k t : Nat} {want b : Bool} (hy : a.tmps[t]? = some (.bool b)) (hb : (b == want) = false)
    (h : ∀ K : Act → World → Prop, (∀ a w, wpL N P Q l a w → K a w) → K (a.put o.dst undef) w) : wpL N P Q (⟨k, some (some t, want), o⟩ :: l) a w := by
  have hw : wantedAt (some (some t, want)) a.tmps = false := by simp only [wantedAt, Option.bind_some, hy]; simpa using hb
  simp only [wpL, wpK, hw, Bool.false_eq_true, if_false]
  exact h _ (fun _ _ h => h)

theorem wpL_yes {k t : Nat} {want b : Bool} (hy : a.tmps[t]? = some (.bool b)) (hb : (b == want) = true)
    (h : wpL N P Q (⟨k, none, o⟩ :: l) a w) : wpL N P Q (⟨k, some (some t, want), o⟩ :: l) a w := by
  have hw : wantedAt (some (some t, want)) a.tmps = true := by simp only [wantedAt, Option.bind_some, hy]; simpa using hb
  simp only [wpL, wpK, hw, if_true]
  simp only [wpL, wpK, wantedAt, if_true] at h
  exact h

end
end Go.Proofs.YtogphaiomlfofaaGreatDoor.RK
namespace Go.Proofs.YtogphaiomlfofaaGreatDoor
open Go.RowKit Go.Maps
set_option linter.unusedVariables false
set_option linter.unusedSimpArgs false
attribute [local irreducible] wpL

def MvRet (w : World) (B : Nat) (p : Nat × Value) (s' : St) (e : Ending) (w' : World) : Prop := e = .returned .nilIface ∧ ∃ dv, StAt w' B (p.1, dv) s' ∧ Chg (stS p) w w' ∧ ∀ g, dv.ownBlock = some g → p.2.ownBlock = some g ∨ w.heap.size ≤ g
theorem StAt.size {w : World} {B : Nat} {p : Nat × Value} {s : St} (h : StAt w B p s) : p.1 < w.heap.size := row_lt h.row
theorem StAt.own {w w' : World} {B p : Nat} {dv : Value} {s s' : St} (h : StAt w B (p, dv) s) (hc : Chg (fun k => k = p) w w') (hr : w'.heap[p]? = some (.cells (stCs s' dv).toArray 150 (0, 0))) (hd : s'.deeds = s.deeds) : ∃ dv', StAt w' B (p, dv') s' ∧ Chg (stS (p, dv)) w w' ∧ ∀ g, dv'.ownBlock = some g → dv.ownBlock = some g ∨ w.heap.size ≤ g := by
  refine ⟨dv, ⟨hr, h.hB, ?_⟩, hc.mono fun j hj => .inl hj, fun g hg => .inl hg⟩
  rw [hd]
  refine OwnF.chg h.dds hc fun g hg hk => ?_
  obtain ⟨cs, fz, hh⟩ := OwnF.typ h.dds hg
  rw [hk, h.row] at hh
  simp at hh
section
variable {w : World} {B p : Nat} {dv : Value} {s : St}
set_option maxRecDepth 100000 in
theorem mv_can (xk xx xh xj xo xy xv xr : Int) (n : Nat) (h : StAt w B (p, dv) s) :
    Calls Tryz.prog 165 #[.pointer (some ⟨p, 0, none⟩), evV ⟨xk, xx, xh, xj, xo, xy, xv, xr⟩, .int .i64 n] w (MvRet w B (p, dv) (canS s)) := by
  have l0 := row_lt h.row
  have H := hid h
  have r0 := h.row
  have y := row_cell r0
  have y0 := y 0
  have y1 := y 1
  have y2 := y 2
  have y3 := y 3
  have y4 := y 4
  have y5 := y 5
  have y6 := y 6
  have y7 := y 7
  simp [stCs] at y0 y1 y2 y3 y4 y5 y6 y7
  have yf : ∀ j, w.frozen? ⟨p, j, none⟩ = false := fun j => row_free r0 j
  have R0 := hid r0
  clear y h r0
  go_enter Tryz.func165, Tryz.ntmps165
  go_wp2
  go_ret
  have r1 := row_set R0.out 7 (.int .i64 4)
  have rz := row_old (o := .cells #[.int .i64 xk, .int .i64 xx, .int .i64 xh, .int .i64 xj, .int .i64 xo, .int .i64 xy, .int .i64 xv, .int .i64 xr] 46) r1
  exact ⟨rfl, H.out.own (s' := (canS s)) (((Chg.refl (S := fun k => k = p) w).set (g := p) (j := 7) rfl (v := .int .i64 4)).alloc _) rz rfl⟩
set_option maxRecDepth 100000 in
theorem mv_try (xk xx xh xj xo xy xv xr : Int) (n : Nat) (h : StAt w B (p, dv) s) :
    Calls Tryz.prog 164 #[.pointer (some ⟨p, 0, none⟩), evV ⟨xk, xx, xh, xj, xo, xy, xv, xr⟩, .int .i64 n] w (MvRet w B (p, dv) (tryS n s)) := by
  have l0 := row_lt h.row
  have H := hid h
  have r0 := h.row
  have y := row_cell r0
  have y0 := y 0
  have y1 := y 1
  have y2 := y 2
  have y3 := y 3
  have y4 := y 4
  have y5 := y 5
  have y6 := y 6
  have y7 := y 7
  simp [stCs] at y0 y1 y2 y3 y4 y5 y6 y7
  have yf : ∀ j, w.frozen? ⟨p, j, none⟩ = false := fun j => row_free r0 j
  have R0 := hid r0
  clear y h r0
  go_enter Tryz.func164, Tryz.ntmps164
  go_wp2
  go_ret
  have r1 := row_set R0.out 7 (.int .i64 3)
  have r2 := row_set r1 5 (.int .i64 n)
  have r3 := row_set r2 2 (.int .i64 2)
  have rz := row_old (o := .cells #[.int .i64 xk, .int .i64 xx, .int .i64 xh, .int .i64 xj, .int .i64 xo, .int .i64 xy, .int .i64 xv, .int .i64 xr] 46) r3
  exact ⟨rfl, H.out.own (s' := (tryS n s)) (((((Chg.refl (S := fun k => k = p) w).set (g := p) (j := 7) rfl (v := .int .i64 3)).set (g := p) (j := 5) rfl (v := .int .i64 n)).set (g := p) (j := 2) rfl (v := .int .i64 2)).alloc _) rz rfl⟩
set_option maxRecDepth 100000 in
theorem mv_end (xk xx xh xj xo xy xv xr : Int) (n : Nat) (c : Nat) (st : Int) (hc : w.heap[c]? = some (.cells #[.int .i64 st] 3 (0, 0))) (hcp : c ≠ p) (h : StAt w B (p, dv) s) :
    Calls Tryz.prog 160 #[.pointer (some ⟨p, 0, none⟩), evV ⟨xk, xx, xh, xj, xo, xy, xv, xr⟩, .int .i64 n, .pointer (some ⟨c, 0, none⟩)] w (MvRet w B (p, dv) (endS st n s)) := by
  have l0 := row_lt h.row
  have H := hid h
  have r0 := h.row
  have y := row_cell r0
  have y0 := y 0
  have y1 := y 1
  have y2 := y 2
  have y3 := y 3
  have y4 := y 4
  have y5 := y 5
  have y6 := y 6
  have y7 := y 7
  simp [stCs] at y0 y1 y2 y3 y4 y5 y6 y7
  have yf : ∀ j, w.frozen? ⟨p, j, none⟩ = false := fun j => row_free r0 j
  have R0 := hid r0
  clear y h r0
  have hc0 := row_cell hc 0
  have lc := row_lt hc
  simp at hc0
  clear hc
  go_enter Tryz.func160, Tryz.ntmps160
  go_wp2_with fail
  obtain ⟨W, hW⟩ : ∃ W, W = w.alloc (.cells #[.int .i64 xk, .int .i64 xx, .int .i64 xh, .int .i64 xj, .int .i64 xo, .int .i64 xy, .int .i64 xv, .int .i64 xr] 46) := ⟨_, rfl⟩
  have bW : Below w.heap.size w W := by rw [hW]; exact (Below.refl _ w).alloc (Nat.le_refl _) _
  rw [← hW]
  have r1 := row_below R0.out bW l0
  clear y0 y1 y2 y3 y4 y5 y6 y7 yf
  have y := row_cell r1
  have y0 := y 0
  have y1 := y 1
  have y2 := y 2
  have y3 := y 3
  have y4 := y 4
  have y5 := y 5
  have y6 := y 6
  have y7 := y 7
  simp [stCs] at y0 y1 y2 y3 y4 y5 y6 y7
  have yf : ∀ j, W.frozen? ⟨p, j, none⟩ = false := fun j => row_free r1 j
  have l1 := row_lt r1
  have lcW : w.heap.size ≤ W.heap.size := bW.size
  have hc0 := cell_below bW lc hc0
  have lc1 : c < W.heap.size := by omega
  have R1 := hid r1
  have BW := hid bW
  clear y r1 bW hW
  refine RK.wp_region_t (fun k => k = c) [0, 0, 0, 0, 1, 0, 0, 3, 0, 0, 0, 3, 0, 0, 0, 3] (RK.Tr.fin [0, 1, 2, 3, 4, 5, 6, 7, 8, 9, 10, 11, 12, 13, 14, 15]) (by kernel_rfl) (by kernel_rfl) (by kernel_rfl) (by kernel_rfl) ?_
  simp only [RK.wpT, selX, guardAt, sD, sE, sF, sG]
  repeat (first | (refine RK.wpL_p (fun K hK => ?_); go_simp; refine hK _ _ ?_; clear hK K) | (apply RK.wpL_s; (intro w2 hw2; have hk1 := hw2.cell; (try simp only at hk1); have hk3 := hw2.1; clear hw2; go_simp; with_reducible rfl); simp only [Act.put, sA, sB, sC]) | (refine RK.wpL_nil ?_))
  refine RK.wpL_k (fun K hK => ?_)
  go_simp
  refine hK _ _ (RK.KeepsN.set _ _ _ (fun h => hcp h.symm)) ?_
  clear hK K
  repeat (first | (refine RK.wpL_p (fun K hK => ?_); go_simp; refine hK _ _ ?_; clear hK K) | (apply RK.wpL_s; (intro w2 hw2; have hk1 := hw2.cell; (try simp only at hk1); have hk3 := hw2.1; clear hw2; go_simp; with_reducible rfl); simp only [Act.put, sA, sB, sC]) | (refine RK.wpL_nil ?_))
  refine RK.wpL_k (fun K hK => ?_)
  go_simp
  refine hK _ _ (RK.KeepsN.set _ _ _ (fun h => hcp h.symm)) ?_
  clear hK K
  repeat (first | (refine RK.wpL_p (fun K hK => ?_); go_simp; refine hK _ _ ?_; clear hK K) | (apply RK.wpL_s; (intro w2 hw2; have hk1 := hw2.cell; (try simp only at hk1); have hk3 := hw2.1; clear hw2; go_simp; with_reducible rfl); simp only [Act.put, sA, sB, sC]) | (refine RK.wpL_nil ?_))
  refine RK.wpL_k (fun K hK => ?_)
  go_simp
  refine hK _ _ (RK.KeepsN.set _ _ _ (fun h => hcp h.symm)) ?_
  clear hK K
  repeat (first | (refine RK.wpL_p (fun K hK => ?_); go_simp; refine hK _ _ ?_; clear hK K) | (apply RK.wpL_s; (intro w2 hw2; have hk1 := hw2.cell; (try simp only at hk1); have hk3 := hw2.1; clear hw2; go_simp; with_reducible rfl); simp only [Act.put, sA, sB, sC]) | (refine RK.wpL_nil ?_))
  go_wp2
  go_ret
  have r2 := row_set (row_drew R1.out) 7 (.int .i64 5)
  have r3 := row_set r2 4 (.int .i64 n)
  have r4 := row_set r3 2 (.int .i64 st)
  have hcg : Chg (fun k => k = p) w W.drew := (Chg.of_below BW.out).drew
  exact ⟨rfl, H.out.own (s' := endS st n s) (((hcg.set (g := p) (j := 7) rfl (v := .int .i64 5)).set (g := p) (j := 4) rfl (v := .int .i64 n)).set (g := p) (j := 2) rfl (v := .int .i64 st)) r4 rfl⟩
end
end Go.Proofs.YtogphaiomlfofaaGreatDoor
namespace Go.Proofs.YtogphaiomlfofaaGreatDoor
open Go.RowKit
set_option linter.unusedVariables false
set_option linter.unusedSimpArgs false
attribute [local irreducible] wpL

theorem e_Fits (k r : Int) (hk : k = 1 ∧ r = 3 ∨ k = 2 ∧ r = 1) (w : World) : Calls Tryz.prog 163 #[.int .i64 k, .int .i64 r] w fun e w' => e = .returned (.bool true) ∧ w' = w := by
  rcases hk with ⟨rfl, rfl⟩ | ⟨rfl, rfl⟩
  · go_enter Tryz.func163, Tryz.ntmps163
    go_wp2_with fail
    refine (e_Valued 1 (.inl rfl) _).mono ?_
    rintro e w1 ⟨rfl, rfl⟩
    go_wp2
    go_ret
    exact ⟨rfl, rfl⟩
  · go_enter Tryz.func163, Tryz.ntmps163
    go_wp2_with fail
    refine (e_Valued 2 (.inr rfl) _).mono ?_
    rintro e w1 ⟨rfl, rfl⟩
    go_wp2
    go_ret
    exact ⟨rfl, rfl⟩
theorem s_Index (v : Value) (l : List Int) (x : Int) (j : Nat) (w : World) (h : Sl w w.heap.size 1 v l.length (l.map (.int .i64))) (hj : l[j]? = some x) (hn : ∀ i : Nat, i < j → l[i]? ≠ some x) :
    Calls Tryz.prog 166 #[v, .int .i64 x] w fun e w' => e = .returned (.int .i64 j) ∧ w' = w := by
  obtain ⟨a, c, rfl, hm⟩ := h.ex
  have hl := (List.getElem?_eq_some_iff.1 hj).1
  have H := hid h
  have HJ := hid hj
  have HN := hid hn
  clear h hj hn
  go_enter Tryz.func166, Tryz.ntmps166
  go_wp2_with fail
  obtain ⟨W, rfl⟩ : ∃ W, W = w := ⟨_, rfl⟩
  go_loopw [8] (fun p wr => ∃ i : Nat, i ≤ j ∧ p = .int .i64 i ∧ wr = W) (fun p _ => j - (intOf p).toNat)
  case atStart => exact ⟨0, by omega, by go_num, rfl⟩
  case round =>
    obtain ⟨i, hi, rfl, rfl⟩ := hrel
    have hil : i < l.length := by omega
    obtain ⟨b, off, u, hat, hb, hx, hc⟩ := H.out.at1 hil
    subst hat
    have hx2 : ∃ y, l[i]? = some y ∧ u = .int .i64 y := by
      rw [List.getElem?_map] at hx
      cases hy : l[i]? with
      | none => rw [hy] at hx; cases hx
      | some y => rw [hy] at hx; exact ⟨y, rfl, by simpa using hx.symm⟩
    obtain ⟨y, hy, rfl⟩ := hx2
    clear hx
    by_cases hij : i = j
    · subst hij
      have e1 : y = x := by rw [HJ.out] at hy; exact (Option.some.inj hy).symm
      subst e1
      clear hy
      go_wp2
      go_ret
      exact ⟨rfl, rfl⟩
    · have e1 : (x == y) = false := by
        have := HN.out i (by omega)
        rw [hy] at this
        simp only [ne_eq, Option.some.injEq] at this
        simp; omega
      clear hy
      go_wp2_with fail
      go_roundw
      case rel => exact ⟨i + 1, by omega, by go_num, trivial⟩
      case measure => simp [intOf]; omega
theorem first_at (l : List Int) (x : Int) (h : x ∈ l) : ∃ j : Nat, l[j]? = some x ∧ ∀ i : Nat, i < j → l[i]? ≠ some x := by
  induction l with
  | nil => cases h
  | cons y l ih =>
    by_cases e : y = x
    · subst e
      exact ⟨0, rfl, fun i hi => by omega⟩
    · have : x ∈ l := by
        rcases List.mem_cons.1 h with h | h
        · exact absurd h.symm e
        · exact h
      obtain ⟨j, h1, h2⟩ := ih this
      refine ⟨j + 1, by simpa using h1, fun i hi => ?_⟩
      cases i with
      | zero => simpa using e
      | succ i => simpa using h2 i (by omega)
theorem s_Contains (v : Value) (l : List Int) (x : Int) (w : World) (h : Sl w w.heap.size 1 v l.length (l.map (.int .i64))) (hx : x ∈ l) :
    Calls Tryz.prog 123 #[v, .int .i64 x] w fun e w' => e = .returned (.bool true) ∧ w' = w := by
  obtain ⟨a, c, rfl, hm⟩ := h.ex
  obtain ⟨j, h1, h2⟩ := first_at l x hx
  have hl := (List.getElem?_eq_some_iff.1 h1).1
  have hi := hid (s_Index _ l x j w h h1 h2)
  clear h h1 h2 hx
  have q : decide ((j : Int) ≥ 0) = true := by simp
  have q2 : decide (0 ≤ (j : Int)) = true := by simp
  go_enter Tryz.func123, Tryz.ntmps123
  go_wp2_with fail
  refine hi.out.mono ?_
  rintro e w1 ⟨rfl, rfl⟩
  go_wp2
  go_ret
  exact ⟨rfl, rfl⟩
end Go.Proofs.YtogphaiomlfofaaGreatDoor
