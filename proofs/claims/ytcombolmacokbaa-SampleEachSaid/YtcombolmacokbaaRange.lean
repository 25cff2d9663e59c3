/- A range over a function whose iterator hands out things in memory: the statement's walk out of the iterator's word and one round's walk. Conditions: those of each theorem, as typed. -/
import Derived.RangeFuncNested
import Derived.RangeFuncBound
import Derived.RangeFuncCalls
import Derived.RangeFuncLeaves
import Derived.Shelf.Abstract
import Derived.WalkKit
import Derived.OwnWalkIn
import Derived.TacticsInMore
import Derived.LoopNIn
import Derived.LoopIn
namespace Go.Proofs.Ytcombolmacokbaa
open Go.RowKit

/-- What a round must keep of the iterator's own: the blocks from lo on, below hb. -/
structure KeepIn (lo hb : Nat) (A B : World) : Prop where
  size : A.heap.size ≤ B.heap.size
  block : ∀ k, lo ≤ k → k < hb → B.heap[k]? = A.heap[k]?

/-- The iterator's word: it calls yield N times, the i-th time with what H says, if each round keeps what it wants kept; or it is told to stop. -/
def Iter (P : Program) (gf m : Nat) (H : Nat → World → Nat → Array Value → Prop) (N : Nat) : Prop :=
  ∀ (l : Nat) (J Jx : Nat → World → Prop) (W : World), (∀ i A B, J i A → W.heap.size ≤ A.heap.size → Below A.heap.size A B → J i B) →
    (∀ (i : Nat) (W1 : World) (hb : Nat) (args : Array Value), i < N → J i W1 → W.heap.size ≤ hb → hb ≤ W1.heap.size → H i W1 hb args →
      YieldAt Fence.wide m P l args W1 fun e W' => (e = .returned (.bool true) ∧ J (i + 1) W' ∧ KeepIn W.heap.size hb W1 W') ∨ (e = .returned (.bool false) ∧ Jx (i + 1) W')) →
    J 0 W →
    CallsIn Fence.wide (m + 1) P gf #[.func (.yield l) #[] #[]] W fun e W' => (∃ v, e = .returned v) ∧ (J N W' ∨ ∃ i, 0 < i ∧ i ≤ N ∧ Jx i W')

def mark (D : Nat) : Deferred := { target := .collected D, args := #[] }

/-- How a round's body may be left. -/
def roundQ (lo hb : Nat) (I : Nat → World → Prop) (Ix : Code → Nat → World → Prop) (i : Nat) (W : World) : Exit → Act → World → Prop
  | .normal, _, W' => I i W' ∧ KeepIn lo hb W W'
  | .ret, _, W' => Ix .ret i W' ∧ KeepIn lo hb W W'
  | .exit id, _, W' => Ix (.exit id) i W' ∧ KeepIn lo hb W W'
  | .goto t, _, W' => Ix (.goto t) i W' ∧ KeepIn lo hb W W'
  | .panic _, _, _ => False
  | .outgrown, _, _ => False

theorem below_put {B : Nat} (W : World) (l : Nat) (o : Obj) (hl : B ≤ l) (h : l < W.heap.size) : Below B W (W.putObj l o) :=
  (Below.refl B W).grown (grownBy_putObj' W l o) (by omega) (fun k e => by cases e; omega)

theorem wpIn_range_own {P : Program} {m gf N : Nat} {H : Nat → World → Nat → Array Value → Prop} {g : Operand} {ps : Array Tmp} {assign body : Code} {Q : Exit → Act → World → Prop} {a : Act} {w : World}
    (hg : a.eval g = .func (.func gf) #[] #[]) (eg : ∀ args w, (callFunc gf args).run P w = .ok (.enter gf args) w) (hit : Iter P gf m H N) (hps : ∀ i W hb args, H i W hb args → args.size = ps.size)
    (I : Nat → World → Prop) (Ix : Code → Nat → World → Prop) (hI : ∀ i A B, I i A → w.heap.size ≤ A.heap.size → Below w.heap.size A B → I i B) (hIx : ∀ c i A B, Ix c i A → w.heap.size ≤ A.heap.size → Below w.heap.size A B → Ix c i B)
    (h0 : I 0 w)
    (hround : ∀ (i : Nat) (W1 : World) (hb : Nat) (args : Array Value), i < N → I i W1 → w.heap.size + 2 ≤ hb → hb ≤ W1.heap.size → H i W1 hb args →
      assign.wpIn (Fence.wide.inRound (w.heap.size + 1)) m P (Exit.then (fun a₁ w₁ => Below W1.heap.size W1 w₁ ∧ ∀ w₂, w₂.heap.size = w₁.heap.size → (∀ k, k ≠ w.heap.size + 1 → w₂.heap[k]? = w₁.heap[k]?) → Below w.heap.size w₁ w₂ →
        body.wpIn (Fence.wide.inRound (w.heap.size + 1)) m P (roundQ w.heap.size hb I Ix (i + 1) w₂) a₁ w₂) (fun _ _ _ => False))
        { tmps := (ps.zip args).foldl (fun t (p, v) => t.setIfInBounds p v) a.tmps, defers := [] } W1)
    (hdone : ∀ (W : World), I N W → w.heap.size + 2 ≤ W.heap.size → W.heap[w.heap.size]? = some (.deferred (some [])) → Q .normal { a with defers := mark w.heap.size :: a.defers } W)
    (hstop : ∀ (c : Code) (i : Nat) (W : World), 0 < i → i ≤ N → Ix c i W → w.heap.size + 2 ≤ W.heap.size → W.heap[w.heap.size]? = some (.deferred (some [])) → c.wpIn Fence.wide (m + 2) P Q { a with defers := mark w.heap.size :: a.defers } W) :
    (Code.rangeFunc g ps assign body).wpIn Fence.wide (m + 2) P Q a w := by
  refine wpIn_rangeFunc ?_
  intro fn hfn
  obtain ⟨rc, hrc⟩ : ∃ rc : LoopState → Option Code → Loop, rc = fun st pe => { state := st, pending := pe, fn, tmps := a.tmps, params := ps, assign, body, defers := w.heap.size } := ⟨_, rfl⟩
  obtain ⟨W0, hW0⟩ : ∃ W0, (w.alloc (.deferred (some []))).alloc (.loop (rc .ready none)) = W0 := ⟨_, rfl⟩
  have s0 : W0.heap.size = w.heap.size + 2 := by rw [← hW0]; simp
  have l0 : W0.heap[w.heap.size + 1]? = some (.loop (rc .ready none)) := by
    rw [← hW0]; have := World.alloc_heap_new (w.alloc (.deferred (some []))) (.loop (rc .ready none)); rwa [World.size_alloc] at this
  have d0 : W0.heap[w.heap.size]? = some (.deferred (some [])) := by
    rw [← hW0]; exact (Below.heap_alloc _ _ _ (by simp)).trans (World.alloc_heap_new w _)
  have b0 : Below w.heap.size w W0 := by rw [← hW0]; exact ((Below.refl _ w).alloc (Nat.le_refl _) _).alloc (by simp) _
  refine ⟨w.heap.size + 1, [mark w.heap.size], W0, { target := .fn (.func gf) #[], args := #[.func (.yield (w.heap.size + 1)) #[] #[]] }, W0, gf, #[.func (.yield (w.heap.size + 1)) #[] #[]], W0, ?_, ?_, ?_, ?_, fun _ => by omega, ?_⟩
  · rw [← hW0, hrc]; exact run_enterLoop_outer _ _ _ _ _
  · simp only [resolve, hg]
    simp [go_sem]
  · exact fun _ _ => trivial
  · simp [invoke, go_sem, eg]
  · have hK : ∀ {A B : World}, Below A.heap.size A B → w.heap.size + 2 ≤ A.heap.size → ∀ {k : Nat} {o : Obj}, k < w.heap.size + 2 → A.heap[k]? = some o → B.heap[k]? = some o :=
      fun hb hs k o hk h => (hb.block k (by omega)).trans h
    refine CallsIn.mono (hit (w.heap.size + 1)
      (fun i W => I i W ∧ w.heap.size + 2 ≤ W.heap.size ∧ W.heap[w.heap.size + 1]? = some (.loop (rc .ready none)) ∧ W.heap[w.heap.size]? = some (.deferred (some [])))
      (fun i W => ∃ c, Ix c i W ∧ w.heap.size + 2 ≤ W.heap.size ∧ W.heap[w.heap.size + 1]? = some (.loop (rc .done (some c))) ∧ W.heap[w.heap.size]? = some (.deferred (some [])))
      W0 ?_ ?_ ⟨hI _ _ _ h0 (Nat.le_refl _) b0, by omega, l0, d0⟩) ?_
    · rintro i A B ⟨h1, h2, h3, h4⟩ hs hb
      exact ⟨hI _ _ _ h1 (by omega) (hb.mono (by omega)), by have := hb.size; omega, hK hb h2 (by omega) h3, hK hb h2 (by omega) h4⟩
    · rintro i W1 hb args hi ⟨h1, h2, h3, h4⟩ hlo hhi hH
      have hlt : w.heap.size + 1 < W1.heap.size := by omega
      have hy := run_yield (P := P) (args := args) h3 (by rw [hrc]; exact hps _ _ _ _ hH)
      rw [hrc] at hy
      refine ⟨fn, _, assign, body, hy, roundIn_of_wpIn hfn ?_⟩
      refine wpIn_mono (hround i W1 hb args hi h1 (by omega) hhi hH) ?_
      intro e a1 w1 he
      cases e with
      | normal =>
        obtain ⟨hb1, hbody⟩ := he
        have sz1 := hb1.size
        have r1 : w1.heap[w.heap.size + 1]? = some (.loop (rc .ready none)) := hK hb1 h2 (by omega) h3
        have r2 : w1.heap[w.heap.size]? = some (.deferred (some [])) := hK hb1 h2 (by omega) h4
        refine ⟨_, run_beginRound r1 (by rw [hrc]), ?_⟩
        obtain ⟨w2, hw2⟩ : ∃ w2, w1.putObj (w.heap.size + 1) (.loop { rc .ready none with state := .busy }) = w2 := ⟨_, rfl⟩
        have q1 : w2.heap[w.heap.size + 1]? = some (.loop { rc .ready none with state := .busy }) := by rw [← hw2]; exact World.putObj_heap_same (by omega)
        have q2 : ∀ k, k ≠ w.heap.size + 1 → w2.heap[k]? = w1.heap[k]? := fun k hk => by rw [← hw2]; exact World.putObj_heap_other hk
        have q3 : w2.heap.size = w1.heap.size := by rw [← hw2]; simp [World.putObj]
        have q4 : Below w.heap.size w1 w2 := by rw [← hw2]; exact below_put w1 _ _ (by omega) (by omega)
        have q5 := (q2 w.heap.size (by omega)).trans r2
        rw [hw2]
        refine wpIn_mono (hbody w2 q3 q2 q4) ?_
        have fin : ∀ (jump : Option Code) (W3 : World), KeepIn w.heap.size hb w2 W3 →
            (Instr.endRound (w.heap.size + 1) jump).run P W3 = .ok (.bool jump.isNone) (W3.putObj (w.heap.size + 1) (.loop (rc (if jump.isNone then .ready else .done) jump))) ∧
            w.heap.size + 2 ≤ W3.heap.size ∧ Below w.heap.size W3 (W3.putObj (w.heap.size + 1) (.loop (rc (if jump.isNone then .ready else .done) jump))) ∧
            (W3.putObj (w.heap.size + 1) (.loop (rc (if jump.isNone then .ready else .done) jump))).heap[w.heap.size + 1]? = some (.loop (rc (if jump.isNone then .ready else .done) jump)) ∧
            (W3.putObj (w.heap.size + 1) (.loop (rc (if jump.isNone then .ready else .done) jump))).heap[w.heap.size]? = some (.deferred (some [])) := fun jump W3 hk3 => by
          have t1 : W3.heap[w.heap.size + 1]? = some (.loop { rc .ready none with state := .busy }) := (hk3.block _ (by omega) (by omega)).trans q1
          have t2 : W3.heap[w.heap.size]? = some (.deferred (some [])) := (hk3.block _ (by omega) (by omega)).trans q5
          have t3 := hk3.size
          have t4 := run_endRound (P := P) jump t1
          rw [hrc] at t4 ⊢
          exact ⟨t4, by omega, below_put W3 _ _ (by omega) (by omega), World.putObj_heap_same (by omega), (World.putObj_heap_other (by omega)).trans t2⟩
        have keep : ∀ (W3 : World) (o : Obj), KeepIn w.heap.size hb w2 W3 → (W3.putObj (w.heap.size + 1) (.loop (rc .ready none))).heap.size = W3.heap.size →
            KeepIn W0.heap.size hb W1 (W3.putObj (w.heap.size + 1) (.loop (rc .ready none))) := fun W3 o hk hs => by
          refine ⟨by rw [hs]; have := hk.size; omega, fun k hk1 hk2 => ?_⟩
          rw [s0] at hk1
          rw [World.putObj_heap_other (by omega), hk.block k (by omega) hk2, q2 k (by omega), hb1.block k (by omega)]
        rintro e a3 W3 hp
        cases e with
        | normal =>
          obtain ⟨hi3, hk3⟩ := hp
          obtain ⟨hr, f1, f2, f3, f4⟩ := fin none W3 hk3
          exact ⟨_, _, hr, .inl ⟨rfl, ⟨hI _ _ _ hi3 (by omega) f2, by simp [World.putObj]; omega, f3, f4⟩, keep W3 (.deferred none) hk3 (by simp [World.putObj])⟩⟩
        | ret =>
          obtain ⟨hi3, hk3⟩ := hp
          obtain ⟨hr, f1, f2, f3, f4⟩ := fin (some .ret) W3 hk3
          exact ⟨_, _, hr, .inr ⟨rfl, _, hIx _ _ _ _ hi3 (by omega) f2, by simp [World.putObj]; omega, f3, f4⟩⟩
        | exit id =>
          obtain ⟨hi3, hk3⟩ := hp
          obtain ⟨hr, f1, f2, f3, f4⟩ := fin (some (.exit id)) W3 hk3
          exact ⟨_, _, hr, .inr ⟨rfl, _, hIx _ _ _ _ hi3 (by omega) f2, by simp [World.putObj]; omega, f3, f4⟩⟩
        | goto t =>
          obtain ⟨hi3, hk3⟩ := hp
          obtain ⟨hr, f1, f2, f3, f4⟩ := fin (some (.goto t)) W3 hk3
          exact ⟨_, _, hr, .inr ⟨rfl, _, hIx _ _ _ _ hi3 (by omega) f2, by simp [World.putObj]; omega, f3, f4⟩⟩
        | panic ch => exact hp.elim
        | outgrown => exact hp.elim
      | ret => exact he.elim
      | exit id => exact he.elim
      | goto t => exact he.elim
      | panic ch => exact he.elim
      | outgrown => exact he.elim
    · rintro e W2 ⟨⟨v, rfl⟩, (⟨h1, h2, h3, h4⟩ | ⟨i, hi0, hi1, c, h1, h2, h3, h4⟩)⟩
      · exact ⟨none, _, by have := run_endLoop (P := P) h3 (by rw [hrc]; simp); rw [hrc] at this; exact this,
          hdone _ (hI _ _ _ h1 (by omega) (below_put W2 _ _ (by omega) (by omega))) (by simp [World.putObj]; omega) ((World.putObj_heap_other (by omega)).trans h4)⟩
      · exact ⟨some c, _, by have := run_endLoop (P := P) h3 (by rw [hrc]; simp); rw [hrc] at this; exact this,
          hstop c i _ hi0 hi1 (hIx _ _ _ _ h1 (by omega) (below_put W2 _ _ (by omega) (by omega))) (by simp [World.putObj]; omega) ((World.putObj_heap_other (by omega)).trans h4)⟩

/-- The blocks of the marks that have been left. -/
def Marks (base : Nat) (Ds : List Nat) (w : World) : Prop := Ds.Nodup ∧ ∀ D ∈ Ds, base ≤ D ∧ w.heap[D]? = some (.deferred (some []))

theorem leaves_marks {F : Fence} {n : Nat} {P : Program} {fn : Func} {tmps : Array Value} {R : Ending → World → Prop} {base : Nat} : ∀ (Ds : List Nat) (w : World), Marks base Ds w →
    (∀ w', Below base w w' → LeavesIn F n P fn tmps R [] .returning w') → LeavesInM F n P fn tmps R (Ds.map mark) .returning w
  | [], w, _, h => h w (Below.refl _ _)
  | D :: Ds, w, hM, h => by
    obtain ⟨hn, hM⟩ := hM
    rw [List.nodup_cons] at hn
    obtain ⟨hb, hd⟩ := hM D (by simp)
    have hlt : D < w.heap.size := (Array.getElem?_eq_some_iff.1 hd).1
    refine ⟨by simp, .inl ⟨D, _, rfl, run_takeDeferred hd, leaves_marks Ds _ ⟨hn.2, fun E hE => ⟨(hM E (by simp [hE])).1, ?_⟩⟩ (fun w' hb' => h w' ((below_put w D _ hb hlt).trans hb'))⟩⟩
    have hne : E ≠ D := fun e => hn.1 (e ▸ hE)
    exact (World.putObj_heap_other (by omega)).trans (hM E (by simp [hE])).2
end Go.Proofs.Ytcombolmacokbaa
