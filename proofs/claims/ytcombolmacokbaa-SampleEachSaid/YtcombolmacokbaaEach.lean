/- The law of the samples one by one. Conditions: those of each theorem, as typed. -/
import Derived.Test.YtcombolmacokbaaEachI
import Derived.Test.YtcombolmacokbaaSame
import Derived.Test.YtcombolmacokbaaSameP
namespace Go.Proofs.Ytcombolmacokbaa
open Go.RowKit
attribute [local go_sem] Oper.semAt_some

theorem p_eachv (w : World) : Calls Try.prog 20 #[] w fun e w' => e = .returned (.func (.func 42) #[] #[]) ∧ w' = w := by
  go_enter Try.func20, Try.ntmps20
  go_wp2
  go_ret
  exact ⟨rfl, rfl⟩

/-- The law's own variables that stay: the stop, the answer, the names. -/
structure Cal (p p5 g c : Nat) (stop : Int) (w : World) : Prop where
  r1 : w.heap[p]? = some (.cells #[.int .i64 stop] 3 (0, 0))
  r2 : w.heap[p + 1]? = some (.cells #[.bool false] 4 (0, 0))
  r5 : w.heap[p5]? = some (.cells #[.slice (some ⟨g, 0, none⟩) 4 c] 23 (0, 0))
  nm : ∀ k : Nat, k < 4 → w.cell? ⟨g, k, none⟩ = some (.string (nameAt k))
  lg : g < p5
theorem Cal.keep {p p5 g c : Nat} {stop : Int} {w w' : World} (h : Cal p p5 g c stop w) (hp : p + 1 < p5) (hk : ∀ k, k ≤ p5 → w'.heap[k]? = w.heap[k]?) : Cal p p5 g c stop w' :=
  ⟨(hk _ (by omega)).trans h.r1, (hk _ (by omega)).trans h.r2, (hk _ (by omega)).trans h.r5, fun k hk4 => (cell_heap (hk g (by have := h.lg; omega))).trans (h.nm k hk4), h.lg⟩

/-- What a round keeps: all that lay below hb, but for the block p7. -/
structure Kq (hb p7 : Nat) (A B : World) : Prop where
  size : A.heap.size ≤ B.heap.size
  block : ∀ k, k < hb → k ≠ p7 → B.heap[k]? = A.heap[k]?
theorem Kq.refl (hb p7 : Nat) (A : World) : Kq hb p7 A A := ⟨Nat.le_refl _, fun _ _ _ => rfl⟩
theorem Kq.trans {hb p7 : Nat} {A B C : World} (h : Kq hb p7 A B) (k : Kq hb p7 B C) : Kq hb p7 A C := ⟨Nat.le_trans h.size k.size, fun j h1 h2 => (k.block j h1 h2).trans (h.block j h1 h2)⟩
theorem Kq.below {hb p7 N : Nat} {A B : World} (h : Below N A B) (hN : hb ≤ N) : Kq hb p7 A B := ⟨h.size, fun k hk _ => h.block k (by omega)⟩
theorem Kq.set {hb p7 : Nat} (A : World) (b o : Nat) (v : Value) (ha : b = p7 ∨ hb ≤ b) : Kq hb p7 A (A.setCell ⟨b, o, none⟩ v) :=
  ⟨by simp, fun k hk h7 => Below.heap_setCell _ _ _ _ (by show k ≠ b; omega)⟩
theorem es_pos (i : Nat) (hi : i < 4) : 0 < (esAt i).length := by
  have h : i = 0 ∨ i = 1 ∨ i = 2 ∨ i = 3 := by omega
  rcases h with rfl | rfl | rfl | rfl
  · rw [show esAt 0 = staleE from congrArg (fun r => r.2.1) hist0]; decide
  · rw [show esAt 1 = tornE from congrArg (fun r => r.2.1) hist1]; decide
  · rw [show esAt 2 = earlyE from congrArg (fun r => r.2.1) hist2]; decide
  · rw [show esAt 3 = plainE from congrArg (fun r => r.2.1) hist3]; decide
theorem OwnF.kept2 {α : Type} {f : α → List Value} {e : TypeId} {sz B l : Nat} {w w' : World} {v : Value} {xs : List α} (h : OwnF f e sz w B v xs) (hs : w.heap.size ≤ w'.heap.size)
    (hk : ∀ k, k ≠ l → k < w.heap.size → w'.heap[k]? = w.heap[k]?) (ho : w'.os = w.os) (ht : w'.tape = w.tape) (hu : w'.output = w.output) (hl : l < B) : OwnF f e sz w' B v xs :=
  OwnF.kept h (row := some l) ⟨ho, ht, hu, hs, fun k hk1 hk2 => hk k (fun e => hk2 (by rw [e])) hk1⟩ (by
    cases hv : v.ownBlock with
    | none => exact .inl rfl
    | some b => exact .inr (by have := (h.lt b hv).1; simp; omega))

theorem LeavesIn.fin {F : Fence} {n : Nat} {P : Program} {fn : Func} {tmps : Array Value} {R : Ending → World → Prop} {w : World} {v : Value} (h : (results fn tmps).run P w = .ok v w) (hR : R (.returned v) w) : LeavesIn F n P fn tmps R [] .returning w := ⟨v, h, hR⟩

set_option maxRecDepth 100000 in
set_option maxHeartbeats 4000000 in
theorem law_each (stop : Int) (w : World) : Calls Try.prog 5 #[.int .i64 stop] w fun e w' => e = .returned (.bool true) ∧ Below w.heap.size w w' := by
  refine (callsIn_wide (n := 2 + 2)).1 ?_
  refine callsIn_of_wp_marks Try.func5 rfl trivial ?_ rfl
  simp only [Try.ntmps5, List.size_toArray, List.length_cons, List.length_nil, Nat.reduceAdd, Nat.reduceSub, Array.replicate_succ, Array.replicate_zero, List.push_toArray, List.append_toArray, List.nil_append, List.cons_append]
  gi_wp2_with fail
  refine ⟨trivial, (callsIn_wide.2 (p_first _)).mono ?_⟩
  rintro e w1 ⟨rfl, b1⟩
  have e1 : w1.heap[w.heap.size]? = some (.cells #[.int .i64 stop] 3 (0, 0)) := row_below (row_old (row_new w _)) b1 (by simp; omega)
  have e2 : w1.heap[w.heap.size + 1]? = some (.cells #[.bool false] 4 (0, 0)) := row_below (row_new' (by simp)) b1 (by simp)
  have s1 : w.heap.size + 2 ≤ w1.heap.size := by have := b1.size; simp at this; omega
  have B1 := hid ((((Below.refl _ w).alloc (Nat.le_refl _) (.cells #[.int .i64 stop] 3 (0, 0))).alloc (by simp) (.cells #[.bool false] 4 (0, 0))).trans (b1.mono (by simp; omega)))
  have E1 := hid e1
  have E2 := hid e2
  clear b1 e1 e2
  gi_wp2_with fail
  refine ⟨trivial, (callsIn_wide.2 (p_eachv _)).mono ?_⟩
  rintro e w2 ⟨rfl, rfl⟩
  have hnf : Sem.run Try.prog (binOp BinOp.eql 52 (Value.func (Fn.func 42) #[] #[]) Value.nilFunc) w2 = .ok (.bool false) w2 := by kernel_rfl
  gi_wp2_with fail
  refine ⟨trivial, (callsIn_wide.2 (r_names _)).mono ?_⟩
  intro e w3 h
  obtain ⟨g, c, rfl, N3, hg, hc, b3⟩ := h.parts (by decide)
  clear h hnf
  rw [show nameL.length = 4 from rfl]
  have hgb : w2.heap.size ≤ g := (N3.lt g rfl).1
  have s3 := b3.size
  have C3 : Cal w.heap.size w3.heap.size g c stop (w3.alloc (.cells #[.slice (some ⟨g, 0, none⟩) 4 c] 23)) :=
    ⟨row_old (row_below E1.out b3 (by omega)), row_old (row_below E2.out b3 (by omega)), row_new _ _, fun k hk => cell_old' hg (hc k _ (by
      rw [show nameAt k = nameL.getD k ⟨#[]⟩ from rfl, List.getD_eq_getElem?_getD]
      have : nameL[k]? = some (nameL[k]'(by show k < 4; exact hk)) := List.getElem?_eq_getElem _
      rw [this]; rfl)), hg⟩
  have B3 := hid ((B1.out.trans (b3.mono B1.out.size)).alloc (by omega) (.cells #[.slice (some ⟨g, 0, none⟩) 4 c] 23))
  have C4 := C3.keep (w' := (w3.alloc (.cells #[.slice (some ⟨g, 0, none⟩) 4 c] 23)).alloc (.cells #[.int .i64 0] 3)) (by omega) (fun k hk => Below.heap_alloc _ _ _ (by simp; omega))
  have CC := hid C4
  have hp : w.heap.size + 1 < w3.heap.size := by omega
  clear C3 C4 hc N3 b3 E1 E2 B1 hgb s3 s1 hg
  gi_wp2_with fail
  have h6 : ((w3.alloc (.cells #[.slice (some ⟨g, 0, none⟩) 4 c] 23)).alloc (.cells #[.int .i64 0] 3)).heap[w3.heap.size + 1]? = some (.cells #[.int .i64 0] 3 (0, 0)) := row_new' (by simp)
  have B4 := hid (B3.out.alloc B3.out.size (.cells #[.int .i64 0] 3))
  clear B3
  generalize (w3.alloc (.cells #[.slice (some ⟨g, 0, none⟩) 4 c] 23)).alloc (.cells #[.int .i64 0] 3) = w4 at *
  generalize w3.heap.size = p5 at *
  clear w3
  refine wpIn_loop (fun a wr => ∃ (Ds : List Nat) (p6 : Nat) (u7 u23 u24 u25 u26 u27 u72 u73 u74 u75 u76 u77 u78 u79 u80 u81 u82 u83 u84 u85 u86 : Value), Ds.length ≤ 2 ∧ p5 < p6 ∧ Cal w.heap.size p5 g c stop wr ∧ wr.heap[p6]? = some (.cells #[.int .i64 (Ds.length : Int)] 3 (0, 0)) ∧ Marks p5 Ds wr ∧ Below w.heap.size w wr ∧
      a = { tmps := #[.int .i64 stop, .pointer (some ⟨w.heap.size, 0, none⟩), .pointer (some ⟨w.heap.size + 1, 0, none⟩), .bool true, .func (.func 42) #[] #[], .pointer (some ⟨p5, 0, none⟩), .pointer (some ⟨p6, 0, none⟩), u7, undef, undef, undef, undef, undef, undef, undef, undef, undef, undef, .bool true, .func (.func 42) #[] #[], .func (.func 42) #[] #[], .bool false, .slice (some ⟨g, 0, none⟩) 4 c, u23, u24, u25, u26, u27, undef, undef, undef, undef, undef, undef, undef, undef, undef, undef, undef, undef, undef, undef, undef, undef, undef, undef, undef, undef, undef, undef, undef, undef, undef, undef, undef, undef, undef, undef, undef, undef, undef, undef, undef, undef, undef, undef, undef, undef, undef, undef, undef, undef, u72, u73, u74, u75, u76, u77, u78, u79, u80, u81, u82, u83, u84, u85, u86, undef, undef, undef, undef, undef, undef, undef, undef, undef, undef, undef, undef, undef, undef, undef, undef, undef, undef, undef, undef], defers := Ds.map mark }) (fun a _ => 2 - a.defers.length) ?_ ?_
  · exact ⟨[], p5 + 1, undef, undef, undef, undef, undef, undef, undef, undef, undef, undef, undef, undef, undef, undef, undef, undef, undef, undef, undef, undef, undef, by simp, by omega, CC.out, h6, ⟨List.nodup_nil, by simp⟩, B4.out, rfl⟩
  clear h6 CC B4 w4
  rintro _ wr ⟨Ds, p6, u7, u23, u24, u25, u26, u27, u72, u73, u74, u75, u76, u77, u78, u79, u80, u81, u82, u83, u84, u85, u86, hDs, h56, hC, h6, hM, hB, rfl⟩
  have c6 := row_cell h6 0
  have l6 := row_lt h6
  have CC := hid hC
  have H6 := hid h6
  have MM := hid hM
  have BB := hid hB
  clear hC h6 hM hB
  by_cases hlt : Ds.length < 2
  · gi_wp2_with fail
    have h7 : (wr.alloc (.cells #[.int .i64 0] 3)).heap[wr.heap.size]? = some (.cells #[.int .i64 ((0 : Nat) : Int)] 3 (0, 0)) := row_new wr _
    have hMl : ∀ D ∈ Ds, D < wr.heap.size := fun D hD => row_lt (MM.out.2 D hD).2
    have hC : Cal w.heap.size p5 g c stop (wr.alloc (.cells #[.int .i64 0] 3)) := CC.out.keep hp (fun k hk => Below.heap_alloc _ _ _ (by omega))
    have h6 := row_old (o := .cells #[.int .i64 0] 3) H6.out
    have hM : Marks p5 Ds (wr.alloc (.cells #[.int .i64 0] 3)) := ⟨MM.out.1, fun D hD => ⟨(MM.out.2 D hD).1, row_old (MM.out.2 D hD).2⟩⟩
    have hB := BB.out.alloc BB.out.size (.cells #[.int .i64 0] 3)
    have sq : (wr.alloc (.cells #[.int .i64 0] 3)).heap.size = wr.heap.size + 1 := by simp
    clear CC H6 MM BB c6
    generalize wr.alloc (.cells #[.int .i64 0] 3) = wq at *
    generalize wr.heap.size = p7 at *
    clear wr
    have hI : ∀ (i : Nat) (A B : World), (Cal w.heap.size p5 g c stop A ∧ A.heap[p6]? = some (.cells #[.int .i64 (Ds.length : Int)] 3 (0, 0)) ∧ A.heap[p7]? = some (.cells #[.int .i64 (i : Int)] 3 (0, 0)) ∧ Marks p5 Ds A ∧ Below w.heap.size w A) →
        wq.heap.size ≤ A.heap.size → Below wq.heap.size A B → (Cal w.heap.size p5 g c stop B ∧ B.heap[p6]? = some (.cells #[.int .i64 (Ds.length : Int)] 3 (0, 0)) ∧ B.heap[p7]? = some (.cells #[.int .i64 (i : Int)] 3 (0, 0)) ∧ Marks p5 Ds B ∧ Below w.heap.size w B) := by
      rintro i A B ⟨h1, h2, h3, h4, h5⟩ hs hb
      exact ⟨h1.keep hp (fun k hk => hb.block k (by omega)), row_below h2 hb (by omega), row_below h3 hb (by omega), ⟨h4.1, fun D hD => ⟨(h4.2 D hD).1, row_below (h4.2 D hD).2 hb (by have := hMl D hD; omega)⟩⟩, h5.trans (hb.mono (by omega))⟩
    refine wpIn_range_own (m := 2) (gf := 42) (N := 4) (H := Handed) rfl (enters_of Try.func42 (by kernel_rfl) rfl) (p_each 2) (fun i W hb args h => by obtain ⟨_, _, _, _, rfl, _⟩ := h; rfl)
      (fun i A => Cal w.heap.size p5 g c stop A ∧ A.heap[p6]? = some (.cells #[.int .i64 (Ds.length : Int)] 3 (0, 0)) ∧ A.heap[p7]? = some (.cells #[.int .i64 (i : Int)] 3 (0, 0)) ∧ Marks p5 Ds A ∧ Below w.heap.size w A)
      (fun c' i A => c' = .exit 2 ∧ (Ds.length = 0 ∧ (i : Int) = stop) ∧ (Cal w.heap.size p5 g c stop A ∧ A.heap[p6]? = some (.cells #[.int .i64 (Ds.length : Int)] 3 (0, 0)) ∧ A.heap[p7]? = some (.cells #[.int .i64 (i : Int)] 3 (0, 0)) ∧ Marks p5 Ds A ∧ Below w.heap.size w A))
      hI (fun c' i A B h hs hb => ⟨h.1, h.2.1, hI i A B h.2.2 hs hb⟩) ⟨hC, h6, h7, hM, hB⟩ ?_ ?_ ?_
    · clear hC h6 h7 hM hB
      rintro i W1 hb args hi ⟨hC, h6, h7, hM, hB⟩ hlo hhi ⟨ao, co, ae, ce, rfl, O1, E1⟩
      gi_wp2_with fail
      refine ⟨(Below.refl _ _).alloc (Nat.le_refl _) _, ?_⟩
      intro w2 z2 k2 b2
      obtain ⟨ge, ce', hae, hge, hgl⟩ : ∃ g' cap', (Value.slice ae (esAt i).length ce) = .slice (some ⟨g', 0, none⟩) (esAt i).length cap' ∧ hb ≤ g' ∧ g' < W1.heap.size := by
        rcases E1.form with ⟨-, h⟩ | h
        · have := es_pos i hi; rw [h] at this; simp at this
        · exact h
      simp only [Value.slice.injEq] at hae
      obtain ⟨rfl, -, rfl⟩ := hae
      have hO : OwnO w2 hb (.slice ao (osAt i).length co) (osAt i) := OwnF.kept2 (l := wq.heap.size + 1) (O1.alloc (.cells #[.slice ao (osAt i).length co, .slice (some ⟨ge, 0, none⟩) (esAt i).length ce] 28)) (by rw [z2]; exact Nat.le_refl _) (fun k hk _ => k2 k hk) b2.os b2.tape b2.output (by omega)
      have hE : OwnE w2 hb (.slice (some ⟨ge, 0, none⟩) (esAt i).length ce) (esAt i) := OwnF.kept2 (l := wq.heap.size + 1) (E1.alloc (.cells #[.slice ao (osAt i).length co, .slice (some ⟨ge, 0, none⟩) (esAt i).length ce] 28)) (by rw [z2]; exact Nat.le_refl _) (fun k hk _ => k2 k hk) b2.os b2.tape b2.output (by omega)
      have r9 : w2.heap[W1.heap.size]? = some (.cells #[.slice ao (osAt i).length co, .slice (some ⟨ge, 0, none⟩) (esAt i).length ce] 28 (0, 0)) := (k2 _ (by omega)).trans (row_new W1 _)
      have key := hI i W1 w2 ⟨hC, h6, h7, hM, hB⟩ (by omega) ((((Below.refl wq.heap.size W1).alloc (by omega) _)).trans b2)
      clear hC h6 h7 hM hB
      obtain ⟨hC, h6, h7, hM, hB⟩ := key
      have sz2 : w2.heap.size = W1.heap.size + 1 := by rw [z2]; simp
      generalize W1.heap.size = p9 at *
      clear O1 E1 k2 b2 z2 W1
      have d5 := row_cell hC.r5 0
      have d7 := row_cell h7 0
      have dn := hC.nm i hi
      have l5 := row_lt hC.r5
      have l7 := row_lt h7
      have lg : g < w2.heap.size := by have := hC.lg; omega
      have hi4 : ¬ ((4 : Int) ≤ (i : Int)) := by omega
      have g1 : p7 + 3 ≤ hb := by omega
      have hlen : (esAt i).length ≤ 9223372036854775807 := by obtain ⟨_, _, _, h⟩ := hE.sl.ex; exact h
      have CC := hid hC
      have H6 := hid h6
      have H7 := hid h7
      have MM := hid hM
      have BB := hid hB
      have OO := hid hO
      have EE := hid hE
      have R9 := hid r9
      have SQ := hid sq
      have S2 := hid sz2
      clear hC h6 h7 hM hB hO hE r9 sq sz2
      gi_wp2_with fail
      refine ⟨trivial, CallsIn.inRound _ (CallsIn.mono (callsIn_wide.2 (r_get _ _)) ?_)⟩
      rw [show histOf (nameAt i).toList = (osAt i, esAt i, (histOf (nameAt i).toList).2.2) from rfl]
      generalize (histOf (nameAt i).toList).2.2 = bb
      intro e w3 h
      obtain ⟨a3, c3, a3', c3', rfl, o3, e3, b3⟩ := h.ex
      clear h
      dsimp only at o3 e3
      have z3 := b3.size
      have b4 := b3.alloc b3.size (.cells #[.slice a3 (osAt i).length c3, .slice a3' (esAt i).length c3'] 28)
      have r9 := row_below R9.out b4 (by have := S2.out; omega)
      have d90 := row_cell r9 0
      have d91 := row_cell r9 1
      have l9 := row_lt r9
      have hO := OwnF.below OO.out b4
      have hE := OwnF.below EE.out b4
      have o4 := o3.alloc (.cells #[.slice a3 (osAt i).length c3, .slice a3' (esAt i).length c3'] 28)
      have e4 := e3.alloc (.cells #[.slice a3 (osAt i).length c3, .slice a3' (esAt i).length c3'] 28)
      have r10 := row_new w3 (.cells #[.slice a3 (osAt i).length c3, .slice a3' (esAt i).length c3'] 28)
      have R9 := hid r9
      have OO := hid hO
      have EE := hid hE
      have O4 := hid o4
      have E4 := hid e4
      have B4 := hid b4
      clear r9 r10 hO hE o4 e4 o3 e3 b3 b4 d5 d7 dn l5 l7 lg
      gi_wp2_with fail
      refine ⟨trivial, CallsIn.inRound _ (CallsIn.mono (callsIn_wide.2 (sameHistory_eq _ _ _ _ (osAt i) (esAt i) _ OO.out.sl O4.out.sl EE.out.sl E4.out.sl)) ?_)⟩
      rintro e w5 ⟨rfl, b5⟩
      have b6 := B4.out.trans (b5.mono B4.out.size)
      have q5 : Kq hb p7 w2 w5 := Kq.below b6 (by have := S2.out; omega)
      have r9 := row_below R9.out b5 (row_lt R9.out)
      have sh : Shape w5 hb 39 8 ge (esAt i).length ce := EE.out.shape.below b5
      have B5 := hid (BB.out.trans (b6.mono BB.out.size))
      have Q5 := hid q5
      have R9' := hid r9
      have H7 := hid (row_below H7.out b6 (row_lt H7.out))
      have SH := hid sh
      have hsz5 := b6.size
      clear R9 OO EE O4 E4 B4 b5 b6 q5 r9 sh d90 d91 l9
      gi_wp2_with fail
      gi_loopw [12] (fun kk wr => ∃ k : Nat, k ≤ (esAt i).length ∧ kk = .int .i64 k ∧ wr.heap[p9]? = some (.cells #[.slice ao (osAt i).length co, .slice (some ⟨ge, 0, none⟩) (esAt i).length ce] 28 (0, 0)) ∧
        Shape wr hb 39 8 ge (esAt i).length ce ∧ Kq hb p7 w2 wr ∧ Below w.heap.size w wr ∧ wr.heap[p7]? = some (.cells #[.int .i64 (i : Int)] 3 (0, 0))) (fun kk _ => (esAt i).length - (intOf kk).toNat)
      case atStart => exact ⟨0, by omega, by go_num, R9'.out, SH.out, Q5.out, B5.out, H7.out⟩
      case round =>
        obtain ⟨k, hk, rfl, r9, sh, q5, bb5, h7⟩ := hrel
        clear R9' SH Q5 B5 H7
        have H7 := hid h7
        clear h7
        have d91 := row_cell r9 1
        have l9 := row_lt r9
        have R9 := hid r9
        have SH := hid sh
        have Q5 := hid q5
        have B5 := hid bb5
        clear r9 sh q5 bb5
        by_cases hlk : k < (esAt i).length
        · obtain ⟨u, hu⟩ := SH.out.at (j := k * 8 + 1) (by have := SH.out.le; omega)
          have hf := SH.out.free (k * 8 + 1)
          have hg := SH.out.lt
          gi_wp2_with fail
          go_roundw
          case rel => exact ⟨k + 1, by omega, by go_num, row_other R9.out (by omega), SH.out.set _ _ _, Q5.out.trans (Kq.set _ _ _ _ (.inr hge)), B5.out.setCell (p := ⟨ge, k * 8 + 1, none⟩) (by have := BB.out.size; show w.heap.size ≤ ge; omega) _, row_other H7.out (by omega)⟩
          case measure => simp [intOf]; omega
        · obtain rfl : k = (esAt i).length := by omega
          have CC := hid (CC.out.keep hp (fun k hk => Q5.out.block k (by omega) (by omega)))
          have H6 := hid ((Q5.out.block p6 (by omega) (by omega)).trans H6.out)
          have MM : Hid (Marks p5 Ds wr) := hid ⟨MM.out.1, fun D hD => ⟨(MM.out.2 D hD).1, (Q5.out.block D (by have := hMl D hD; omega) (by have := hMl D hD; omega)).trans (MM.out.2 D hD).2⟩⟩
          have fin : ∀ v, (Cal w.heap.size p5 g c stop (wr.setCell ⟨p7, 0, none⟩ v) ∧ (wr.setCell ⟨p7, 0, none⟩ v).heap[p6]? = some (.cells #[.int .i64 (Ds.length : Int)] 3 (0, 0)) ∧ (wr.setCell ⟨p7, 0, none⟩ v).heap[p7]? = some (.cells #[v] 3 (0, 0)) ∧ Marks p5 Ds (wr.setCell ⟨p7, 0, none⟩ v) ∧ Below w.heap.size w (wr.setCell ⟨p7, 0, none⟩ v)) ∧ KeepIn wq.heap.size hb w2 (wr.setCell ⟨p7, 0, none⟩ v) := fun v =>
            ⟨⟨CC.out.keep hp (fun k hk => Below.heap_setCell _ _ _ _ (by show k ≠ p7; omega)), row_other H6.out (by omega), row_set H7.out 0 v, ⟨MM.out.1, fun D hD => ⟨(MM.out.2 D hD).1, row_other (MM.out.2 D hD).2 (by have := hMl D hD; omega)⟩⟩,
              B5.out.setCell (p := ⟨p7, 0, none⟩) (by show w.heap.size ≤ p7; omega) v⟩, by have := Q5.out.size; simp; omega, fun k hk1 hk2 => (Below.heap_setCell _ _ _ _ (by have := SQ.out; show k ≠ p7; omega)).trans (Q5.out.block k hk2 (by have := SQ.out; omega))⟩
          have d6 := row_cell H6.out 0
          have l6' := row_lt H6.out
          have d7 := row_cell H7.out 0
          have f7 := row_free H7.out 0
          have l7 := row_lt H7.out
          have d1 := row_cell CC.out.r1 0
          have l1 := row_lt CC.out.r1
          have n1 : w.heap.size ≠ p7 := by omega
          have n6 : p6 ≠ p7 := by omega
          have F := hid fin
          clear fin hMl hI R9 SH Q5 B5 S2 SQ CC MM H6 BB
          by_cases hr0 : Ds.length = 0
          · rw [hr0] at d6
            by_cases hst : (i : Int) + 1 = stop
            · subst hst
              gi_wp2_with fail
              have f := F.out (.int .i64 ((i : Int) + 1))
              have e : ((i + 1 : Nat) : Int) = (i : Int) + 1 := by omega
              simp only [roundQ, e]
              exact ⟨⟨trivial, ⟨hr0, trivial⟩, f.1⟩, f.2⟩
            · have hsb : ((i : Int) + 1 == stop) = false := by simpa using hst
              gi_wp2_with fail
              have f := F.out (.int .i64 ((i : Int) + 1))
              have e : ((i + 1 : Nat) : Int) = (i : Int) + 1 := by omega
              simp only [roundQ, e]
              exact f
          · have hrb : ((Ds.length : Int) == 0) = false := beq_eq_false_iff_ne.2 (by omega)
            gi_wp2_with fail
            have f := F.out (.int .i64 ((i : Int) + 1))
            have e : ((i + 1 : Nat) : Int) = (i : Int) + 1 := by omega
            simp only [roundQ, e]
            exact f
    · clear hC h6 h7 hM hB
      rintro W ⟨hC, h6, h7, hM, hB⟩ hs hd
      have d1 := row_cell hC.r1 0
      have d5 := row_cell hC.r5 0
      have d6 := row_cell h6 0
      have d7 := row_cell h7 0
      have l1 := row_lt hC.r1
      have l5 := row_lt hC.r5
      have l6 := row_lt h6
      have l7 := row_lt h7
      have CC := hid hC
      have H6 := hid h6
      have H7 := hid h7
      have MM := hid hM
      have BB := hid hB
      clear hC h6 h7 hM hB
      have SQ := hid sq
      clear sq
      gi_wp2_with fail
      have hB1 := BB.out.alloc BB.out.size (.cells #[.int .i64 ((Ds.length : Int) + 1)] 3)
      have sq := SQ.out
      refine ⟨⟨wq.heap.size :: Ds, W.heap.size, _, _, _, _, _, _, _, _, _, _, _, _, _, _, _, _, _, _, _, _, _, ?_, ?_, ?_, ?_, ?_, ?_, rfl⟩, ?_⟩
      · simp; omega
      · omega
      · exact CC.out.keep hp (fun k hk => Below.heap_alloc _ _ _ (by omega))
      · refine (row_new W _).trans ?_
        simp; try omega
      · refine ⟨List.nodup_cons.2 ⟨fun h => by have := hMl _ h; omega, MM.out.1⟩, fun D hD => ?_⟩
        rcases List.mem_cons.1 hD with rfl | hD
        · exact ⟨by omega, row_old hd⟩
        · exact ⟨(MM.out.2 D hD).1, row_old (MM.out.2 D hD).2⟩
      · exact hB1
      · simp; omega
    · clear hC h6 h7 hM hB
      rintro c' i W hi0 hi4 ⟨rfl, ⟨hr0, hst⟩, hC, h6, h7, hM, hB⟩ hs hd
      have d1 := row_cell hC.r1 0
      have d5 := row_cell hC.r5 0
      have d6 := row_cell h6 0
      have d7 := row_cell h7 0
      have l1 := row_lt hC.r1
      have l5 := row_lt hC.r5
      have l6 := row_lt h6
      have l7 := row_lt h7
      have CC := hid hC
      have H6 := hid h6
      have H7 := hid h7
      have MM := hid hM
      have BB := hid hB
      clear hC h6 h7 hM hB
      have SQ := hid sq
      clear sq
      rw [hr0] at d6
      rw [← hst] at d1
      clear hst
      by_cases hi4' : i = 4
      · subst hi4'
        gi_wp2_with fail
        have hB1 := BB.out.alloc BB.out.size (.cells #[.int .i64 (1)] 3)
        have sq := SQ.out
        refine ⟨⟨wq.heap.size :: Ds, W.heap.size, _, _, _, _, _, _, _, _, _, _, _, _, _, _, _, _, _, _, _, _, _, ?_, ?_, ?_, ?_, ?_, ?_, rfl⟩, ?_⟩
        · simp; omega
        · omega
        · exact CC.out.keep hp (fun k hk => Below.heap_alloc _ _ _ (by omega))
        · refine (row_new W _).trans ?_
          simp; try omega
        · refine ⟨List.nodup_cons.2 ⟨fun h => by have := hMl _ h; omega, MM.out.1⟩, fun D hD => ?_⟩
          rcases List.mem_cons.1 hD with rfl | hD
          · exact ⟨by omega, row_old hd⟩
          · exact ⟨(MM.out.2 D hD).1, row_old (MM.out.2 D hD).2⟩
        · exact hB1
        · simp; omega
      · have hi5 : ((i : Int) == 4) = false := by simp; omega
        gi_wp2_with fail
        have hB1 := BB.out.alloc BB.out.size (.cells #[.int .i64 (1)] 3)
        have sq := SQ.out
        refine ⟨⟨wq.heap.size :: Ds, W.heap.size, _, _, _, _, _, _, _, _, _, _, _, _, _, _, _, _, _, _, _, _, _, ?_, ?_, ?_, ?_, ?_, ?_, rfl⟩, ?_⟩
        · simp; omega
        · omega
        · exact CC.out.keep hp (fun k hk => Below.heap_alloc _ _ _ (by omega))
        · refine (row_new W _).trans ?_
          simp; try omega
        · refine ⟨List.nodup_cons.2 ⟨fun h => by have := hMl _ h; omega, MM.out.1⟩, fun D hD => ?_⟩
          rcases List.mem_cons.1 hD with rfl | hD
          · exact ⟨by omega, row_old hd⟩
          · exact ⟨(MM.out.2 D hD).1, row_old (MM.out.2 D hD).2⟩
        · exact hB1
        · simp; omega
  · have hr2 : Ds.length = 2 := by omega
    rw [hr2] at c6
    gi_wp2_with fail
    refine ⟨trivial, (callsIn_wide.2 (p_caught _)).mono ?_⟩
    intro e w5 h
    obtain ⟨ac, kc, gt, kt, gs, ks, rfl, -, -, O5, T5, E5, b5⟩ := h.parts
    clear h
    have q5 : Below wr.heap.size wr (w5.alloc (.cells #[.slice ac 2 kc, .slice (some ⟨gt, 0, none⟩) 2 kt] 35)) := b5.alloc b5.size _
    have a5 := (Below.refl _ w5).alloc (Nat.le_refl _) (.cells #[.slice ac 2 kc, .slice (some ⟨gt, 0, none⟩) 2 kt] 35)
    have r5 := row_new w5 (.cells #[.slice ac 2 kc, .slice (some ⟨gt, 0, none⟩) 2 kt] 35)
    have O5 := hid (O5.below a5)
    have T5 := hid (T5.below a5)
    have E5 := hid (E5.below a5)
    have R5 := hid r5
    have Q5 := hid q5
    clear q5 a5 r5 b5
    gi_wp2_with fail
    refine ⟨trivial, (callsIn_wide.2 (r_caught _)).mono ?_⟩
    intro e w6 h
    obtain ⟨ad, kd, ht, ke, hs, kf, rfl, -, -, O6, T6, E6, b6⟩ := h.parts
    clear h
    have z6 : w5.heap.size + 1 ≤ w6.heap.size := by have := b6.size; simpa using this
    have a6 := (Below.refl _ w6).alloc (Nat.le_refl _) (.cells #[.slice ad 2 kd, .slice (some ⟨ht, 0, none⟩) 2 ke] 35)
    have c6 : Below (w5.alloc (.cells #[.slice ac 2 kc, .slice (some ⟨gt, 0, none⟩) 2 kt] 35)).heap.size (w5.alloc (.cells #[.slice ac 2 kc, .slice (some ⟨gt, 0, none⟩) 2 kt] 35)) (w6.alloc (.cells #[.slice ad 2 kd, .slice (some ⟨ht, 0, none⟩) 2 ke] 35)) := b6.alloc b6.size _
    have r5 := row_below R5.out c6 (by simp)
    have r6 := row_new w6 (.cells #[.slice ad 2 kd, .slice (some ⟨ht, 0, none⟩) 2 ke] 35)
    have O5 := hid ((O5.out.below (c6.mono (by simp))).more (B' := (w6.alloc (.cells #[.slice ad 2 kd, .slice (some ⟨ht, 0, none⟩) 2 ke] 35)).heap.size) (by simp; omega))
    have T5 := hid ((T5.out.below (c6.mono (by simp))).more (B' := (w6.alloc (.cells #[.slice ad 2 kd, .slice (some ⟨ht, 0, none⟩) 2 ke] 35)).heap.size) (by simp; omega))
    have E5 := hid ((E5.out.below (c6.mono (by simp))).more (B' := (w6.alloc (.cells #[.slice ad 2 kd, .slice (some ⟨ht, 0, none⟩) 2 ke] 35)).heap.size) (by simp; omega))
    have O6 := hid ((O6.below a6).more (B' := (w6.alloc (.cells #[.slice ad 2 kd, .slice (some ⟨ht, 0, none⟩) 2 ke] 35)).heap.size) (by simp))
    have T6 := hid ((T6.below a6).more (B' := (w6.alloc (.cells #[.slice ad 2 kd, .slice (some ⟨ht, 0, none⟩) 2 ke] 35)).heap.size) (by simp))
    have E6 := hid ((E6.below a6).more (B' := (w6.alloc (.cells #[.slice ad 2 kd, .slice (some ⟨ht, 0, none⟩) 2 ke] 35)).heap.size) (by simp))
    have Q6 := hid (Q5.out.trans (c6.mono Q5.out.size))
    have d50 := row_cell r5 0
    have d51 := row_cell r5 1
    have d60 := row_cell r6 0
    have d61 := row_cell r6 1
    have e6 : w6.heap.size < (w6.alloc (.cells #[.slice ad 2 kd, .slice (some ⟨ht, 0, none⟩) 2 ke] 35)).heap.size := by simp
    have e5 : w5.heap.size < (w6.alloc (.cells #[.slice ad 2 kd, .slice (some ⟨ht, 0, none⟩) 2 ke] 35)).heap.size := by simp; omega
    clear a6 c6 r5 r6 R5 Q5 b6
    gi_wp2_with fail
    generalize w6.alloc (.cells #[.slice ad 2 kd, .slice (some ⟨ht, 0, none⟩) 2 ke] 35) = w7 at *
    refine ⟨trivial, (callsIn_wide.2 (sameProgram_eq _ _ _ _ [0, 0] caughtT _ O5.out O6.out T5.out T6.out)).mono ?_⟩
    rintro e w8 ⟨rfl, b8⟩
    clear d50 d51 d60 d61 e5 e6
    gi_wp2_with fail
    refine ⟨trivial, (callsIn_wide.2 (sameInts_eq _ _ caughtS 13 _ ((E5.out.below b8).more b8.size) ((E6.out.below b8).more b8.size))).mono ?_⟩
    rintro e w9 ⟨rfl, b9⟩
    have Q9 := hid (Q6.out.trans ((b8.trans (b9.mono b8.size)).mono Q6.out.size))
    have z9 := Q9.out.size
    have r2 := row_below CC.out.r2 Q9.out (row_lt CC.out.r2)
    have d2 := row_cell r2 0
    have f2 := row_free r2 0
    have l2 := row_lt r2
    clear b8 b9 O5 O6 T5 T6 E5 E6 Q6
    gi_wp2_with fail
    have M9 : Marks p5 Ds (w9.setCell ⟨w.heap.size + 1, 0, none⟩ (.bool true)) := ⟨MM.out.1, fun D hD => ⟨(MM.out.2 D hD).1, row_other (row_below (MM.out.2 D hD).2 Q9.out (row_lt (MM.out.2 D hD).2)) (by have := (MM.out.2 D hD).1; omega)⟩⟩
    have B9 := (BB.out.trans (Q9.out.mono BB.out.size)).setCell (p := ⟨w.heap.size + 1, 0, none⟩) (by show w.heap.size ≤ w.heap.size + 1; omega) (.bool true)
    have r9 := row_set r2 0 (.bool true)
    refine leaves_marks Ds _ M9 (fun w' hb' => LeavesIn.fin (v := .bool true) ?_ ⟨rfl, B9.trans (hb'.mono (by omega))⟩)
    have d9 := row_cell (row_below r9 hb' (by omega)) 0
    simp [results, Try.results5, go_sem, d9]
end Go.Proofs.Ytcombolmacokbaa
