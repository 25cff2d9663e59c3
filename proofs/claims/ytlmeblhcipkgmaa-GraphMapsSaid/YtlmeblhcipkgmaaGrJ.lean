/- The chapter's examples on graphs. Conditions: those of each theorem, as typed. -/
import Derived.Test.YtlmeblhcipkgmaaGrL
import Derived.Test.YtlmeblhcipkgmaaRelN
import Derived.Test.YtlmeblhcipkgmaaGrC
namespace Go.Proofs.Ytlmeblhcipkgmaa
open Go.RowKit Go.Maps
set_option linter.unusedVariables false
attribute [local irreducible] wpL

def wkB (P : List Pr) (k : Int) : Nat → Int → Bool
  | 0, a => a == k
  | n + 1, a => P.any fun q => q.1 == a && wkB P k n q.2
theorem wkB_iff {P : List Pr} {k : Int} : ∀ {n : Nat} {a : Int}, wkB P k n a = true ↔ Wk P k n a
  | 0, a => by simp [wkB, Wk]
  | n + 1, a => by
    unfold wkB Wk
    rw [List.any_eq_true]
    constructor
    · rintro ⟨⟨x, b⟩, hq, h⟩
      simp only [Bool.and_eq_true, beq_iff_eq] at h
      obtain ⟨rfl, h⟩ := h
      exact ⟨b, hq, wkB_iff.1 h⟩
    · rintro ⟨b, hb, h⟩
      exact ⟨(a, b), hb, by simp [wkB_iff.2 h]⟩
def distB (P : List Pr) (k : Int) (n : Nat) (a : Int) : Bool := decide (1 ≤ n) && wkB P k n a && (List.range n).all fun m => m == 0 || !wkB P k m a
theorem distB_iff {P : List Pr} {k : Int} {n : Nat} {a : Int} : distB P k n a = true ↔ Dist P k n a := by
  unfold distB Dist
  simp only [Bool.and_eq_true, decide_eq_true_eq, List.all_eq_true, List.mem_range, Bool.or_eq_true, beq_iff_eq, Bool.not_eq_true']
  rw [wkB_iff, and_assoc]
  refine and_congr_right fun _ => and_congr_right fun _ => ⟨fun h m h1 h2 h3 => ?_, fun h m h2 => ?_⟩
  · rcases h m h2 with h4 | h4
    · omega
    · rw [← wkB_iff, h4] at h3; cases h3
  · by_cases hm : m = 0
    · exact .inl hm
    · refine .inr ?_
      have := h m (by omega) h2
      rw [← wkB_iff] at this
      simpa using this
def E0 : List Tr := [(1, 2, 1), (2, 3, 1), (3, 1, 2), (3, 2, 1)]
def N0 : List Int := [1, 2, 3, 7]
def E1 : List Tr := [(5, 4, 1), (6, 4, 1)]
def N1 : List Int := [1, 4, 5, 6]
theorem made0 : gN (gE [(1, 2, 1), (2, 3, 1), (3, 2, 1), (3, 1, 2)]).1 [7] = N0 ∧ (gE [(1, 2, 1), (2, 3, 1), (3, 2, 1), (3, 1, 2)]).2 = E0 := by decide
theorem made1 : gN (gE [(5, 4, 1), (6, 4, 1)]).1 [1] = N1 ∧ (gE [(5, 4, 1), (6, 4, 1)]).2 = E1 := by decide
theorem prs0 : prs E0 = [(1, 2), (2, 3), (3, 1), (3, 2)] := by decide
theorem prs1 : prs E1 = [(5, 4), (6, 4)] := by decide
theorem topo0 : topoF (prs E0) N0 = none := by decide
theorem topo1 : topoF (prs E1) N1 = some [1, 5, 6, 4] := by decide
theorem cyc0 : IsCyc (prs E0) N0 [1, 2, 3] := by
  rw [prs0]
  refine .inr ⟨1, 3, [2, 3], by decide, ?_, distB_iff.1 (by decide), ?_, rfl⟩
  · intro j hj hlt
    simp [N0] at hj
    omega
  · refine ⟨2, [3], rfl, by decide, by decide, distB_iff.1 (by decide), fun c hc hm => ?_, 3, [], rfl, by decide, by decide, distB_iff.1 (by decide), fun c hc hm => ?_, rfl⟩
    · simp at hm; omega
    · simp at hm; omega
theorem cyc1 : IsCyc (prs E1) N1 [] := by
  rw [prs1]
  refine .inl ⟨rfl, fun k hk h => ?_⟩
  have h1 := h.head
  have h2 := h.last
  obtain ⟨x, hx⟩ := h1
  obtain ⟨y, hy⟩ := h2
  simp at hx hy
  omega
theorem parts0 : (partsF (prs E0) N0).length = 2 := by
  have t12 : Tc (prs E0) 1 2 := .one (by decide)
  have t23 : Tc (prs E0) 2 3 := .one (by decide)
  have t31 : Tc (prs E0) 3 1 := .one (by decide)
  have t7 : ∀ a, ¬ Tc (prs E0) a 7 := fun a h => by
    obtain ⟨c, hc⟩ := h.last
    rw [prs0] at hc
    simp at hc
  have h1 : partOf (prs E0) N0 1 = [1, 2, 3] := by
    refine SrtI.ext (List.Pairwise.filter _ (by unfold N0; decide)) (by unfold SrtI; decide) fun x => ?_
    rw [mem_partOf]
    constructor
    · rintro ⟨hx, hm⟩
      simp [N0] at hx
      rcases hx with rfl | rfl | rfl | rfl
      · simp
      · simp
      · simp
      · rcases hm with hm | hm
        · omega
        · exact absurd hm.1 (t7 _)
    · intro hx
      simp at hx
      rcases hx with rfl | rfl | rfl
      · exact ⟨by decide, .inl rfl⟩
      · exact ⟨by decide, .inr ⟨t12, t23.trans t31⟩⟩
      · exact ⟨by decide, .inr ⟨t12.trans t23, t31⟩⟩
  unfold partsF N0
  rw [partsGo_out (by simp)]
  have h1' : partOf (prs E0) [1, 2, 3, 7] 1 = [1, 2, 3] := h1
  rw [h1', partsGo_in (by simp), partsGo_in (by simp), partsGo_out (by simp)]
  simp [partsGo]

/-- Two lists that are written out. -/
theorem two_lits (w : World) (l : List Tr) (nd : List Int) (cs ds : List Value) (n m : Nat) (hc : l.flatMap trC = cs) (hd : nd.flatMap intC = ds) (hn : l.length = n) (hm : nd.length = m) (h1 : n ≤ 1000) (h2 : m ≤ 1000) :
    Sl ((w.alloc (.cells cs.toArray 75)).alloc (.cells ds.toArray 3)) ((w.alloc (.cells cs.toArray 75)).alloc (.cells ds.toArray 3)).heap.size 3 (.slice (some ⟨w.heap.size, 0, none⟩) n n) n (l.flatMap trC) ∧
    Sl ((w.alloc (.cells cs.toArray 75)).alloc (.cells ds.toArray 3)) ((w.alloc (.cells cs.toArray 75)).alloc (.cells ds.toArray 3)).heap.size 1 (.slice (some ⟨w.heap.size + 1, 0, none⟩) m m) m (nd.flatMap intC) ∧
    Below w.heap.size w ((w.alloc (.cells cs.toArray 75)).alloc (.cells ds.toArray 3)) ∧ w.heap.size + 2 ≤ ((w.alloc (.cells cs.toArray 75)).alloc (.cells ds.toArray 3)).heap.size := by
  subst hc hd hn hm
  refine ⟨((OwnF.lit w w.heap.size (Nat.le_refl _) l trC_len (by omega)).alloc _).sl, ?_, ((Below.refl _ _).alloc (Nat.le_refl _) _).alloc (by simp) _, by simp⟩
  have := (OwnF.lit (f := intC) (e := 3) (sz := 1) (w.alloc (.cells (l.flatMap trC).toArray 75)) w.heap.size (by simp) nd intC_len (by omega)).sl
  rw [World.size_alloc w] at this
  exact this
theorem lit_ints (w : World) (nd : List Int) (ds : List Value) (m : Nat) (hd : nd.flatMap intC = ds) (hm : nd.length = m) (h2 : m ≤ 1000) : LI (w.alloc (.cells ds.toArray 3)) (.slice (some ⟨w.heap.size, 0, none⟩) m m) nd := by
  subst hd hm
  exact (OwnF.lit (f := intC) (e := 3) (sz := 1) w w.heap.size (Nat.le_refl _) nd intC_len (by omega)).sl
section
set_option maxRecDepth 100000 in
set_option maxHeartbeats 2000000 in
theorem gr_first (w : World) : Calls Try.prog 44 #[] w fun e w' => e = .returned (.bool true) ∧ Below w.heap.size w w' := by
  go_enter Try.func44, Try.ntmps44
  go_wp2_with fail
  obtain ⟨l1, l2, l3, l4⟩ := two_lits w [((1 : Int), (2 : Int), (1 : Int)), (2, 3, 1), (3, 2, 1), (3, 1, 2)] [7] _ _ 4 1 rfl rfl rfl rfl (by decide) (by decide)
  refine (gr_made (l := [((1 : Int), (2 : Int), (1 : Int)), (2, 3, 1), (3, 2, 1), (3, 1, 2)]) (nd := [7]) l1 rfl (Nat.le_refl _) l2 rfl (by decide) (by decide) (by decide) (by decide)).mono ?_
  rintro e w1 ⟨p, vn, ve, rfl, g1, q1, b1⟩
  rw [made0.1, made0.2] at g1 q1
  obtain ⟨an, cn, rfl, -⟩ := Sl.ex q1.n
  obtain ⟨ae, ce, rfl, -⟩ := Sl.ex q1.e
  rw [show N0.length = 4 from rfl, show E0.length = 4 from rfl]
  have z1 : w.heap.size + 2 ≤ w1.heap.size := Nat.le_trans l4 b1.size
  have G1 := hid (g1.below ((Below.refl w1.heap.size w1).alloc (Nat.le_refl _) (.cells #[.slice an 4 cn, .slice ae 4 ce] 63)) (Nat.le_refl _))
  have B1 := hid ((l3.trans (b1.mono (by omega))).alloc (by omega) (.cells #[.slice an 4 cn, .slice ae 4 ce] 63))
  clear g1 q1 b1 l1 l2 l3 l4
  obtain ⟨w2, hw2⟩ : ∃ w2, w2 = w1.alloc (.cells #[.slice an 4 cn, .slice ae 4 ce] 63) := ⟨_, rfl⟩
  have z2 : w1.heap.size ≤ w2.heap.size := by rw [hw2, World.size_alloc]; omega
  rw [← hw2] at G1 B1
  have hz2 : w1.heap.size + 1 = w2.heap.size := by rw [hw2, World.size_alloc]
  have HZ2 := hid hz2
  have HW2 := hid hw2
  clear hz2 hw2
  go_wp2_with fail
  rw [← HW2.out, HZ2.out]
  obtain ⟨l1, l2, l3, l4⟩ := two_lits w2 [((5 : Int), (4 : Int), (1 : Int)), (6, 4, 1)] [1] _ _ 2 1 rfl rfl rfl rfl (by decide) (by decide)
  refine (gr_made (l := [((5 : Int), (4 : Int), (1 : Int)), (6, 4, 1)]) (nd := [1]) l1 rfl (Nat.le_refl _) l2 rfl (by decide) (by decide) (by decide) (by decide)).mono ?_
  rintro e w3 ⟨p2, vn2, ve2, rfl, g3, q3, b3⟩
  rw [made1.1, made1.2] at g3 q3
  obtain ⟨an2, cn2, rfl, -⟩ := Sl.ex q3.n
  obtain ⟨ae2, ce2, rfl, -⟩ := Sl.ex q3.e
  rw [show N1.length = 4 from rfl, show E1.length = 2 from rfl]
  have z3 : w2.heap.size + 2 ≤ w3.heap.size := Nat.le_trans l4 b3.size
  have L3 := hid ((l3.trans (b3.mono (by omega))).alloc (by omega) (.cells #[.slice an2 4 cn2, .slice ae2 2 ce2] 63))
  have H3 := hid (g3.below ((Below.refl w3.heap.size w3).alloc (Nat.le_refl _) (.cells #[.slice an2 4 cn2, .slice ae2 2 ce2] 63)) (Nat.le_refl _))
  have G3 := hid (G1.out.below L3.out z2)
  have B3 := hid (B1.out.trans (L3.out.mono (by omega)))
  obtain ⟨w4, hw4⟩ : ∃ w4, w4 = w3.alloc (.cells #[.slice an2 4 cn2, .slice ae2 2 ce2] 63) := ⟨_, rfl⟩
  have z4 : w3.heap.size ≤ w4.heap.size := by rw [hw4, World.size_alloc]; omega
  rw [← hw4] at H3 G3 B3
  have HW4 := hid hw4
  clear g3 q3 b3 l1 l2 l3 l4 L3 G1 B1 hw4
  go_wp2_with fail
  rw [← HW4.out]
  refine (gr_topo G3.out (by omega) (by decide) (by decide)).mono ?_
  rintro e w5 ⟨v5, o5, rfl, h5, e5, b5⟩
  rw [topo0] at e5
  subst e5
  have G5 := hid (G3.out.below b5 (by omega))
  have H5 := hid (H3.out.below b5 (by omega))
  have B5 := hid (B3.out.trans (b5.mono B3.out.size))
  have z5 : w4.heap.size ≤ w5.heap.size := b5.size
  clear h5 b5 G3 H3 B3
  go_wp2_with fail
  refine (gr_topo H5.out (by omega) (by decide) (by decide)).mono ?_
  rintro e w6 ⟨v6, o6, rfl, h6, e6, b6⟩
  rw [topo1] at e6
  subst e6
  obtain ⟨a6, c6, rfl, -⟩ := h6.sl.ex
  have L6 := hid (show LI w6 _ [1, 5, 6, 4] from h6.sl)
  have G6 := hid (G5.out.below b6 (by omega))
  have H6 := hid (H5.out.below b6 (by omega))
  have B6 := hid (B5.out.trans (b6.mono B5.out.size))
  have z6 : w4.heap.size ≤ w6.heap.size := Nat.le_trans z5 b6.size
  clear h6 b6 G5 H5 B5
  simp only [Option.isSome_none, Option.isSome_some, Option.getD_some, List.length_cons, List.length_nil, Nat.zero_add]
  go_wp2_with fail
  refine (gr_cycle G6.out (by omega) (by decide) (by decide)).mono ?_
  rintro e w7 ⟨v7, c7, rfl, h7, e7, b7⟩
  rw [e7.uniq cyc0] at h7
  obtain ⟨a7, k7, rfl, -⟩ := h7.sl.ex
  have L7 := hid (show LI w7 _ [1, 2, 3] from h7.sl)
  have L67 := hid (show LI w7 _ [1, 5, 6, 4] from Sl.up L6.out (Keep.of_below b7))
  have G7 := hid (G6.out.below b7 (by omega))
  have H7 := hid (H6.out.below b7 (by omega))
  have B7 := hid (B6.out.trans (b7.mono B6.out.size))
  have z7 : w4.heap.size ≤ w7.heap.size := Nat.le_trans z6 b7.size
  clear h7 e7 b7 G6 H6 B6 L6
  go_wp2_with fail
  have I7 := hid (lit_ints w7 [1, 2, 3] _ 3 rfl rfl (by decide))
  have L7a := hid (show LI (w7.alloc (.cells #[.int .i64 1, .int .i64 2, .int .i64 3] 3)) (.slice a7 3 k7) [1, 2, 3] from Sl.up L7.out (Keep.alloc _ _))
  refine (same_ints (l := [1, 2, 3]) L7a.out I7.out).mono ?_
  rintro e w8 ⟨rfl, b8⟩
  have K8 := (Keep.alloc w7 (.cells #[.int .i64 1, .int .i64 2, .int .i64 3] 3)).trans (Keep.of_below b8)
  have C8 := hid (((Below.refl w7.heap.size w7).alloc (Nat.le_refl _) (.cells #[.int .i64 1, .int .i64 2, .int .i64 3] 3)).trans (b8.mono (by simp)))
  have L8 := hid (show LI w8 _ [1, 5, 6, 4] from Sl.up L67.out K8)
  have G8 := hid (G7.out.below C8.out (by omega))
  have H8 := hid (H7.out.below C8.out (by omega))
  have B8 := hid (B7.out.trans (C8.out.mono B7.out.size))
  have z8 : w4.heap.size ≤ w8.heap.size := Nat.le_trans z7 C8.out.size
  clear b8 K8 C8 L7 L7a I7 L67 G7 H7 B7
  go_wp2_with fail
  have I8 := hid (lit_ints w8 [1, 5, 6, 4] _ 4 rfl rfl (by decide))
  have L8a := hid (show LI (w8.alloc (.cells #[.int .i64 1, .int .i64 5, .int .i64 6, .int .i64 4] 3)) (.slice a6 4 c6) [1, 5, 6, 4] from Sl.up L8.out (Keep.alloc _ _))
  refine (same_ints (l := [1, 5, 6, 4]) L8a.out I8.out).mono ?_
  rintro e w9 ⟨rfl, b9⟩
  have C9 := hid (((Below.refl w8.heap.size w8).alloc (Nat.le_refl _) (.cells #[.int .i64 1, .int .i64 5, .int .i64 6, .int .i64 4] 3)).trans (b9.mono (by simp)))
  have G9 := hid (G8.out.below C9.out (by omega))
  have H9 := hid (H8.out.below C9.out (by omega))
  have B9 := hid (B8.out.trans (C9.out.mono B8.out.size))
  have z9 : w4.heap.size ≤ w9.heap.size := Nat.le_trans z8 C9.out.size
  clear b9 C9 L8 L8a I8 G8 H8 B8
  go_wp2_with fail
  refine (gr_parts G9.out (by omega) (by decide) (by decide)).mono ?_
  rintro e wA ⟨vA, vs, Q, rfl, hA, hL, hQ, bA⟩
  obtain ⟨aA, cA, rfl, -⟩ := hA.sl.ex
  have hql : vs.length = 2 := by rw [hL.1, hQ]; exact parts0
  rw [hql]
  have HA := hid (H9.out.below bA (by omega))
  have BA := hid (B9.out.trans (bA.mono B9.out.size))
  have zA : w4.heap.size ≤ wA.heap.size := Nat.le_trans z9 bA.size
  clear hA hL hQ bA hql G9 H9 B9
  go_wp2_with fail
  refine (gr_cycle HA.out (by omega) (by decide) (by decide)).mono ?_
  rintro e wB ⟨vB, cB, rfl, hB, eB, bB⟩
  rw [eB.uniq cyc1] at hB
  obtain ⟨aB, kB, rfl, -⟩ := hB.sl.ex
  have BB := hid (BA.out.trans (bB.mono BA.out.size))
  clear hB eB bB HA BA
  go_wp2
  go_ret
  exact ⟨rfl, BB.out⟩
end
end Go.Proofs.Ytlmeblhcipkgmaa
