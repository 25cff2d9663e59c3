/- What the document's graphs do: start, far, Cycle, Parts. Conditions: those of each theorem, as typed. -/
import Derived.Test.YtlmeblhcipkgmaaGsC
import Derived.Test.YtlmeblhcipkgmaaGrD
import Derived.Test.YtlmeblhcipkgmaaSpoil
import Derived.OwnWalk
import Derived.Laws.OwnMore
namespace Go.Proofs.Ytlmeblhcipkgmaa
open Go.RowKit Go.Maps
set_option linter.unusedVariables false
set_option linter.unusedSimpArgs false
/-- A guard whose own operation was left out. -/
theorem wpL_un {P : Program} {Q : Exit → Act → World → Prop} {l : List XOp} {a : Act} {w : World} {o : Oper} {k t : Nat} {want : Bool} (hy : a.tmps[t]? = some undef)
    (h : ∀ K : Act → World → Prop, (∀ a w, wpL P Q l a w → K a w) → K (a.put o.dst undef) w) : wpL P Q (⟨k, some (some t, want), o⟩ :: l) a w := by
  have hw : wantedAt (some (some t, want)) a.tmps = false := by
    simp only [wantedAt, Option.bind_some, hy]
    rfl
  unfold wpL wpK
  rw [hw]
  exact h _ (fun _ _ h => h)

attribute [local irreducible] wpL

/-- It lies in memory of the call's own. -/
def Fresh (B : Nat) (v : Value) : Prop := ∀ k, v.ownBlock = some k → B ≤ k
theorem Fresh.nil (B : Nat) : Fresh B (.slice none 0 0) := fun _ h => by cases h
theorem Sl.other {w : World} {B sz n g j : Nat} {v u : Value} {xs : List Value} (h : Sl w B sz v n xs) (hne : v.ownBlock ≠ some g) : Sl (w.setCell ⟨g, j, none⟩ u) B sz v n xs := by
  obtain ⟨a, cap, rfl, h1, h2, h3⟩ := h
  refine ⟨a, cap, rfl, h1, h2, fun h0 => ?_⟩
  obtain ⟨b, off, rfl, hb, hc⟩ := h3 h0
  refine ⟨b, off, rfl, hb, fun i x hx => ?_⟩
  have := hc i x hx
  rw [← this]
  have hb2 : (w.setCell ⟨g, j, none⟩ u).heap[b]? = w.heap[b]? := Below.heap_setCell w ⟨g, j, none⟩ u b fun e => hne (by rw [show b = g from e]; rfl)
  simp only [World.cell?, hb2]
section
variable {w : World} {v : Value}
set_option maxHeartbeats 400000 in
theorem ref_behindN {L : List Pr} (h : LP w v L) (hs : Srt L) (hL : L.length ≤ 1000000) (t : Int) : Calls Try.prog 43 #[v, .int .i64 t] w fun e w' => ∃ v', e = .returned v' ∧ LI w' v' (row L t) ∧ Fresh w.heap.size v' ∧ Below w.heap.size w w' := by
  obtain ⟨al, cl, n, rfl, hn, hm, h⟩ := LP.open h
  rw [hn] at hL
  have H := hid h
  have HN := hid hn
  have HS := hid hs
  clear h hn hs
  go_enter Try.func43, Try.ntmps43
  go_wp2_with fail
  go_loopw [5, 6] (fun v i wr => ∃ (k : Nat) (A : List Int), k ≤ n ∧ i = .int .i64 k ∧ LI wr v A ∧ SrtI A ∧ (∀ x, x ∈ A ↔ (t, x) ∈ L.take k) ∧ Fresh w.heap.size v ∧ Below w.heap.size w wr) (fun _ i _ => n - (intOf i).toNat)
  case atStart => exact ⟨0, [], by omega, by go_num, (OwnF.nil (f := intC) (e := 3) w 0).sl, List.Pairwise.nil, fun x => by simp, Fresh.nil _, Below.refl _ _⟩
  case round =>
    obtain ⟨k, A, hk, rfl, hA, hsA, hmA, hFr, hB⟩ := hrel
    have HFR := hid hFr
    have hAl : A.length ≤ 1000000 := by
      have h1 := nodup_le (l := A) (m := (L.take k).map (·.2)) hsA.nodup fun x hx => List.mem_map.2 ⟨_, (hmA x).1 hx, rfl⟩
      rw [List.length_map, List.length_take] at h1
      omega
    have HA := hid hA
    have HSA := hid hsA
    have HM := hid hmA
    have HB := hid hB
    clear hA hsA hmA hFr hB
    by_cases hlt : k < n
    · obtain ⟨b, off, x, rfl, hb, hx, c1, c2⟩ := (H.out.below HB.out).pairs hlt HN.out
      have HX := hid hx
      clear hx
      by_cases e : x.1 = t
      · have t1 : (x.1 == t) = true := by simpa using e
        have HE := hid e
        clear e
        go_wp2_with fail
        refine (ref_putInt HA.out HSA.out hAl x.2).mono ?_
        rintro e w2 ⟨v2, rfl, h2, ho2, b2⟩
        have FR2 := hid (show Fresh w.heap.size v2 by
          rcases ho2 with rfl | ho2
          · exact HFR.out
          · exact fun q hq => Nat.le_trans HB.out.size (ho2.lt q hq).1)
        have H2 := hid h2
        have B2 := hid (HB.out.trans (b2.mono HB.out.size))
        clear h2 b2 ho2
        go_wp2_with fail
        go_roundw
        case rel =>
          refine ⟨k + 1, insI x.2 A, by omega, by go_num, H2.out, srt_insI HSA.out, fun z => ?_, FR2.out, B2.out⟩
          rw [mem_insI, HM.out z, mem_take_step HX.out]
          have hxe := HE.out
          constructor
          · rintro (rfl | h)
            · exact .inr (by rw [← hxe])
            · exact .inl h
          · rintro (h | h)
            · exact .inr h
            · exact .inl (by rw [← h])
        case measure => simp [intOf]; omega
      · have t1 : (x.1 == t) = false := by simpa using e
        have HE := hid e
        clear e
        go_wp2_with fail
        go_roundw
        case rel =>
          refine ⟨k + 1, A, by omega, by go_num, HA.out, HSA.out, fun z => ?_, HFR.out, HB.out⟩
          rw [HM.out z, mem_take_step HX.out]
          constructor
          · exact .inl
          · rintro (h | h)
            · exact h
            · exact absurd (by rw [← h]) HE.out
        case measure => simp [intOf]; omega
    · obtain rfl : k = n := by omega
      have HR := hid (row_take_all HS.out HSA.out HN.out HM.out)
      go_wp2
      go_ret
      exact ⟨_, rfl, by rw [← HR.out]; exact HA.out, HFR.out, HB.out⟩
end
section
variable {w : World} {vn ve : Value} {N : List Int} {E : List Tr}
theorem rg_outN (h : RG w vn ve N E) (hE : E.length ≤ 900000) (a : Int) : Calls Try.prog 64 #[.agg #[vn, ve], .int .i64 a] w fun e w' => ∃ v, e = .returned v ∧ LI w' v (row (prs E) a) ∧ Fresh w.heap.size v ∧ Below w.heap.size w w' := by
  obtain ⟨al, cl, rfl, -⟩ := Sl.ex h.n
  obtain ⟨ae, ce, rfl, -⟩ := Sl.ex h.e
  have hP : (prs E).length ≤ 900000 := Nat.le_trans (length_prs E) hE
  have B1 := hid ((Below.refl w.heap.size w).alloc (Nat.le_refl _) (.cells #[.slice al N.length cl, .slice ae E.length ce] 63))
  have H1 := hid (h.below B1.out)
  clear h
  go_enter Try.func64, Try.ntmps64
  go_wp2_with fail
  refine (rg_pairs (vn := .slice al N.length cl) H1.out.e hE).mono ?_
  rintro e w2 ⟨v2, rfl, h2, b2⟩
  obtain ⟨a2, c2, rfl, -⟩ := Sl.ex h2
  have H2 := hid h2
  have B2 := hid (B1.out.trans (b2.mono (by simp)))
  clear h2 b2
  go_wp2_with fail
  refine (ref_behindN (v := .slice a2 (prs E).length c2) H2.out (srt_prs E) (by omega) a).mono ?_
  rintro e w3 ⟨v3, rfl, h3, fr3, b3⟩
  have FR3 := hid (fun q hq => Nat.le_trans B2.out.size (fr3 q hq) : Fresh w.heap.size v3)
  have H3 := hid h3
  have B3 := hid (B2.out.trans (b3.mono B2.out.size))
  clear h3 b3 fr3
  go_wp2
  go_ret
  exact ⟨_, rfl, H3.out, FR3.out, B3.out⟩
end
/-- The least that reaches itself. -/
def IsStart (P : List Pr) (N : List Int) (o : Option Int) : Prop :=
  match o with
  | none => ∀ k ∈ N, ¬ Tc P k k
  | some k => k ∈ N ∧ Tc P k k ∧ ∀ j ∈ N, j < k → ¬ Tc P j j
theorem lt_take {N : List Int} (hs : SrtI N) {i : Nat} {k j : Int} (hk : N[i]? = some k) (hj : j ∈ N) (hlt : j < k) : j ∈ N.take i := by
  obtain ⟨u, hu, rfl⟩ := List.getElem_of_mem hj
  obtain ⟨hi, rfl⟩ := List.getElem?_eq_some_iff.1 hk
  rcases Nat.lt_or_ge u i with h | h
  · exact List.mem_take_iff_getElem.2 ⟨u, by omega, rfl⟩
  · exfalso
    rcases Nat.lt_or_ge i u with h2 | h2
    · have := List.pairwise_iff_getElem.1 hs i u hi hu h2
      omega
    · obtain rfl : u = i := by omega
      omega
/-- So many steps to s, as far as r steps have been looked at. -/
def FarIs (P : List Pr) (s : Int) (r : Nat) (a z : Int) : Prop := (a = s ∧ z = 0) ∨ (a ≠ s ∧ ((∃ n : Nat, n ≤ r ∧ Dist P s n a ∧ z = n) ∨ (z = -1 ∧ ∀ n, n ≤ r → ¬ Dist P s n a)))
def AtR (P : List Pr) (s : Int) (r : Nat) (x : Int) : Prop := (r = 0 ∧ x = s) ∨ (x ≠ s ∧ Dist P s r x)
section
variable {P : List Pr} {s a x z : Int} {r q : Nat}
theorem FarIs.eq (h : FarIs P s q x z) (hr : r ≤ q) : z = r ↔ AtR P s r x := by
  rcases h with ⟨rfl, rfl⟩ | ⟨hne, ⟨n, hn, hd, rfl⟩ | ⟨rfl, hno⟩⟩
  · constructor
    · exact fun h => .inl ⟨by omega, rfl⟩
    · rintro (⟨rfl, -⟩ | ⟨h, -⟩)
      · rfl
      · exact absurd rfl h
  · constructor
    · intro h
      obtain rfl : n = r := by omega
      exact .inr ⟨hne, hd⟩
    · rintro (⟨-, h⟩ | ⟨-, h⟩)
      · exact absurd h hne
      · rw [hd.uniq h]
  · constructor
    · intro h; omega
    · rintro (⟨-, h⟩ | ⟨-, h⟩)
      · exact absurd h hne
      · exact absurd h (hno r hr)
theorem FarIs.form (h : FarIs P s r a z) : z = -1 ∨ 0 ≤ z := by
  rcases h with ⟨-, rfl⟩ | ⟨-, ⟨n, -, -, rfl⟩ | ⟨rfl, -⟩⟩
  · exact .inr (Int.le_refl _)
  · exact .inr (by omega)
  · exact .inl rfl
theorem FarIs.stay (h : FarIs P s r a z) (hz : 0 ≤ z) : FarIs P s (r + 1) a z := by
  rcases h with h | ⟨h1, ⟨n, h2, h3⟩ | ⟨rfl, -⟩⟩
  · exact .inl h
  · exact .inr ⟨h1, .inl ⟨n, by omega, h3⟩⟩
  · omega
theorem FarIs.neg (h : FarIs P s r a z) (hz : z < 0) : z = -1 ∧ a ≠ s ∧ ∀ n, n ≤ r → ¬ Dist P s n a := by
  rcases h with ⟨-, rfl⟩ | ⟨h1, ⟨n, -, -, rfl⟩ | ⟨rfl, h2⟩⟩
  · omega
  · omega
  · exact ⟨rfl, h1, h2⟩
theorem dist_at : Dist P s (r + 1) a ↔ (∃ b, (a, b) ∈ P ∧ AtR P s r b) ∧ ∀ m, 1 ≤ m → m ≤ r → ¬ Dist P s m a := by
  by_cases hr : r = 0
  · subst hr
    rw [Nat.zero_add, dist_one]
    constructor
    · exact fun h => ⟨⟨s, h, .inl ⟨rfl, rfl⟩⟩, fun m h1 h2 => by omega⟩
    · rintro ⟨⟨b, hb, ⟨-, rfl⟩ | ⟨-, h⟩⟩, -⟩
      · exact hb
      · exact absurd h.1 (by omega)
  · rw [dist_succ (by omega)]
    constructor
    · rintro ⟨⟨b, h1, h2, h3⟩, h⟩
      exact ⟨⟨b, h1, .inr ⟨h2, h3⟩⟩, h⟩
    · rintro ⟨⟨b, h1, ⟨h2, -⟩ | ⟨h2, h3⟩⟩, h⟩
      · exact absurd h2 hr
      · exact ⟨⟨b, h1, h2, h3⟩, h⟩
theorem FarIs.yes (h : FarIs P s r a z) (hz : z < 0) (hx : (a, x) ∈ P) (ha : AtR P s r x) : FarIs P s (r + 1) a (r + 1 : Nat) := by
  obtain ⟨-, h1, h2⟩ := h.neg hz
  exact .inr ⟨h1, .inl ⟨r + 1, Nat.le_refl _, dist_at.2 ⟨⟨x, hx, ha⟩, fun m _ hm => h2 m hm⟩, rfl⟩⟩
theorem FarIs.no (h : FarIs P s r a z) (hz : z < 0) (hx : ∀ x, (a, x) ∈ P → ¬ AtR P s r x) : FarIs P s (r + 1) a z := by
  obtain ⟨rfl, h1, h2⟩ := h.neg hz
  refine .inr ⟨h1, .inr ⟨rfl, fun n hn hd => ?_⟩⟩
  by_cases hnr : n ≤ r
  · exact h2 n hnr hd
  · obtain rfl : n = r + 1 := by omega
    obtain ⟨⟨b, h3, h4⟩, -⟩ := dist_at.1 hd
    exact hx b h3 h4
end
/-- Each node's number of steps, as far as r have been looked at; of the first j as far as r + 1. -/
def Fars (P : List Pr) (N : List Int) (s : Int) (r j : Nat) (D : List Int) : Prop := D.length = N.length ∧ ∀ (i : Nat) (a z : Int), N[i]? = some a → D[i]? = some z → FarIs P s (if i < j then r + 1 else r) a z
def FarAll (P : List Pr) (N : List Int) (s : Int) (D : List Int) : Prop := D.length = N.length ∧ ∀ (i : Nat) (a z : Int), N[i]? = some a → D[i]? = some z → (a = s ∧ z = 0) ∨ (a ≠ s ∧ ((∃ n : Nat, Dist P s n a ∧ z = n) ∨ (z = -1 ∧ ∀ n, ¬ Dist P s n a)))
/-- In the midst of node j: k others have been looked at. -/
def FarMid (P : List Pr) (N : List Int) (s : Int) (r j k : Nat) (D : List Int) : Prop := ∃ D0 z0 a, Fars P N s r j D0 ∧ N[j]? = some a ∧ D0[j]? = some z0 ∧
  ((D = D0 ∧ (z0 < 0 → ∀ x ∈ N.take k, (a, x) ∈ P → ¬ AtR P s r x)) ∨ (z0 < 0 ∧ D = D0.set j (r + 1 : Nat) ∧ ∃ x, (a, x) ∈ P ∧ AtR P s r x))
section
variable {P : List Pr} {N D : List Int} {s a b z y : Int} {r j k : Nat}
theorem Fars.roll (h : Fars P N s r N.length D) : Fars P N s (r + 1) 0 D := ⟨h.1, fun i a z ha hz => by
  have := h.2 i a z ha hz
  rw [if_pos (List.getElem?_eq_some_iff.1 ha).1] at this
  rw [if_neg (by omega)]
  exact this⟩
theorem Fars.done (h : Fars P N s r 0 D) (hr : N.length ≤ r) (hP : ∀ x ∈ P, x.1 ∈ N) : FarAll P N s D := ⟨h.1, fun i a z ha hz => by
  have := h.2 i a z ha hz
  rw [if_neg (by omega)] at this
  rcases this with h | ⟨h1, ⟨n, -, h2, h3⟩ | ⟨h2, h3⟩⟩
  · exact .inl h
  · exact .inr ⟨h1, .inl ⟨n, h2, h3⟩⟩
  · exact .inr ⟨h1, .inr ⟨h2, fun n hd => h3 n (Nat.le_trans (hd.le hP) hr) hd⟩⟩⟩
theorem FarMid.start (h : Fars P N s r j D) (ha : N[j]? = some a) : FarMid P N s r j 0 D := by
  have hj := (List.getElem?_eq_some_iff.1 ha).1
  exact ⟨D, D[j]'(by rw [h.1]; exact hj), a, h, ha, List.getElem?_eq_getElem _, .inl ⟨rfl, fun _ x hx => by simp at hx⟩⟩
theorem FarMid.len (h : FarMid P N s r j k D) : D.length = N.length := by
  obtain ⟨D0, z0, a, h1, -, -, ⟨rfl, -⟩ | ⟨-, rfl, -⟩⟩ := h
  · exact h1.1
  · rw [List.length_set]; exact h1.1
/-- Not looked at any more: it has its number. -/
theorem FarMid.skip (h : FarMid P N s r j k D) (hz : D[j]? = some z) (h0 : 0 ≤ z) : FarMid P N s r j (k + 1) D := by
  obtain ⟨D0, z0, a, h1, h2, h3, ⟨rfl, h4⟩ | h4⟩ := h
  · rw [hz] at h3
    obtain rfl := Option.some.inj h3
    exact ⟨D, z, a, h1, h2, hz, .inl ⟨rfl, fun h => by omega⟩⟩
  · exact ⟨D0, z0, a, h1, h2, h3, .inr h4⟩
theorem FarMid.pass (h : FarMid P N s r j k D) (ha : N[j]? = some a) (hz : D[j]? = some z) (h0 : z < 0) (hb : N[k]? = some b) (hy : D[k]? = some y) (hno : ¬ (y = r ∧ (a, b) ∈ P)) : FarMid P N s r j (k + 1) D := by
  obtain ⟨D0, z0, a', h1, h2, h3, ⟨rfl, h4⟩ | ⟨h4, rfl, h5⟩⟩ := h
  · rw [hz] at h3
    obtain rfl := Option.some.inj h3
    rw [ha] at h2
    obtain rfl := Option.some.inj h2
    refine ⟨D, z, a, h1, ha, hz, .inl ⟨rfl, fun _ x hx hm hat => ?_⟩⟩
    rcases (mem_take_step hb).1 hx with hx | rfl
    · exact h4 h0 x hx hm hat
    · have := h1.2 k x y hb hy
      exact hno ⟨(FarIs.eq this (by split <;> omega)).2 hat, hm⟩
  · exfalso
    have hj := (List.getElem?_eq_some_iff.1 h3).1
    rw [List.getElem?_set_self hj] at hz
    have := Option.some.inj hz
    omega
theorem FarMid.take (h : FarMid P N s r j k D) (ha : N[j]? = some a) (hz : D[j]? = some z) (h0 : z < 0) (hb : N[k]? = some b) (hy : D[k]? = some y) (e : y = r) (hm : (a, b) ∈ P) : FarMid P N s r j (k + 1) (D.set j (r + 1 : Nat)) := by
  obtain ⟨D0, z0, a', h1, h2, h3, ⟨rfl, h4⟩ | ⟨h4, rfl, h5⟩⟩ := h
  · rw [hz] at h3
    obtain rfl := Option.some.inj h3
    rw [ha] at h2
    obtain rfl := Option.some.inj h2
    have := h1.2 k b y hb hy
    exact ⟨D, z, a, h1, ha, hz, .inr ⟨h0, rfl, b, hm, (FarIs.eq this (by split <;> omega)).1 e⟩⟩
  · exfalso
    have hj := (List.getElem?_eq_some_iff.1 h3).1
    rw [List.getElem?_set_self hj] at hz
    have := Option.some.inj hz
    omega
theorem FarMid.done (h : FarMid P N s r j N.length D) (hP : ∀ x ∈ P, x.2 ∈ N) : Fars P N s r (j + 1) D := by
  obtain ⟨D0, z0, a, h1, h2, h3, ⟨rfl, h4⟩ | ⟨h4, rfl, x, h5, h6⟩⟩ := h
  · refine ⟨h1.1, fun i b z hb hz => ?_⟩
    have h := h1.2 i b z hb hz
    by_cases e : i = j
    · subst e
      rw [h2] at hb
      obtain rfl := Option.some.inj hb
      rw [hz] at h3
      obtain rfl := Option.some.inj h3
      rw [if_neg (by omega)] at h
      rw [if_pos (by omega)]
      rcases h.form with e | e
      · exact h.no (by omega) fun x hx => h4 (by omega) x (by rw [List.take_length]; exact hP _ hx) hx
      · exact h.stay e
    · by_cases hlt : i < j
      · rw [if_pos hlt] at h
        rw [if_pos (by omega)]
        exact h
      · rw [if_neg hlt] at h
        rw [if_neg (by omega)]
        exact h
  · refine ⟨by rw [List.length_set]; exact h1.1, fun i b z hb hz => ?_⟩
    by_cases e : i = j
    · subst e
      rw [List.getElem?_set_self (List.getElem?_eq_some_iff.1 h3).1] at hz
      obtain rfl := Option.some.inj hz
      rw [h2] at hb
      obtain rfl := Option.some.inj hb
      have h := h1.2 i a z0 h2 h3
      rw [if_neg (by omega)] at h
      rw [if_pos (by omega)]
      exact h.yes h4 h5 h6
    · rw [List.getElem?_set_ne (Ne.symm e)] at hz
      have h := h1.2 i b z hb hz
      by_cases hlt : i < j
      · rw [if_pos hlt] at h
        rw [if_pos (by omega)]
        exact h
      · rw [if_neg hlt] at h
        rw [if_neg (by omega)]
        exact h
end
def FarPre (P : List Pr) (N : List Int) (s : Int) (j : Nat) (D : List Int) : Prop := D.length = N.length ∧ ∀ (i : Nat) (a z : Int), i < j → N[i]? = some a → D[i]? = some z → FarIs P s 0 a z
theorem FarPre.put {P : List Pr} {N D : List Int} {s a z : Int} {j : Nat} (h : FarPre P N s j D) (ha : N[j]? = some a) (hz : FarIs P s 0 a z) : FarPre P N s (j + 1) (D.set j z) := by
  refine ⟨by rw [List.length_set]; exact h.1, fun i b y hi hb hy => ?_⟩
  by_cases e : i = j
  · subst e
    rw [List.getElem?_set_self (by rw [h.1]; exact (List.getElem?_eq_some_iff.1 ha).1)] at hy
    rw [ha] at hb
    rw [← Option.some.inj hb, ← Option.some.inj hy]
    exact hz
  · rw [List.getElem?_set_ne (Ne.symm e)] at hy
    exact h.2 i b y (by omega) hb hy
theorem FarPre.done {P : List Pr} {N D : List Int} {s : Int} (h : FarPre P N s N.length D) : Fars P N s 0 0 D := ⟨h.1, fun i a z ha hz => by
  rw [if_neg (by omega)]
  exact h.2 i a z (List.getElem?_eq_some_iff.1 ha).1 ha hz⟩
theorem far_zero (P : List Pr) (s : Int) : FarIs P s 0 s 0 := .inl ⟨rfl, rfl⟩
theorem far_not (P : List Pr) {s a : Int} (h : a ≠ s) : FarIs P s 0 a (-1) := .inr ⟨h, .inr ⟨rfl, fun n hn hd => by have := hd.1; omega⟩⟩
section
variable {w : World} {vn ve : Value} {N : List Int} {E : List Tr}
set_option maxRecDepth 100000 in
set_option maxHeartbeats 2000000 in
theorem rg_start (h : RG w vn ve N E) (hok : GrOk N E) (hE : E.length ≤ 900000) : Calls Try.prog 97 #[.agg #[vn, ve]] w fun e w' =>
    ∃ o : Option Int, e = .returned (.tuple #[.int .i64 (o.getD 0), .bool o.isSome]) ∧ IsStart (prs E) N o ∧ Below w.heap.size w w' := by
  obtain ⟨an, cn, n, rfl, hn, hnm, h1⟩ := h.n.open
  obtain ⟨ae, ce, m, rfl, hm, hmm, h2⟩ := h.e.open
  have HN := hid hn
  have HM := hid hm
  have HS := hid hok.srtN
  have B1 := hid ((Below.refl w.heap.size w).alloc (Nat.le_refl _) (.cells #[.slice an n cn, .slice ae m ce] 63))
  have R1 := hid (row_new w (.cells #[.slice an n cn, .slice ae m ce] 63))
  have S1 := hid (h1.alloc (Nat.le_refl _) (.cells #[.slice an n cn, .slice ae m ce] 63))
  have HG := hid (h.below B1.out)
  clear h h1 h2 hn hm hok
  go_enter Try.func97, Try.ntmps97
  go_wp2_with fail
  obtain ⟨w1, hw1⟩ : ∃ w1, w1 = w.alloc (.cells #[.slice an n cn, .slice ae m ce] 63) := ⟨_, rfl⟩
  have z1 : w.heap.size + 1 ≤ w1.heap.size := by rw [hw1, World.size_alloc]; exact Nat.le_refl _
  rw [← hw1] at B1 R1 S1 HG ⊢
  clear hw1
  go_loopw [4] (fun i wr => ∃ j : Nat, j ≤ n ∧ i = .int .i64 j ∧ (∀ k ∈ N.take j, ¬ Tc (prs E) k k) ∧ Below w1.heap.size w1 wr) (fun i _ => n - (intOf i).toNat)
  case atStart => exact ⟨0, by omega, by go_num, fun k hk => by simp at hk, Below.refl _ _⟩
  case round =>
    obtain ⟨j, hj, rfl, hno, hB⟩ := hrel
    have HNO := hid hno
    have B2 := hid hB
    have z2 := hB.size
    have d0 : wr.cell? ⟨w.heap.size, 0, none⟩ = some (.slice an n cn) := row_cell (row_below R1.out hB (by omega)) 0
    have d1 : wr.cell? ⟨w.heap.size, 1, none⟩ = some (.slice ae m ce) := row_cell (row_below R1.out hB (by omega)) 1
    clear hno hB
    by_cases hlt : j < n
    · obtain ⟨b, off, x, rfl, hb, hx, c1⟩ := (S1.out.below (B2.out.mono (by omega))).ints hlt HN.out
      have HX := hid hx
      have HG2 := hid (HG.out.below (B2.out.mono (by omega)))
      clear hx
      go_wp2
      refine wp_region_x [1, 0, 1, 0, 0, 1, 3, 0, 1, 0, 0, 1, 2] [0, 1, 2, 3, 4, 5, 7, 8, 9, 10, 11, 6, 12] (by kernel_rfl) (by kernel_rfl) rfl (by kernel_rfl) ?_
      simp only [selX, guardAt, List.getElem?_cons_zero, List.getElem?_cons_succ, List.getD_cons_zero, List.getD_cons_succ]
      repeat (first
        | (refine wpL_p (fun K hK => ?_); go_simp; refine hK _ _ ?_; clear hK K)
        | (refine wpL_r (fun K hK => ?_); apply Exists.intro; refine ⟨fun w2 hw2 => ?_, hK _ _ ?_⟩; (have hk1 := hw2.cell; have hk3 := hw2.heap; clear hw2; go_simp; with_reducible rfl); clear hK K; simp only [Act.put, List.setIfInBounds_toArray, List.set_cons_zero, List.set_cons_succ])
        | (refine wpL_yes rfl rfl ?_)
        | (refine wpL_no rfl rfl (fun K hK => ?_); simp only [Act.put, List.setIfInBounds_toArray, List.set_cons_zero, List.set_cons_succ]; refine hK _ _ ?_; clear hK K)
        | (refine wpL_nil ?_))
      refine wpL_k (fun K hK => ?_)
      go_simp
      refine (rg_reach (show RG wr.drew _ _ N E from ⟨HG2.out.n, HG2.out.e⟩) hE x).mono ?_
      rintro e w3 ⟨v3, R, rfl, h3, hr, b3⟩
      refine hK _ _ (Keeps.of_below b3) ?_
      clear hK K
      have B3 := hid (B2.out.drew.trans (b3.mono z2))
      have z3 : w1.heap.size ≤ w3.heap.size := B3.out.size
      have H3 := hid h3
      have HR := hid (hr.2 x)
      have d2 : w3.cell? ⟨w.heap.size, 0, none⟩ = some (.slice (some ⟨b, off, none⟩) n cn) := row_cell (row_below R1.out B3.out (by omega)) 0
      have d3 : w3.cell? ⟨b, off + j, none⟩ = some (.int .i64 x) := cell_below b3 (by show b < wr.heap.size; omega) c1
      clear h3 hr b3
      repeat (first
        | (refine wpL_p (fun K hK => ?_); go_simp; refine hK _ _ ?_; clear hK K)
        | (refine wpL_r (fun K hK => ?_); apply Exists.intro; refine ⟨fun w2 hw2 => ?_, hK _ _ ?_⟩; (have hk1 := hw2.cell; have hk3 := hw2.heap; clear hw2; go_simp; with_reducible rfl); clear hK K; simp only [Act.put, List.setIfInBounds_toArray, List.set_cons_zero, List.set_cons_succ])
        | (refine wpL_yes rfl rfl ?_)
        | (refine wpL_no rfl rfl (fun K hK => ?_); simp only [Act.put, List.setIfInBounds_toArray, List.set_cons_zero, List.set_cons_succ]; refine hK _ _ ?_; clear hK K)
        | (refine wpL_nil ?_))
      by_cases hx : x ∈ R
      · have q1 : decide (x ∈ R) = true := by simpa using hx
        have HT := hid (HR.out.1 hx)
        clear hx
        refine wpL_e (fun K hK => ?_)
        go_simp
        refine (rg_in H3.out x).mono ?_
        rintro e w4 ⟨rfl, rfl⟩
        refine hK _ _ ?_
        clear hK K
        rw [q1]
        repeat (first
          | (refine wpL_p (fun K hK => ?_); go_simp; refine hK _ _ ?_; clear hK K)
          | (refine wpL_r (fun K hK => ?_); apply Exists.intro; refine ⟨fun w2 hw2 => ?_, hK _ _ ?_⟩; (have hk1 := hw2.cell; have hk3 := hw2.heap; clear hw2; go_simp; with_reducible rfl); clear hK K; simp only [Act.put, List.setIfInBounds_toArray, List.set_cons_zero, List.set_cons_succ])
          | (refine wpL_yes rfl rfl ?_)
          | (refine wpL_no rfl rfl (fun K hK => ?_); simp only [Act.put, List.setIfInBounds_toArray, List.set_cons_zero, List.set_cons_succ]; refine hK _ _ ?_; clear hK K)
          | (refine wpL_nil ?_))
        go_wp2
        refine bodyPost_ret (v := .tuple #[.int .i64 x, .bool true]) (by simp [results, Try.results97, go_sem]) rfl ⟨some x, rfl, ⟨List.mem_of_getElem? HX.out, HT.out, fun k hk hlt2 => HNO.out k (lt_take HS.out HX.out hk hlt2)⟩, B1.out.trans (B3.out.mono (by omega))⟩
      · have q1 : decide (x ∈ R) = false := by simpa using hx
        have HT := hid (fun h => hx (HR.out.2 h))
        clear hx
        refine wpL_e (fun K hK => ?_)
        go_simp
        refine (rg_in H3.out x).mono ?_
        rintro e w4 ⟨rfl, rfl⟩
        refine hK _ _ ?_
        clear hK K
        rw [q1]
        repeat (first
          | (refine wpL_p (fun K hK => ?_); go_simp; refine hK _ _ ?_; clear hK K)
          | (refine wpL_r (fun K hK => ?_); apply Exists.intro; refine ⟨fun w2 hw2 => ?_, hK _ _ ?_⟩; (have hk1 := hw2.cell; have hk3 := hw2.heap; clear hw2; go_simp; with_reducible rfl); clear hK K; simp only [Act.put, List.setIfInBounds_toArray, List.set_cons_zero, List.set_cons_succ])
          | (refine wpL_yes rfl rfl ?_)
          | (refine wpL_no rfl rfl (fun K hK => ?_); simp only [Act.put, List.setIfInBounds_toArray, List.set_cons_zero, List.set_cons_succ]; refine hK _ _ ?_; clear hK K)
          | (refine wpL_nil ?_))
        go_wp2_with fail
        go_roundw
        case rel => exact ⟨j + 1, by omega, by go_num, fun k hk => (by
          rcases (mem_take_step HX.out).1 hk with h | rfl
          · exact HNO.out k h
          · exact HT.out), B3.out⟩
        case measure => simp [intOf]; omega
    · obtain rfl : j = n := by omega
      go_wp2
      refine bodyPost_ret (v := .tuple #[.int .i64 0, .bool false]) (by simp [results, Try.results97, go_sem]) rfl ⟨none, rfl, fun k hk => HNO.out k (by rw [← HN.out, List.take_length]; exact hk), B1.out.trans (B2.out.mono (by omega))⟩
set_option maxRecDepth 100000 in
set_option maxHeartbeats 4000000 in
theorem rg_far (h : RG w vn ve N E) (hok : GrOk N E) (hN : N.length ≤ 900000) (hE : E.length ≤ 900000) (s : Int) : Calls Try.prog 98 #[.agg #[vn, ve], .int .i64 s] w fun e w' =>
    ∃ v D, e = .returned v ∧ OwnI w' w.heap.size v D ∧ FarAll (prs E) N s D ∧ Below w.heap.size w w' := by
  obtain ⟨an, cn, n, rfl, hn, hnm, h1⟩ := h.n.open
  obtain ⟨ae, ce, m, rfl, hm, hmm, h2⟩ := h.e.open
  have HN := hid hn
  have HM := hid hm
  have hn9 : n ≤ 900000 := by omega
  have HOK := hid hok
  have HP1 := hid (fun (x : Pr) (hx : x ∈ prs E) => (hok.pair hx).1)
  have HP2 := hid (fun (x : Pr) (hx : x ∈ prs E) => (hok.pair hx).2)
  have B1 := hid ((Below.refl w.heap.size w).alloc (Nat.le_refl _) (.cells #[.slice an n cn, .slice ae m ce] 63))
  have R1 := hid (row_new w (.cells #[.slice an n cn, .slice ae m ce] 63))
  have S1 := hid (h1.alloc (Nat.le_refl _) (.cells #[.slice an n cn, .slice ae m ce] 63))
  have HG := hid (h.below B1.out)
  obtain ⟨i, hi, hz0, hz1, hz2⟩ : ∃ i, Try.prog.info? 3 = some i ∧ i.zero = some (.int .i64 0) ∧ i.size = 1 ∧ i.bytes = 8 := by
    have := infoI
    cases hh : Try.prog.info? 3 with
    | none => rw [hh] at this; simp at this
    | some i => rw [hh] at this; simp at this; exact ⟨i, rfl, this.1, this.2.1, this.2.2⟩
  clear h h1 h2 hn hm hok hN
  go_enter Try.func98, Try.ntmps98
  obtain ⟨w1, hw1⟩ : ∃ w1, w1 = w.alloc (.cells #[.slice an n cn, .slice ae m ce] 63) := ⟨_, rfl⟩
  have z1 : w.heap.size + 1 ≤ w1.heap.size := by rw [hw1, World.size_alloc]; exact Nat.le_refl _
  rw [← hw1] at B1 R1 S1 HG
  have d0 : w1.cell? ⟨w.heap.size, 0, none⟩ = some (.slice an n cn) := row_cell R1.out 0
  have HW1 := hid hw1
  go_wp2_with (at_make; rw [← HW1.out]; refine wpList_make_full _ rfl _ _ _ rfl w1.heap.size 3 i _ 1 Try.underlying23 hi hz0 hz1 .i64 .i64 (n : Int) (n : Int) n (by rfl) (by rfl) rfl rfl (by rw [hz2]; omega) (by unfold maxLen; omega) (Nat.le_refl _) ?_; refine Stop.halt ?_)
  refine Stop.go ?_
  intro w2 o2 g2
  rw [← HW1.out] at g2
  have hgz : w.heap.size + 1 = w1.heap.size := by rw [HW1.out, World.size_alloc]
  have O2 := hid (show OwnI w2 w1.heap.size (.slice (some ⟨w.heap.size + 1, 0, none⟩) n n) (List.replicate n 0) by
    unfold OwnI OwnF
    rw [flat_int, List.map_replicate, show (List.replicate n (0 : Int)).length = n from List.length_replicate]
    have h2 := o2
    rw [toList_madeCells_one] at h2
    rw [← hgz]
    exact h2)
  have B2 := hid (show Below w1.heap.size w1 w2 from (Below.refl w1.heap.size w1).grown g2 (Nat.le_refl _) (fun _ h => by cases h))
  have F2 := hid (show FarPre (prs E) N s 0 (List.replicate n 0) from ⟨by rw [List.length_replicate]; exact HN.out.symm, fun i a z hi => by omega⟩)
  have hgle : w1.heap.size ≤ w.heap.size + 1 := Nat.le_of_eq hgz.symm
  clear o2 g2 HW1 hw1 d0 hgz
  go_wp2_with fail
  go_loopw [6] (fun i wr => ∃ (j : Nat) (D : List Int), j ≤ n ∧ i = .int .i64 j ∧ FarPre (prs E) N s j D ∧ OwnI wr w1.heap.size (.slice (some ⟨w.heap.size + 1, 0, none⟩) n n) D ∧ Below w1.heap.size w1 wr) (fun i _ => n - (intOf i).toNat)
  case atStart => exact ⟨0, _, by omega, by go_num, F2.out, O2.out, B2.out⟩
  case round =>
    obtain ⟨j, D, hj, rfl, hF, hO, hB⟩ := hrel
    have F3 := hid hF
    have O3 := hid hO
    have B3 := hid hB
    have z3 := hB.size
    have HDL := hid (show D.length = n by rw [← HN.out]; exact hF.1)
    have d0 : wr.cell? ⟨w.heap.size, 0, none⟩ = some (.slice an n cn) := row_cell (row_below R1.out hB (by omega)) 0
    clear hF hO hB F2 O2 B2
    by_cases hlt : j < n
    · obtain ⟨b, off, x, rfl, hb, hx, c1⟩ := (S1.out.below (B3.out.mono (by omega))).ints hlt HN.out
      obtain ⟨g', y, e1, -, -, -, c2⟩ := OwnI.at O3.out HDL.out hlt
      simp only [Option.some.injEq, Addr.mk.injEq, and_true] at e1
      subst e1
      have HX := hid hx
      have hf := O3.out.free j
      have hbg : b ≠ w.heap.size + 1 := by omega
      clear hx
      by_cases he : x = s
      · have q1 : (x == s) = true := by simpa using he
        have F4 := hid (F3.out.put HX.out (by rw [he]; exact far_zero _ _))
        clear he
        go_wp2_with fail
        go_roundw
        case rel => exact ⟨j + 1, _, by omega, by go_num, F4.out, by have := OwnI.set (OwnI.set O3.out HDL.out (j := j) (-1)) (by rw [List.length_set]; exact HDL.out) (j := j) 0; rw [List.set_set] at this; exact this, (B3.out.setCell (p := ⟨w.heap.size + 1, j, none⟩) hgle _).setCell (p := ⟨w.heap.size + 1, j, none⟩) hgle _⟩
        case measure => simp [intOf]; omega
      · have q1 : (x == s) = false := by simpa using he
        have F4 := hid (F3.out.put HX.out (far_not _ he))
        clear he
        go_wp2_with fail
        go_roundw
        case rel => exact ⟨j + 1, _, by omega, by go_num, F4.out, OwnI.set O3.out HDL.out (j := j) (-1), B3.out.setCell (p := ⟨w.heap.size + 1, j, none⟩) hgle _⟩
        case measure => simp [intOf]; omega
    · obtain rfl : j = n := by omega
      have F4 := hid (FarPre.done (show FarPre (prs E) N s N.length D by rw [HN.out]; exact F3.out))
      go_wp2_with fail
      obtain ⟨W3, rfl⟩ : ∃ W3, W3 = wr := ⟨_, rfl⟩
      go_loopw [7] (fun i wr => ∃ (r : Nat) (D : List Int), r ≤ j ∧ i = .int .i64 r ∧ Fars (prs E) N s r 0 D ∧ OwnI wr w1.heap.size (.slice (some ⟨w.heap.size + 1, 0, none⟩) j j) D ∧ Below w1.heap.size w1 wr) (fun i _ => j - (intOf i).toNat)
      case atStart => exact ⟨0, _, by omega, by go_num, F4.out, O3.out, B3.out⟩
      case round =>
        obtain ⟨r, D, hr, rfl, hF, hO, hB⟩ := hrel
        have F5 := hid hF
        have O5 := hid hO
        have B5 := hid hB
        have z5 := hB.size
        clear hF hO hB F4 F3 O3 B3 d0 HDL
        by_cases hrn : r < j
        · go_wp2_with fail
          obtain ⟨W5, rfl⟩ : ∃ W5, W5 = wr := ⟨_, rfl⟩
          go_loopw [8] (fun i wr => ∃ (u : Nat) (D : List Int), u ≤ j ∧ i = .int .i64 u ∧ Fars (prs E) N s r u D ∧ OwnI wr w1.heap.size (.slice (some ⟨w.heap.size + 1, 0, none⟩) j j) D ∧ Below w1.heap.size w1 wr) (fun i _ => j - (intOf i).toNat)
          case atStart => exact ⟨0, _, by omega, by go_num, F5.out, O5.out, B5.out⟩
          case round =>
            obtain ⟨u, D, hu, rfl, hF, hO, hB⟩ := hrel
            have F6 := hid hF
            have O6 := hid hO
            have B6 := hid hB
            have z6 := hB.size
            have d0 : wr.cell? ⟨w.heap.size, 0, none⟩ = some (.slice an j cn) := row_cell (row_below R1.out hB (by omega)) 0
            have d1 : wr.cell? ⟨w.heap.size, 1, none⟩ = some (.slice ae m ce) := row_cell (row_below R1.out hB (by omega)) 1
            clear hF hO hB F5 O5 B5
            by_cases huj : u < j
            · obtain ⟨b, off, x, rfl, hb, hx, c1⟩ := (S1.out.below (B6.out.mono (by omega))).ints huj HN.out
              have HX := hid hx
              have HG6 := hid (HG.out.below (B6.out.mono (by omega)))
              have M6 := hid (FarMid.start F6.out hx)
              clear hx
              go_wp2
              refine wp_region_x [1, 0, 1, 0, 0, 1, 2, 0] [0, 1, 2, 3, 4, 5, 6, 7] (by kernel_rfl) (by kernel_rfl) rfl (by kernel_rfl) ?_
              simp only [selX, guardAt, List.getElem?_cons_zero, List.getElem?_cons_succ, List.getD_cons_zero, List.getD_cons_succ]
              repeat (first
                | (refine wpL_p (fun K hK => ?_); go_simp; refine hK _ _ ?_; clear hK K)
                | (refine wpL_r (fun K hK => ?_); apply Exists.intro; refine ⟨fun w2 hw2 => ?_, hK _ _ ?_⟩; (have hk1 := hw2.cell; have hk3 := hw2.heap; clear hw2; go_simp; with_reducible rfl); clear hK K; simp only [Act.put, List.setIfInBounds_toArray, List.set_cons_zero, List.set_cons_succ])
                | (refine wpL_yes rfl rfl ?_)
                | (refine wpL_no rfl rfl (fun K hK => ?_); simp only [Act.put, List.setIfInBounds_toArray, List.set_cons_zero, List.set_cons_succ]; refine hK _ _ ?_; clear hK K)
                | (refine wpL_nil ?_))
              refine wpL_e (fun K hK => ?_)
              go_simp
              refine (rg_outN (show RG wr.drew _ _ N E from ⟨HG6.out.n, HG6.out.e⟩) hE x).mono ?_
              rintro e w7 ⟨v7, rfl, h7, fr7, b7⟩
              refine hK _ _ ?_
              clear hK K
              obtain ⟨a7, c7, rfl, hm7⟩ := Sl.ex h7
              have B7 := hid (B6.out.drew.trans (b7.mono z6))
              have NE7 := hid (fun e => by
                have h1 : wr.heap.size ≤ w.heap.size + 1 := fr7 _ e
                have h2 : w.heap.size + 1 < wr.heap.size := (O6.out.lt _ rfl).2
                omega : (Value.slice a7 (row (prs E) x).length c7).ownBlock ≠ some (w.heap.size + 1))
              have O7 := hid (OwnF.below (show OwnI wr.drew _ _ D from O6.out) b7)
              have z7 : w1.heap.size ≤ w7.heap.size := B7.out.size
              have L7 := hid (show LI w7 (.slice a7 (row (prs E) x).length c7) (row (prs E) x) from h7)
              have HRW := hid (fun y => (mem_row : y ∈ row (prs E) x ↔ (x, y) ∈ prs E))
              generalize row (prs E) x = R at *
              generalize R.length = rn at *
              clear h7 b7 fr7 O6 B6 F6 d0 d1 c1
              repeat (first
                | (refine wpL_p (fun K hK => ?_); go_simp; refine hK _ _ ?_; clear hK K)
                | (refine wpL_r (fun K hK => ?_); apply Exists.intro; refine ⟨fun w2 hw2 => ?_, hK _ _ ?_⟩; (have hk1 := hw2.cell; have hk3 := hw2.heap; clear hw2; go_simp; with_reducible rfl); clear hK K; simp only [Act.put, List.setIfInBounds_toArray, List.set_cons_zero, List.set_cons_succ])
                | (refine wpL_yes rfl rfl ?_)
                | (refine wpL_no rfl rfl (fun K hK => ?_); simp only [Act.put, List.setIfInBounds_toArray, List.set_cons_zero, List.set_cons_succ]; refine hK _ _ ?_; clear hK K)
                | (refine wpL_nil ?_))
              go_wp2_with fail
              go_loopw [10] (fun i wr => ∃ (k : Nat) (D : List Int), k ≤ j ∧ i = .int .i64 k ∧ FarMid (prs E) N s r u k D ∧ OwnI wr w1.heap.size (.slice (some ⟨w.heap.size + 1, 0, none⟩) j j) D ∧ LI wr (.slice a7 rn c7) R ∧ Below w1.heap.size w1 wr) (fun i _ => j - (intOf i).toNat)
              case atStart => exact ⟨0, _, by omega, by go_num, M6.out, O7.out, L7.out, B7.out⟩
              case round =>
                obtain ⟨k, D, hk, rfl, hM, hO, hL, hB⟩ := hrel
                have M8 := hid hM
                have O8 := hid hO
                have L8 := hid hL
                have B8 := hid hB
                have HDL := hid (show D.length = j by rw [← HN.out]; exact hM.len)
                have z8 := hB.size
                have d0 : wr.cell? ⟨w.heap.size, 0, none⟩ = some (.slice (some ⟨b, off, none⟩) j cn) := row_cell (row_below R1.out hB (by omega)) 0
                clear hM hO hL hB M6 O7 L7 B7
                by_cases hkj : k < j
                · obtain ⟨b', off', y, e0, hb', hy, c1⟩ := (S1.out.below (B8.out.mono (by omega))).ints hkj HN.out
                  simp only [Option.some.injEq, Addr.mk.injEq, and_true] at e0
                  obtain ⟨rfl, rfl⟩ := e0
                  obtain ⟨g', z, e1, -, -, hz, c2⟩ := OwnI.at O8.out HDL.out huj
                  simp only [Option.some.injEq, Addr.mk.injEq, and_true] at e1
                  subst e1
                  obtain ⟨g', q, e1, -, -, hq, c3⟩ := OwnI.at O8.out HDL.out hkj
                  simp only [Option.some.injEq, Addr.mk.injEq, and_true] at e1
                  subst e1
                  have hf := O8.out.free u
                  have HZ := hid hz
                  have HQ := hid hq
                  have HY := hid hy
                  clear hz hq hy
                  by_cases hz0 : z < 0
                  · have q1 : decide (z < 0) = true := by simpa using hz0
                    by_cases hqr : q = r
                    · have q2 : (q == (r : Int)) = true := by simpa using hqr
                      by_cases hyR : y ∈ R
                      · have q3 : decide (y ∈ R) = true := by simpa using hyR
                        have M9 := hid (M8.out.take HX.out HZ.out hz0 HY.out HQ.out hqr ((HRW.out y).1 hyR))
                        clear hqr hyR
                        go_wp2_with fail
                        refine (rg_in L8.out y).mono ?_
                        rintro e w9 ⟨rfl, rfl⟩
                        rw [q3]
                        go_wp2_with fail
                        go_roundw
                        case rel => exact ⟨k + 1, _, by omega, by go_num, M9.out, by simpa using OwnI.set O8.out HDL.out (j := u) ((r : Int) + 1), (by have h := Sl.other (j := u) (u := .int .i64 ((r : Int) + 1)) L8.out NE7.out; unfold LI; rw [World.size_setCell]; exact h), B8.out.setCell (p := ⟨w.heap.size + 1, u, none⟩) hgle _⟩
                        case measure => simp [intOf]; omega
                      · have q3 : decide (y ∈ R) = false := by simpa using hyR
                        have M9 := hid (M8.out.pass HX.out HZ.out hz0 HY.out HQ.out fun h => hyR ((HRW.out y).2 h.2))
                        clear hqr hyR
                        go_wp2_with fail
                        refine (rg_in L8.out y).mono ?_
                        rintro e w9 ⟨rfl, rfl⟩
                        rw [q3]
                        go_wp2_with fail
                        go_roundw
                        case rel => exact ⟨k + 1, _, by omega, by go_num, M9.out, O8.out, L8.out, B8.out⟩
                        case measure => simp [intOf]; omega
                    · have q2 : (q == (r : Int)) = false := by simpa using hqr
                      have M9 := hid (M8.out.pass HX.out HZ.out hz0 HY.out HQ.out fun h => hqr h.1)
                      clear hqr
                      go_wp2_with fail
                      go_roundw
                      case rel => exact ⟨k + 1, _, by omega, by go_num, M9.out, O8.out, L8.out, B8.out⟩
                      case measure => simp [intOf]; omega
                  · have q1 : decide (z < 0) = false := by simpa using hz0
                    have M9 := hid (M8.out.skip HZ.out (by omega))
                    go_wp2_with fail
                    go_roundw
                    case rel => exact ⟨k + 1, _, by omega, by go_num, M9.out, O8.out, L8.out, B8.out⟩
                    case measure => simp [intOf]; omega
                · obtain rfl : k = j := by omega
                  have F9 := hid (FarMid.done (show FarMid (prs E) N s r u N.length D by rw [HN.out]; exact M8.out) HP2.out)
                  go_wp2_with fail
                  go_roundw
                  case rel => exact ⟨u + 1, _, by omega, by go_num, F9.out, O8.out, B8.out⟩
                  case measure => simp [intOf]; omega
            · obtain rfl : u = j := by omega
              have F7 := hid (Fars.roll (show Fars (prs E) N s r N.length D by rw [HN.out]; exact F6.out))
              go_wp2_with fail
              go_roundw
              case rel => exact ⟨r + 1, _, by omega, by go_num, F7.out, O6.out, B6.out⟩
              case measure => simp [intOf]; omega
        · obtain rfl : r = j := by omega
          have F6 := hid (F5.out.done (Nat.le_of_eq HN.out) HP1.out)
          go_wp2
          go_ret
          exact ⟨_, D, rfl, O5.out.base (by omega), F6.out, B1.out.trans (B5.out.mono (by omega))⟩
end

/-- Of the first j nodes that stand in R and have a number, the first of those that have the least. -/
def BestIs (N D R : List Int) (j : Nat) (z : Int) : Prop :=
  (z = -1 ∧ ∀ (i : Nat) (a y : Int), i < j → N[i]? = some a → D[i]? = some y → a ∈ R → y < 0) ∨
  ∃ (i : Nat) (a y : Int), z = i ∧ i < j ∧ N[i]? = some a ∧ D[i]? = some y ∧ a ∈ R ∧ 0 ≤ y ∧ ∀ (i' : Nat) (a' y' : Int), i' < j → N[i']? = some a' → D[i']? = some y' → a' ∈ R → 0 ≤ y' → y ≤ y' ∧ (i' < i → y < y')
section
variable {P : List Pr} {N D R : List Int} {s a x y z : Int} {j q : Nat}
theorem BestIs.zero (N D R : List Int) : BestIs N D R 0 (-1) := .inl ⟨rfl, fun i a y h => by omega⟩
theorem BestIs.skip (h : BestIs N D R j z) (ha : N[j]? = some a) (hy : D[j]? = some y) (hno : a ∈ R → y < 0) : BestIs N D R (j + 1) z := by
  rcases h with ⟨rfl, h⟩ | ⟨i, b, x, rfl, hi, h1, h2, h3, h4, h5⟩
  · refine .inl ⟨rfl, fun i b x hi hb hx hR => ?_⟩
    by_cases e : i = j
    · subst e
      rw [ha] at hb
      rw [hy] at hx
      obtain rfl := Option.some.inj hb
      obtain rfl := Option.some.inj hx
      exact hno hR
    · exact h i b x (by omega) hb hx hR
  · refine .inr ⟨i, b, x, rfl, by omega, h1, h2, h3, h4, fun i' a' y' hi' ha' hy' hR h0 => ?_⟩
    by_cases e : i' = j
    · subst e
      rw [ha] at ha'
      rw [hy] at hy'
      obtain rfl := Option.some.inj ha'
      obtain rfl := Option.some.inj hy'
      have := hno hR
      omega
    · exact h5 i' a' y' (by omega) ha' hy' hR h0
theorem BestIs.first (h : BestIs N D R j (-1)) (ha : N[j]? = some a) (hy : D[j]? = some y) (hR : a ∈ R) (h0 : 0 ≤ y) : BestIs N D R (j + 1) j := by
  rcases h with ⟨-, h⟩ | ⟨i, b, x, e, -⟩
  · refine .inr ⟨j, a, y, rfl, by omega, ha, hy, hR, h0, fun i' a' y' hi' ha' hy' hR' h0' => ?_⟩
    by_cases e : i' = j
    · subst e
      rw [hy] at hy'
      obtain rfl := Option.some.inj hy'
      exact ⟨Int.le_refl _, fun h => by omega⟩
    · have := h i' a' y' (by omega) ha' hy' hR'
      omega
  · omega
theorem BestIs.less {i : Nat} {x : Int} (h : BestIs N D R j i) (ha : N[j]? = some a) (hy : D[j]? = some y) (hR : a ∈ R) (h0 : 0 ≤ y) (hx : D[i]? = some x) (hl : y < x) : BestIs N D R (j + 1) j := by
  rcases h with ⟨e, -⟩ | ⟨i0, b, x0, e, hi, h1, h2, h3, h4, h5⟩
  · omega
  · obtain rfl : i0 = i := by omega
    rw [hx] at h2
    obtain rfl := Option.some.inj h2
    refine .inr ⟨j, a, y, rfl, by omega, ha, hy, hR, h0, fun i' a' y' hi' ha' hy' hR' h0' => ?_⟩
    by_cases e : i' = j
    · subst e
      rw [hy] at hy'
      obtain rfl := Option.some.inj hy'
      exact ⟨Int.le_refl _, fun h => by omega⟩
    · have := (h5 i' a' y' (by omega) ha' hy' hR' h0').1
      exact ⟨by omega, fun _ => by omega⟩
theorem BestIs.more {i : Nat} {x : Int} (h : BestIs N D R j i) (ha : N[j]? = some a) (hy : D[j]? = some y) (hx : D[i]? = some x) (hl : ¬ y < x) : BestIs N D R (j + 1) i := by
  rcases h with ⟨e, -⟩ | ⟨i0, b, x0, e, hi, h1, h2, h3, h4, h5⟩
  · omega
  · obtain rfl : i0 = i := by omega
    rw [hx] at h2
    obtain rfl := Option.some.inj h2
    refine .inr ⟨i0, b, x, rfl, by omega, h1, hx, h3, h4, fun i' a' y' hi' ha' hy' hR' h0' => ?_⟩
    by_cases e : i' = j
    · subst e
      rw [hy] at hy'
      obtain rfl := Option.some.inj hy'
      exact ⟨by omega, fun h => by omega⟩
    · exact h5 i' a' y' (by omega) ha' hy' hR' h0'
theorem BestIs.form (h : BestIs N D R j z) : z = -1 ∨ ∃ (i : Nat) (y : Int), z = i ∧ i < j ∧ D[i]? = some y := by
  rcases h with ⟨e, -⟩ | ⟨i, b, x, e, hi, h1, h2, -⟩
  · exact .inl e
  · exact .inr ⟨i, x, e, hi, h2⟩
theorem FarAll.get (h : FarAll P N s D) (ha : a ∈ N) : ∃ (i : Nat) (y : Int), i < N.length ∧ N[i]? = some a ∧ D[i]? = some y ∧ ((a = s ∧ y = 0) ∨ (a ≠ s ∧ ((∃ n : Nat, Dist P s n a ∧ y = n) ∨ (y = -1 ∧ ∀ n, ¬ Dist P s n a)))) := by
  obtain ⟨i, hi, e⟩ := List.getElem_of_mem ha
  have h1 : N[i]? = some a := by rw [List.getElem?_eq_getElem hi, e]
  have h2 : D[i]? = some (D[i]'(by rw [h.1]; exact hi)) := List.getElem?_eq_getElem _
  exact ⟨i, _, hi, h1, h2, h.2 i a _ h1 h2⟩
theorem Chain.step {b : Int} {r : List Int} (hq : 1 ≤ q) (h1 : (x, b) ∈ P) (h2 : b ≠ s) (h3 : Dist P s q b) (h4 : ∀ c, c < b → (x, c) ∈ P → ¬ (c ≠ s ∧ Dist P s q c)) (h5 : Chain P s q b r) : Chain P s (q + 1) x (b :: r) := by
  obtain ⟨q2, rfl⟩ : ∃ q2, q = q2 + 1 := ⟨q - 1, by omega⟩
  exact ⟨b, r, rfl, h1, h2, h3, h4, h5⟩
theorem best_one (h : BestIs N D R N.length z) (hF : FarAll P N s D) (hR : ∀ y, y ∈ R ↔ (x, y) ∈ P) (hd : Dist P s 1 x) (hs : s ∈ N) : ∃ i : Nat, z = i ∧ i < N.length ∧ N[i]? = some s := by
  have hxs := dist_one.1 hd
  obtain ⟨i0, y0, hi0, h1, h2, h3⟩ := hF.get hs
  obtain rfl : y0 = 0 := by
    rcases h3 with ⟨-, e⟩ | ⟨e, -⟩
    · exact e
    · exact absurd rfl e
  rcases h with ⟨-, h⟩ | ⟨i, b, x0, e, hi, k1, k2, k3, k4, k5⟩
  · have := h i0 s 0 hi0 h1 h2 ((hR s).2 hxs)
    omega
  · have := (k5 i0 s 0 hi0 h1 h2 ((hR s).2 hxs) (Int.le_refl _)).1
    obtain rfl : x0 = 0 := by omega
    refine ⟨i, e, hi, ?_⟩
    rcases hF.2 i b 0 k1 k2 with ⟨e, -⟩ | ⟨-, ⟨n, hn, e⟩ | ⟨e, -⟩⟩
    · rw [← e]; exact k1
    · have := hn.1
      omega
    · omega
theorem best_more (h : BestIs N D R N.length z) (hF : FarAll P N s D) (hR : ∀ y, y ∈ R ↔ (x, y) ∈ P) (hd : Dist P s (q + 1) x) (hq : 1 ≤ q) (hN : SrtI N) (hP : ∀ p ∈ P, p.2 ∈ N) :
    ∃ (i : Nat) (b : Int), z = i ∧ i < N.length ∧ N[i]? = some b ∧ (x, b) ∈ P ∧ b ≠ s ∧ Dist P s q b ∧ ∀ c, c < b → (x, c) ∈ P → ¬ (c ≠ s ∧ Dist P s q c) := by
  obtain ⟨b0, h1, h2, h3⟩ := hd.next hq
  obtain ⟨i0, y0, hi0, g1, g2, g3⟩ := hF.get (hP _ h1)
  obtain rfl : y0 = q := by
    rcases g3 with ⟨e, -⟩ | ⟨-, ⟨n, hn, e⟩ | ⟨-, hno⟩⟩
    · exact absurd e h2
    · rw [e, hn.uniq h3]
    · exact absurd h3 (hno q)
  have hb0 := (hR b0).2 h1
  rcases h with ⟨-, h⟩ | ⟨i, b, x0, e, hi, k1, k2, k3, k4, k5⟩
  · have := h i0 b0 _ hi0 g1 g2 hb0
    omega
  · have hle := (k5 i0 b0 _ hi0 g1 g2 hb0 (by omega)).1
    have hxb := (hR b).1 k3
    have hbs : b ≠ s := by
      rintro rfl
      have := hd.uniq (dist_one.2 hxb)
      omega
    have hdb : Dist P s q b ∧ x0 = q := by
      rcases hF.2 i b x0 k1 k2 with ⟨e, -⟩ | ⟨-, ⟨n, hn, e⟩ | ⟨e, -⟩⟩
      · exact absurd e hbs
      · have : n = q := by
          rcases Nat.lt_trichotomy n q with hl | hl | hl
          · exact absurd ⟨b, hxb, hn.2.1⟩ (hd.2.2 (n + 1) (by omega) (by omega))
          · exact hl
          · omega
        subst this
        exact ⟨hn, e⟩
      · omega
    obtain ⟨hdb, rfl⟩ := hdb
    refine ⟨i, b, e, hi, k1, hxb, hbs, hdb, fun c hc hxc hcc => ?_⟩
    obtain ⟨i', y', hi', m1, m2, m3⟩ := hF.get (hP _ hxc)
    obtain rfl : y' = q := by
      rcases m3 with ⟨e, -⟩ | ⟨-, ⟨n, hn, e⟩ | ⟨-, hno⟩⟩
      · exact absurd e hcc.1
      · rw [e, hn.uniq hcc.2]
      · exact absurd hcc.2 (hno q)
    have hii : i' < i := by
      rcases Nat.lt_trichotomy i' i with hl | hl | hl
      · exact hl
      · subst hl
        rw [k1] at m1
        have := Option.some.inj m1
        omega
      · have e1 := (List.getElem?_eq_some_iff.1 k1).2
        have e2 := (List.getElem?_eq_some_iff.1 m1).2
        have := List.pairwise_iff_getElem.1 hN i i' hi hi' hl
        rw [e1, e2] at this
        omega
    have := (k5 i' c _ hi' m1 m2 ((hR c).2 hxc) (by omega)).2 hii
    omega
end
section
variable {w : World} {vn ve : Value} {N : List Int} {E : List Tr}
set_option maxRecDepth 100000 in
set_option maxHeartbeats 4000000 in
theorem rg_cycle (h : RG w vn ve N E) (hok : GrOk N E) (hN : N.length ≤ 900000) (hE : E.length ≤ 900000) : Calls Try.prog 67 #[.agg #[vn, ve]] w fun e w' =>
    ∃ v c, e = .returned v ∧ LI w' v c ∧ IsCyc (prs E) N c ∧ Below w.heap.size w w' := by
  obtain ⟨an, cn, n, rfl, hn, hnm, h1⟩ := h.n.open
  obtain ⟨ae, ce, m, rfl, hm, hmm, h2⟩ := h.e.open
  have HN := hid hn
  have HM := hid hm
  have hn9 : n ≤ 900000 := by omega
  have HOK := hid hok
  have HP1 := hid (fun (x : Pr) (hx : x ∈ prs E) => (hok.pair hx).1)
  have HP2 := hid (fun (x : Pr) (hx : x ∈ prs E) => (hok.pair hx).2)
  have B1 := hid ((Below.refl w.heap.size w).alloc (Nat.le_refl _) (.cells #[.slice an n cn, .slice ae m ce] 63))
  have R1 := hid (row_new w (.cells #[.slice an n cn, .slice ae m ce] 63))
  have S1 := hid (h1.alloc (Nat.le_refl _) (.cells #[.slice an n cn, .slice ae m ce] 63))
  have HG := hid (h.below B1.out)
  have hN2 := hN
  clear h h1 h2 hn hm hok
  go_enter Try.func67, Try.ntmps67
  go_wp2_with fail
  obtain ⟨w1, hw1⟩ : ∃ w1, w1 = w.alloc (.cells #[.slice an n cn, .slice ae m ce] 63) := ⟨_, rfl⟩
  have z1 : w.heap.size + 1 ≤ w1.heap.size := by rw [hw1, World.size_alloc]; exact Nat.le_refl _
  rw [← hw1] at B1 R1 S1 HG ⊢
  clear hw1
  refine (rg_start HG.out HOK.out hE).mono ?_
  rintro e w2 ⟨o, rfl, hst, b2⟩
  have B2 := hid b2
  have z2 := b2.size
  have HG2 := hid (HG.out.below b2)
  have d0 : w2.cell? ⟨w.heap.size, 0, none⟩ = some (.slice an n cn) := row_cell (row_below R1.out b2 (by omega)) 0
  have d1 : w2.cell? ⟨w.heap.size, 1, none⟩ = some (.slice ae m ce) := row_cell (row_below R1.out b2 (by omega)) 1
  clear b2
  cases o with
  | none =>
    have HST := hid hst
    clear hst
    go_wp2
    go_ret
    exact ⟨_, [], rfl, (OwnF.nil (f := intC) (e := 3) (sz := 1) w2 0).sl, .inl ⟨rfl, HST.out⟩, B1.out.trans (B2.out.mono (by omega))⟩
  | some s =>
    obtain ⟨hsN, hsT, hsl⟩ := hst
    have HSN := hid hsN
    have HSL := hid hsl
    obtain ⟨mm, hmd⟩ := tc_iff_dist.1 hsT
    have HMD := hid hmd
    have hml : mm ≤ n := by rw [← HN.out]; exact hmd.le HP1.out
    have hm1 : 1 ≤ mm := hmd.1
    clear hsN hsl hsT hmd
    simp only [Option.getD_some, Option.isSome_some]
    go_wp2_with fail
    refine (rg_far HG2.out HOK.out hN hE s).mono ?_
    rintro e w3 ⟨v3, D, rfl, h3, hF, b3⟩
    obtain ⟨a3, c3, rfl, hm3⟩ := h3.sl.ex
    have HF := hid hF
    have hDl : D.length = n := by rw [hF.1]; exact HN.out
    rw [hDl] at hm3 ⊢
    have O3 := hid (show Sl w3 w3.heap.size 1 (.slice a3 n c3) n (D.flatMap intC) by rw [← hDl]; rw [← hDl] at hm3; have := h3.sl; rw [hDl] at this ⊢; exact this)
    have B3 := hid (B2.out.trans (b3.mono z2))
    have z3 : w1.heap.size ≤ w3.heap.size := B3.out.size
    have HDL := hid hDl
    have d0 : w3.cell? ⟨w.heap.size, 0, none⟩ = some (.slice an n cn) := row_cell (row_below R1.out B3.out (by omega)) 0
    have d1 : w3.cell? ⟨w.heap.size, 1, none⟩ = some (.slice ae m ce) := row_cell (row_below R1.out B3.out (by omega)) 1
    have T4 := hid (OwnF.lit (f := intC) (e := 3) (sz := 1) w3 w3.heap.size (Nat.le_refl _) [s] intC_len (by simp))
    have B4 := hid ((Below.refl w3.heap.size w3).alloc (Nat.le_refl _) (.cells #[.int .i64 s] 3))
    clear h3 hF b3 HG2 hDl B2
    go_wp2_with fail
    go_loopg [6, 7] mm (fun g v at_ wr => ∃ (q : Nat) (l : List Int) (x : Int), 1 ≤ q ∧ q ≤ g ∧ at_ = .int .i64 x ∧ x ∈ N ∧ Dist (prs E) s q x ∧ (∀ r, Chain (prs E) s q x r → Chain (prs E) s mm s (l ++ r)) ∧ l.length + q = mm ∧ OwnI wr w3.heap.size v (s :: l) ∧ Below w3.heap.size w3 wr)
    case atStart => exact ⟨mm, [], s, hm1, Nat.le_refl _, by go_num, HSN.out, HMD.out, fun r hr => hr, by simp, T4.out, B4.out⟩
    case round =>
      obtain ⟨q, l, x, hq1, hqg, rfl, hxN, hdx, hch, hlq, hO, hB⟩ := hrel
      have HDX := hid hdx
      have HXN := hid hxN
      have HCH := hid hch
      have HLQ := hid hlq
      have O5 := hid hO
      have B5 := hid hB
      have z5 := hB.size
      obtain ⟨ao, co, hao, hom⟩ := hO.sl.ex
      obtain ⟨nc, hnc⟩ : ∃ nc, nc = (s :: l).length := ⟨_, rfl⟩
      rw [← hnc] at hao hom
      subst hao
      have hnc2 : nc = l.length + 1 := by rw [hnc]; rfl
      have hncn : nc ≤ n := by omega
      have HNC := hid hnc.symm
      have hnc3 : 1 ≤ nc := by omega
      have d0 : wr.cell? ⟨w.heap.size, 0, none⟩ = some (.slice an n cn) := row_cell (row_below R1.out (B3.out.trans (hB.mono z3)) (by omega)) 0
      have d1 : wr.cell? ⟨w.heap.size, 1, none⟩ = some (.slice ae m ce) := row_cell (row_below R1.out (B3.out.trans (hB.mono z3)) (by omega)) 1
      have HG5 := hid (HG.out.below (B3.out.trans (hB.mono z3)))
      clear hdx hxN hch hO hB hnc hnc2 T4 B4
      go_wp2_with fail
      refine (rg_out HG5.out hE x).mono ?_
      rintro e w6 ⟨v6, rfl, h6, b6⟩
      obtain ⟨a6, c6, rfl, hm6⟩ := Sl.ex h6
      have HRW := hid (fun y => (mem_row : y ∈ row (prs E) x ↔ (x, y) ∈ prs E))
      have B6 := hid (B5.out.trans (b6.mono z5))
      have z6 := B6.out.size
      have O6 := hid (O5.out.below b6)
      have L6 := hid (show LI w6 (.slice a6 (row (prs E) x).length c6) (row (prs E) x) from h6)
      have d0 : w6.cell? ⟨w.heap.size, 0, none⟩ = some (.slice an n cn) := row_cell (row_below R1.out (B3.out.trans (B6.out.mono z3)) (by omega)) 0
      have d1 : w6.cell? ⟨w.heap.size, 1, none⟩ = some (.slice ae m ce) := row_cell (row_below R1.out (B3.out.trans (B6.out.mono z3)) (by omega)) 1
      have S6 := hid (S1.out.below ((B3.out.trans (B6.out.mono z3)).mono (by omega)))
      have D6 := hid (O3.out.below B6.out)
      generalize row (prs E) x = R at *
      clear h6 b6 O5 B5 HG5
      generalize R.length = rn at *
      go_wp2_with fail
      go_loopw [9, 10] (fun bst k wr => ∃ (j : Nat) (z : Int), j ≤ n ∧ k = .int .i64 j ∧ bst = .int .i64 z ∧ BestIs N D R j z ∧ Below w6.heap.size w6 wr) (fun _ k _ => n - (intOf k).toNat)
      case atStart => exact ⟨0, -1, by omega, by go_num, rfl, BestIs.zero _ _ _, Below.refl _ _⟩
      case round =>
        obtain ⟨j, z, hj, rfl, rfl, hb, hB⟩ := hrel
        have BI := hid hb
        have B7 := hid hB
        have hbf := hb.form
        have z7 := hB.size
        have d0 : wr.cell? ⟨w.heap.size, 0, none⟩ = some (.slice an n cn) := row_cell (row_below R1.out (B3.out.trans ((B6.out.trans (hB.mono z6)).mono z3)) (by omega)) 0
        have d1 : wr.cell? ⟨w.heap.size, 1, none⟩ = some (.slice ae m ce) := row_cell (row_below R1.out (B3.out.trans ((B6.out.trans (hB.mono z6)).mono z3)) (by omega)) 1
        have L7 := hid (Sl.up L6.out (Keep.of_below hB))
        have S7 := hid (S6.out.below (hB.mono (by omega)))
        have D7 := hid (D6.out.below (hB.mono z6))
        clear hb hB
        by_cases hjn : j < n
        · obtain ⟨b, off, a, rfl, hb, ha, c1⟩ := S7.out.ints hjn HN.out
          obtain ⟨b2, off2, y, rfl, hb2, hy, c2⟩ := D7.out.ints hjn HDL.out
          have HA := hid ha
          have HY := hid hy
          clear ha hy
          by_cases haR : a ∈ R
          · have q1 : decide (a ∈ R) = true := by simpa using haR
            by_cases hy0 : 0 ≤ y
            · have q2 : decide (0 ≤ y) = true := by simpa using hy0
              have q2' : decide (y ≥ 0) = true := by simpa using hy0
              rcases hbf with rfl | ⟨i, yi, rfl, hij, hyi⟩
              · have BJ := hid (BI.out.first HA.out HY.out haR hy0)
                clear haR
                go_wp2
                refine wp_region_x [0, 0, 1, 0, 0, 1, 2, 0, 0, 0, 0, 1, 0, 0, 0, 0, 0, 0, 0, 0, 0, 1, 0, 0, 0, 1, 0, 0, 0] [0, 1, 2, 3, 4, 5, 6, 7, 8, 9, 10, 11, 12, 13, 14, 15, 16, 17, 18, 19, 20, 21, 22, 23, 24, 25, 26, 27, 28] (by kernel_rfl) (by kernel_rfl) rfl (by kernel_rfl) ?_
                simp only [selX, guardAt, List.getElem?_cons_zero, List.getElem?_cons_succ, List.getD_cons_zero, List.getD_cons_succ, Option.bind_some]
                repeat (first
                  | (refine wpL_p (fun K hK => ?_); go_simp; refine hK _ _ ?_; clear hK K)
                  | (refine wpL_r (fun K hK => ?_); apply Exists.intro; refine ⟨fun w2 hw2 => ?_, hK _ _ ?_⟩; (have hk1 := hw2.cell; have hk3 := hw2.heap; clear hw2; go_simp; with_reducible rfl); clear hK K; simp only [Act.put, List.setIfInBounds_toArray, List.set_cons_zero, List.set_cons_succ])
                  | (refine wpL_yes rfl rfl ?_)
                  | (refine wpL_un rfl (fun K hK => ?_); simp only [Act.put, List.setIfInBounds_toArray, List.set_cons_zero, List.set_cons_succ]; refine hK _ _ ?_; clear hK K)
                  | (refine wpL_no rfl rfl (fun K hK => ?_); simp only [Act.put, List.setIfInBounds_toArray, List.set_cons_zero, List.set_cons_succ]; refine hK _ _ ?_; clear hK K)
                  | (refine wpL_nil ?_))
                refine wpL_e (fun K hK => ?_)
                go_simp
                refine (rg_in (l := R) (show LI wr.drew _ R from L7.out) a).mono ?_
                rintro e w8 ⟨rfl, rfl⟩
                refine hK _ _ ?_
                clear hK K
                rw [q1]
                repeat (first
                  | (refine wpL_p (fun K hK => ?_); go_simp; refine hK _ _ ?_; clear hK K)
                  | (refine wpL_r (fun K hK => ?_); apply Exists.intro; refine ⟨fun w2 hw2 => ?_, hK _ _ ?_⟩; (have hk1 := hw2.cell; have hk3 := hw2.heap; clear hw2; go_simp; with_reducible rfl); clear hK K; simp only [Act.put, List.setIfInBounds_toArray, List.set_cons_zero, List.set_cons_succ])
                  | (refine wpL_yes rfl rfl ?_)
                  | (refine wpL_un rfl (fun K hK => ?_); simp only [Act.put, List.setIfInBounds_toArray, List.set_cons_zero, List.set_cons_succ]; refine hK _ _ ?_; clear hK K)
                  | (refine wpL_no rfl rfl (fun K hK => ?_); simp only [Act.put, List.setIfInBounds_toArray, List.set_cons_zero, List.set_cons_succ]; refine hK _ _ ?_; clear hK K)
                  | (refine wpL_nil ?_))
                go_wp2_with fail
                go_roundw
                case rel => exact ⟨j + 1, j, by omega, by go_num, rfl, BJ.out, B7.out.drew⟩
                case measure => simp [intOf]; omega
              · have q3 : decide ((i : Int) < 0) = false := by simp
                have hin : i < n := by omega
                obtain ⟨b3, off3, yi', e3, hb3, hyi3, c3⟩ := D7.out.ints (show i < n by omega) HDL.out
                simp only [Option.some.injEq, Addr.mk.injEq, and_true] at e3
                obtain ⟨rfl, rfl⟩ := e3
                rw [hyi] at hyi3
                obtain rfl := Option.some.inj hyi3
                clear hyi3
                by_cases hlt : y < yi
                · have q4 : decide (y < yi) = true := by simpa using hlt
                  have BJ := hid (BI.out.less HA.out HY.out haR hy0 hyi hlt)
                  clear hyi
                  clear haR
                  go_wp2
                  refine wp_region_x [0, 0, 1, 0, 0, 1, 2, 0, 0, 0, 0, 1, 0, 0, 0, 0, 0, 0, 0, 0, 0, 1, 0, 0, 0, 1, 0, 0, 0] [0, 1, 2, 3, 4, 5, 6, 7, 8, 9, 10, 11, 12, 13, 14, 15, 16, 17, 18, 19, 20, 21, 22, 23, 24, 25, 26, 27, 28] (by kernel_rfl) (by kernel_rfl) rfl (by kernel_rfl) ?_
                  simp only [selX, guardAt, List.getElem?_cons_zero, List.getElem?_cons_succ, List.getD_cons_zero, List.getD_cons_succ, Option.bind_some]
                  repeat (first
                    | (refine wpL_p (fun K hK => ?_); go_simp; refine hK _ _ ?_; clear hK K)
                    | (refine wpL_r (fun K hK => ?_); apply Exists.intro; refine ⟨fun w2 hw2 => ?_, hK _ _ ?_⟩; (have hk1 := hw2.cell; have hk3 := hw2.heap; clear hw2; go_simp; with_reducible rfl); clear hK K; simp only [Act.put, List.setIfInBounds_toArray, List.set_cons_zero, List.set_cons_succ])
                    | (refine wpL_yes rfl rfl ?_)
                    | (refine wpL_un rfl (fun K hK => ?_); simp only [Act.put, List.setIfInBounds_toArray, List.set_cons_zero, List.set_cons_succ]; refine hK _ _ ?_; clear hK K)
                    | (refine wpL_no rfl rfl (fun K hK => ?_); simp only [Act.put, List.setIfInBounds_toArray, List.set_cons_zero, List.set_cons_succ]; refine hK _ _ ?_; clear hK K)
                    | (refine wpL_nil ?_))
                  refine wpL_e (fun K hK => ?_)
                  go_simp
                  refine (rg_in (l := R) (show LI wr.drew _ R from L7.out) a).mono ?_
                  rintro e w8 ⟨rfl, rfl⟩
                  refine hK _ _ ?_
                  clear hK K
                  rw [q1]
                  repeat (first
                    | (refine wpL_p (fun K hK => ?_); go_simp; refine hK _ _ ?_; clear hK K)
                    | (refine wpL_r (fun K hK => ?_); apply Exists.intro; refine ⟨fun w2 hw2 => ?_, hK _ _ ?_⟩; (have hk1 := hw2.cell; have hk3 := hw2.heap; clear hw2; go_simp; with_reducible rfl); clear hK K; simp only [Act.put, List.setIfInBounds_toArray, List.set_cons_zero, List.set_cons_succ])
                    | (refine wpL_yes rfl rfl ?_)
                    | (refine wpL_un rfl (fun K hK => ?_); simp only [Act.put, List.setIfInBounds_toArray, List.set_cons_zero, List.set_cons_succ]; refine hK _ _ ?_; clear hK K)
                    | (refine wpL_no rfl rfl (fun K hK => ?_); simp only [Act.put, List.setIfInBounds_toArray, List.set_cons_zero, List.set_cons_succ]; refine hK _ _ ?_; clear hK K)
                    | (refine wpL_nil ?_))
                  go_wp2_with fail
                  go_roundw
                  case rel => exact ⟨j + 1, j, by omega, by go_num, rfl, BJ.out, B7.out.drew⟩
                  case measure => simp [intOf]; omega
                · have q4 : decide (y < yi) = false := by simpa using hlt
                  have BJ := hid (BI.out.more HA.out HY.out hyi hlt)
                  clear hyi
                  clear haR
                  go_wp2
                  refine wp_region_x [0, 0, 1, 0, 0, 1, 2, 0, 0, 0, 0, 1, 0, 0, 0, 0, 0, 0, 0, 0, 0, 1, 0, 0, 0, 1, 0, 0, 0] [0, 1, 2, 3, 4, 5, 6, 7, 8, 9, 10, 11, 12, 13, 14, 15, 16, 17, 18, 19, 20, 21, 22, 23, 24, 25, 26, 27, 28] (by kernel_rfl) (by kernel_rfl) rfl (by kernel_rfl) ?_
                  simp only [selX, guardAt, List.getElem?_cons_zero, List.getElem?_cons_succ, List.getD_cons_zero, List.getD_cons_succ, Option.bind_some]
                  repeat (first
                    | (refine wpL_p (fun K hK => ?_); go_simp; refine hK _ _ ?_; clear hK K)
                    | (refine wpL_r (fun K hK => ?_); apply Exists.intro; refine ⟨fun w2 hw2 => ?_, hK _ _ ?_⟩; (have hk1 := hw2.cell; have hk3 := hw2.heap; clear hw2; go_simp; with_reducible rfl); clear hK K; simp only [Act.put, List.setIfInBounds_toArray, List.set_cons_zero, List.set_cons_succ])
                    | (refine wpL_yes rfl rfl ?_)
                    | (refine wpL_un rfl (fun K hK => ?_); simp only [Act.put, List.setIfInBounds_toArray, List.set_cons_zero, List.set_cons_succ]; refine hK _ _ ?_; clear hK K)
                    | (refine wpL_no rfl rfl (fun K hK => ?_); simp only [Act.put, List.setIfInBounds_toArray, List.set_cons_zero, List.set_cons_succ]; refine hK _ _ ?_; clear hK K)
                    | (refine wpL_nil ?_))
                  refine wpL_e (fun K hK => ?_)
                  go_simp
                  refine (rg_in (l := R) (show LI wr.drew _ R from L7.out) a).mono ?_
                  rintro e w8 ⟨rfl, rfl⟩
                  refine hK _ _ ?_
                  clear hK K
                  rw [q1]
                  repeat (first
                    | (refine wpL_p (fun K hK => ?_); go_simp; refine hK _ _ ?_; clear hK K)
                    | (refine wpL_r (fun K hK => ?_); apply Exists.intro; refine ⟨fun w2 hw2 => ?_, hK _ _ ?_⟩; (have hk1 := hw2.cell; have hk3 := hw2.heap; clear hw2; go_simp; with_reducible rfl); clear hK K; simp only [Act.put, List.setIfInBounds_toArray, List.set_cons_zero, List.set_cons_succ])
                    | (refine wpL_yes rfl rfl ?_)
                    | (refine wpL_un rfl (fun K hK => ?_); simp only [Act.put, List.setIfInBounds_toArray, List.set_cons_zero, List.set_cons_succ]; refine hK _ _ ?_; clear hK K)
                    | (refine wpL_no rfl rfl (fun K hK => ?_); simp only [Act.put, List.setIfInBounds_toArray, List.set_cons_zero, List.set_cons_succ]; refine hK _ _ ?_; clear hK K)
                    | (refine wpL_nil ?_))
                  go_wp2_with fail
                  go_roundw
                  case rel => exact ⟨j + 1, i, by omega, by go_num, rfl, BJ.out, B7.out.drew⟩
                  case measure => simp [intOf]; omega
            · have q2' : decide (y ≥ 0) = false := by simpa using hy0
              have q2 : decide (0 ≤ y) = false := by simpa using hy0
              have BJ := hid (BI.out.skip HA.out HY.out fun _ => by omega)
              clear hbf
              clear haR
              go_wp2
              refine wp_region_x [0, 0, 1, 0, 0, 1, 2, 0, 0, 0, 0, 1, 0, 0, 0, 0, 0, 0, 0, 0, 0, 1, 0, 0, 0, 1, 0, 0, 0] [0, 1, 2, 3, 4, 5, 6, 7, 8, 9, 10, 11, 12, 13, 14, 15, 16, 17, 18, 19, 20, 21, 22, 23, 24, 25, 26, 27, 28] (by kernel_rfl) (by kernel_rfl) rfl (by kernel_rfl) ?_
              simp only [selX, guardAt, List.getElem?_cons_zero, List.getElem?_cons_succ, List.getD_cons_zero, List.getD_cons_succ, Option.bind_some]
              repeat (first
                | (refine wpL_p (fun K hK => ?_); go_simp; refine hK _ _ ?_; clear hK K)
                | (refine wpL_r (fun K hK => ?_); apply Exists.intro; refine ⟨fun w2 hw2 => ?_, hK _ _ ?_⟩; (have hk1 := hw2.cell; have hk3 := hw2.heap; clear hw2; go_simp; with_reducible rfl); clear hK K; simp only [Act.put, List.setIfInBounds_toArray, List.set_cons_zero, List.set_cons_succ])
                | (refine wpL_yes rfl rfl ?_)
                | (refine wpL_un rfl (fun K hK => ?_); simp only [Act.put, List.setIfInBounds_toArray, List.set_cons_zero, List.set_cons_succ]; refine hK _ _ ?_; clear hK K)
                | (refine wpL_no rfl rfl (fun K hK => ?_); simp only [Act.put, List.setIfInBounds_toArray, List.set_cons_zero, List.set_cons_succ]; refine hK _ _ ?_; clear hK K)
                | (refine wpL_nil ?_))
              refine wpL_e (fun K hK => ?_)
              go_simp
              refine (rg_in (l := R) (show LI wr.drew _ R from L7.out) a).mono ?_
              rintro e w8 ⟨rfl, rfl⟩
              refine hK _ _ ?_
              clear hK K
              rw [q1]
              repeat (first
                | (refine wpL_p (fun K hK => ?_); go_simp; refine hK _ _ ?_; clear hK K)
                | (refine wpL_r (fun K hK => ?_); apply Exists.intro; refine ⟨fun w2 hw2 => ?_, hK _ _ ?_⟩; (have hk1 := hw2.cell; have hk3 := hw2.heap; clear hw2; go_simp; with_reducible rfl); clear hK K; simp only [Act.put, List.setIfInBounds_toArray, List.set_cons_zero, List.set_cons_succ])
                | (refine wpL_yes rfl rfl ?_)
                | (refine wpL_un rfl (fun K hK => ?_); simp only [Act.put, List.setIfInBounds_toArray, List.set_cons_zero, List.set_cons_succ]; refine hK _ _ ?_; clear hK K)
                | (refine wpL_no rfl rfl (fun K hK => ?_); simp only [Act.put, List.setIfInBounds_toArray, List.set_cons_zero, List.set_cons_succ]; refine hK _ _ ?_; clear hK K)
                | (refine wpL_nil ?_))
              go_wp2_with fail
              go_roundw
              case rel => exact ⟨j + 1, z, by omega, by go_num, rfl, BJ.out, B7.out.drew⟩
              case measure => simp [intOf]; omega
          · have q1 : decide (a ∈ R) = false := by simpa using haR
            have BJ := hid (BI.out.skip HA.out HY.out fun h => absurd h haR)
            clear hbf
            clear haR
            go_wp2
            refine wp_region_x [0, 0, 1, 0, 0, 1, 2, 0, 0, 0, 0, 1, 0, 0, 0, 0, 0, 0, 0, 0, 0, 1, 0, 0, 0, 1, 0, 0, 0] [0, 1, 2, 3, 4, 5, 6, 7, 8, 9, 10, 11, 12, 13, 14, 15, 16, 17, 18, 19, 20, 21, 22, 23, 24, 25, 26, 27, 28] (by kernel_rfl) (by kernel_rfl) rfl (by kernel_rfl) ?_
            simp only [selX, guardAt, List.getElem?_cons_zero, List.getElem?_cons_succ, List.getD_cons_zero, List.getD_cons_succ, Option.bind_some]
            repeat (first
              | (refine wpL_p (fun K hK => ?_); go_simp; refine hK _ _ ?_; clear hK K)
              | (refine wpL_r (fun K hK => ?_); apply Exists.intro; refine ⟨fun w2 hw2 => ?_, hK _ _ ?_⟩; (have hk1 := hw2.cell; have hk3 := hw2.heap; clear hw2; go_simp; with_reducible rfl); clear hK K; simp only [Act.put, List.setIfInBounds_toArray, List.set_cons_zero, List.set_cons_succ])
              | (refine wpL_yes rfl rfl ?_)
              | (refine wpL_un rfl (fun K hK => ?_); simp only [Act.put, List.setIfInBounds_toArray, List.set_cons_zero, List.set_cons_succ]; refine hK _ _ ?_; clear hK K)
              | (refine wpL_no rfl rfl (fun K hK => ?_); simp only [Act.put, List.setIfInBounds_toArray, List.set_cons_zero, List.set_cons_succ]; refine hK _ _ ?_; clear hK K)
              | (refine wpL_nil ?_))
            refine wpL_e (fun K hK => ?_)
            go_simp
            refine (rg_in (l := R) (show LI wr.drew _ R from L7.out) a).mono ?_
            rintro e w8 ⟨rfl, rfl⟩
            refine hK _ _ ?_
            clear hK K
            rw [q1]
            repeat (first
              | (refine wpL_p (fun K hK => ?_); go_simp; refine hK _ _ ?_; clear hK K)
              | (refine wpL_r (fun K hK => ?_); apply Exists.intro; refine ⟨fun w2 hw2 => ?_, hK _ _ ?_⟩; (have hk1 := hw2.cell; have hk3 := hw2.heap; clear hw2; go_simp; with_reducible rfl); clear hK K; simp only [Act.put, List.setIfInBounds_toArray, List.set_cons_zero, List.set_cons_succ])
              | (refine wpL_yes rfl rfl ?_)
              | (refine wpL_un rfl (fun K hK => ?_); simp only [Act.put, List.setIfInBounds_toArray, List.set_cons_zero, List.set_cons_succ]; refine hK _ _ ?_; clear hK K)
              | (refine wpL_no rfl rfl (fun K hK => ?_); simp only [Act.put, List.setIfInBounds_toArray, List.set_cons_zero, List.set_cons_succ]; refine hK _ _ ?_; clear hK K)
              | (refine wpL_nil ?_))
            go_wp2_with fail
            go_roundw
            case rel => exact ⟨j + 1, z, by omega, by go_num, rfl, BJ.out, B7.out.drew⟩
            case measure => simp [intOf]; omega
        · obtain rfl : j = n := by omega
          have B8 := hid (B6.out.trans (B7.out.mono z6))
          have z8 := B8.out.size
          by_cases hq : q = 1
          · subst hq
            obtain ⟨i, rfl, hi, his⟩ := best_one (show BestIs N D R N.length z by rw [HN.out]; exact BI.out) HF.out HRW.out HDX.out HSN.out
            obtain ⟨b, off, a, rfl, hb, ha, c1⟩ := S7.out.ints (show i < j by rw [← HN.out]; exact hi) HN.out
            rw [his] at ha
            obtain rfl := Option.some.inj ha
            have q3 : decide ((i : Int) < 0) = false := by simp
            have q4 : (s == s) = true := by simp
            have hic : i < j := by rw [← HN.out]; exact hi
            clear ha his hi hbf
            go_wp2
            go_ret
            refine ⟨_, s :: l, rfl, (by have := (O6.out.below B7.out).sl; exact this), .inr ⟨s, mm, l, HSN.out, HSL.out, HMD.out, by have := HCH.out [] rfl; rwa [List.append_nil] at this, rfl⟩, B1.out.trans ((B3.out.trans (B8.out.mono z3)).mono (by omega))⟩
          · obtain ⟨q', rfl⟩ : ∃ q', q = q' + 1 := ⟨q - 1, by omega⟩
            have hq1' : 1 ≤ q' := by omega
            have hq' : q' ≤ gk - 1 := by omega
            have z9 : w3.heap.size ≤ wr.heap.size := by omega
            have hnl9 : (s :: l).length ≤ 900000 := by rw [HNC.out]; omega
            obtain ⟨i, a, rfl, hi, his, hxa, has, hda, hmin⟩ := best_more (q := q') (show BestIs N D R N.length z by rw [HN.out]; exact BI.out) HF.out HRW.out HDX.out hq1' HOK.out.srtN HP2.out
            obtain ⟨b, off, a', rfl, hb, ha, c1⟩ := S7.out.ints (show i < j by rw [← HN.out]; exact hi) HN.out
            rw [his] at ha
            obtain rfl := Option.some.inj ha
            have q3 : decide ((i : Int) < 0) = false := by simp
            have q4 : (a == s) = false := by simpa using has
            have hic : i < j := by rw [← HN.out]; exact hi
            have HDA := hid hda
            have HAN := hid (List.mem_of_getElem? his)
            have HCH2 := hid (fun r (hr : Chain (prs E) s q' a r) => (by
              have := HCH.out (a :: r) (Chain.step hq1' hxa has hda hmin hr)
              simpa using this : Chain (prs E) s mm s ((l ++ [a]) ++ r)))
            have O7 := hid (OwnF.below O6.out B7.out)
            clear ha his hi hbf hxa has hda hmin
            go_wp2_with (at_builtin; refine wpList_appF rfl _ _ _ rfl _ 8 Try.underlying23 infoI rfl O7.out a z9 (by rfl) (by rfl) (by first | rfl | simp) rfl (in_one _) (by first | omega | (simp only [List.length_append, List.length_cons, List.length_nil, List.length_replicate]; omega)) (by first | omega | (simp only [List.length_append, List.length_cons, List.length_nil, List.length_replicate]; omega)) ?_; refine Stop.halt ?_)
            refine Stop.go ?_
            intro gn cn2 wn hn2 Gn
            have O8 := hid hn2
            have B9 := hid (B8.out.trans (Gn.below z9 fun k h => (O7.out.lt k h).1))
            clear hn2 Gn
            go_wp2_with fail
            go_roundg (gk - 1)
            case measure => omega
            case rel => exact ⟨q', l ++ [a], a, hq1', hq', by go_num, HAN.out, HDA.out, HCH2.out, by have := HLQ.out; simp; omega, by simpa using O8.out, B9.out⟩
end

/-- A list of numbers, and a list of lists; none of them in the first one's block, nor in u's. -/
structure PS (w : World) (B : Nat) (v4 v3 : Value) (d : List Int) (vs : List Value) (Q : List (List Int)) : Prop where
  d : OwnI w B v4 d
  own : OwnV w B v3 vs
  len : vs.length = Q.length
  at' : ∀ (i : Nat) (u : Value) (l : List Int), vs[i]? = some u → Q[i]? = some l → OwnI w B u l ∧ ∀ k, u.ownBlock = some k → v4.ownBlock ≠ some k
structure Apt (v4 : Value) (vs : List Value) (vp : Value) : Prop where
  d : ∀ k, v4.ownBlock = some k → vp.ownBlock ≠ some k
  l : ∀ u ∈ vs, ∀ k, u.ownBlock = some k → vp.ownBlock ≠ some k
section
variable {w w' : World} {B : Nat} {v4 v3 v4' v3' vp vp' : Value} {d p : List Int} {vs : List Value} {Q : List (List Int)} {x : Int}
theorem PS.below (h : PS w B v4 v3 d vs Q) (hb : Below w.heap.size w w') : PS w' B v4 v3 d vs Q :=
  ⟨OwnF.below h.d hb, OwnF.below h.own hb, h.len, fun i u l hu hl => ⟨OwnF.below (h.at' i u l hu hl).1 hb, (h.at' i u l hu hl).2⟩⟩
theorem PS.at'' (h : PS w B v4 v3 d vs Q) {i : Nat} {u : Value} (hu : vs[i]? = some u) : ∃ l, Q[i]? = some l ∧ OwnI w B u l := by
  have hi := (List.getElem?_eq_some_iff.1 hu).1
  exact ⟨Q[i]'(by rw [← h.len]; exact hi), List.getElem?_eq_getElem _, (h.at' i u _ hu (List.getElem?_eq_getElem _)).1⟩
/-- The part grows. -/
theorem PS.grwP (h : PS w B v4 v3 d vs Q) (ho : OwnI w B vp p) (ha : Apt v4 vs vp) (hg : Grw w w' vp vp') : PS w' B v4 v3 d vs Q ∧ Apt v4 vs vp' := by
  refine ⟨⟨OwnF.grw h.d hg ha.d, OwnF.grwT h.own ho (by decide) hg, h.len, fun i u l hu hl => ⟨OwnF.grw (h.at' i u l hu hl).1 hg (ha.l u (List.mem_of_getElem? hu)), (h.at' i u l hu hl).2⟩⟩, fun k hk e => ?_, fun u hu k hk e => ?_⟩
  · rcases hg.own k e with e | e
    · exact ha.d k hk e
    · have := (h.d.lt k hk).2; omega
  · rcases hg.own k e with e | e
    · exact ha.l u hu k hk e
    · obtain ⟨i, hi⟩ := List.mem_iff_getElem?.1 hu
      obtain ⟨l, -, hl⟩ := h.at'' hi
      have := (hl.lt k hk).2; omega
/-- The first list grows. -/
theorem PS.grwD (h : PS w B v4 v3 d vs Q) (hp : OwnI w B vp p) (ha : Apt v4 vs vp) (hg : Grw w w' v4 v4') {d' : List Int} (hd : OwnI w' B v4' d') : PS w' B v4' v3 d' vs Q ∧ Apt v4' vs vp ∧ OwnI w' B vp p := by
  refine ⟨⟨hd, OwnF.grwT h.own h.d (by decide) hg, h.len, fun i u l hu hl => ⟨OwnF.grw (h.at' i u l hu hl).1 hg (h.at' i u l hu hl).2, fun k hk e => ?_⟩⟩, ⟨fun k hk e => ?_, ha.l⟩, OwnF.grw hp hg fun k hk e => ha.d k e hk⟩
  · rcases hg.own k e with e | e
    · exact (h.at' i u l hu hl).2 k hk e
    · have := ((h.at' i u l hu hl).1.lt k hk).2; omega
  · rcases hg.own k hk with e2 | e2
    · exact ha.d k e2 e
    · have := (hp.lt k e).2; omega
/-- The part is put down. -/
theorem PS.push (h : PS w B v4 v3 d vs Q) (hp : OwnI w B vp p) (ha : Apt v4 vs vp) (hg : Grw w w' v3 v3') (ho : OwnV w' B v3' (vs ++ [vp])) : PS w' B v4 v3' d (vs ++ [vp]) (Q ++ [p]) := by
  refine ⟨OwnF.grwT h.d h.own (by decide) hg, ho, by simp [h.len], fun i u l hu hl => ?_⟩
  rcases Nat.lt_trichotomy i vs.length with hi | hi | hi
  · rw [List.getElem?_append_left hi] at hu
    rw [List.getElem?_append_left (by rw [← h.len]; exact hi)] at hl
    obtain ⟨h1, h2⟩ := h.at' i u l hu hl
    exact ⟨OwnF.grwT h1 h.own (by decide) hg, h2⟩
  · subst hi
    rw [List.getElem?_append_right (Nat.le_refl _)] at hu
    rw [h.len, List.getElem?_append_right (Nat.le_refl _)] at hl
    simp at hu hl
    subst hu hl
    exact ⟨OwnF.grwT hp h.own (by decide) hg, fun k hk e => ha.d k e hk⟩
  · rw [List.getElem?_eq_none (by simp; omega)] at hu
    cases hu
theorem PS.base {B' : Nat} (h : PS w B v4 v3 d vs Q) (hB : B' ≤ B) : PS w B' v4 v3 d vs Q := ⟨OwnF.base h.d hB, OwnF.base h.own hB, h.len, fun i u l hu hl => ⟨OwnF.base (h.at' i u l hu hl).1 hB, (h.at' i u l hu hl).2⟩⟩
theorem PS.nil (w : World) (B : Nat) : PS w B (.slice none 0 0) (.slice none 0 0) [] [] [] := ⟨OwnF.nil _ _, OwnF.nil _ _, rfl, fun i u l h => by simp at h⟩
/-- A list that is new stands apart. -/
theorem Apt.new (h : PS w B v4 v3 d vs Q) {g n c : Nat} (hg : w.heap.size ≤ g) : Apt v4 vs (.slice (some ⟨g, 0, none⟩) n c) := by
  refine ⟨fun k hk e => ?_, fun u hu k hk e => ?_⟩
  · simp only [Value.ownBlock, Option.some.injEq] at e
    have := (h.d.lt k hk).2; omega
  · simp only [Value.ownBlock, Option.some.injEq] at e
    obtain ⟨i, hi⟩ := List.mem_iff_getElem?.1 hu
    obtain ⟨l, -, hl⟩ := h.at'' hi
    have := (hl.lt k hk).2; omega
end
/-- A part, as far as k nodes have been looked at. -/
theorem part_head {P : List Pr} {N : List Int} {j : Nat} {a : Int} (ha : N[j]? = some a) (hno : ∀ x ∈ N.take j, ¬ Mut P a x) : partOf P (N.take (j + 1)) a = [a] := by
  rw [partOf_yes ha (Mut.refl P a)]
  have : partOf P (N.take j) a = [] := by
    refine List.eq_nil_iff_forall_not_mem.2 fun x hx => ?_
    obtain ⟨h1, h2⟩ := mem_partOf.1 hx
    exact hno x h1 h2
  rw [this]; rfl
theorem part_le {P : List Pr} {N : List Int} {a : Int} (k : Nat) : (partOf P (N.take k) a).length ≤ N.length := by
  unfold partOf
  refine Nat.le_trans (List.length_filter_le _ _) ?_
  rw [List.length_take]
  omega
section
variable {w : World} {vn ve : Value} {N : List Int} {E : List Tr}
theorem rg_reachO (h : RG w vn ve N E) (hE : E.length ≤ 900000) (a : Int) : Calls Try.prog 66 #[.agg #[vn, ve], .int .i64 a] w fun e w' => ∃ v R, e = .returned v ∧ OwnI w' w.heap.size v R ∧ IsReach (prs E) a R ∧ Below w.heap.size w w' := by
  obtain ⟨al, cl, rfl, -⟩ := Sl.ex h.n
  obtain ⟨ae, ce, rfl, -⟩ := Sl.ex h.e
  have hP : (prs E).length ≤ 900000 := Nat.le_trans (length_prs E) hE
  have B1 := hid ((Below.refl w.heap.size w).alloc (Nat.le_refl _) (.cells #[.slice al N.length cl, .slice ae E.length ce] 63))
  have H1 := hid (h.below B1.out)
  clear h
  go_enter Try.func66, Try.ntmps66
  go_wp2_with fail
  refine (rg_pairs (vn := .slice al N.length cl) H1.out.e hE).mono ?_
  rintro e w2 ⟨v2, rfl, h2, b2⟩
  obtain ⟨a2, c2, rfl, -⟩ := Sl.ex h2
  have H2 := hid h2
  have B2 := hid (B1.out.trans (b2.mono (by simp)))
  clear h2 b2
  go_wp2_with fail
  refine (ref_reach (v := .slice a2 (prs E).length c2) H2.out (by omega) a).mono ?_
  rintro e w3 ⟨v3, R, rfl, h3, hr, b3⟩
  have H3 := hid (h3.base B2.out.size)
  have HR := hid hr
  have B3 := hid (B2.out.trans (b3.mono B2.out.size))
  clear h3 b3 hr
  go_wp2
  go_ret
  exact ⟨_, R, rfl, H3.out, HR.out, B3.out⟩
set_option maxRecDepth 100000 in
set_option maxHeartbeats 4000000 in
theorem rg_parts (h : RG w vn ve N E) (hok : GrOk N E) (hN : N.length ≤ 900000) (hE : E.length ≤ 900000) : Calls Try.prog 69 #[.agg #[vn, ve]] w fun e w' =>
    ∃ v4 v d vs, e = .returned v ∧ PS w' w.heap.size v4 v d vs (partsF (prs E) N) ∧ Below w.heap.size w w' := by
  obtain ⟨an, cn, n, rfl, hn, hnm, h1⟩ := h.n.open
  obtain ⟨ae, ce, m, rfl, hm, hmm, h2⟩ := h.e.open
  have HN := hid hn
  have HM := hid hm
  have hn9 : n ≤ 900000 := by omega
  have HOK := hid hok
  have B1 := hid ((Below.refl w.heap.size w).alloc (Nat.le_refl _) (.cells #[.slice an n cn, .slice ae m ce] 63))
  have R1 := hid (row_new w (.cells #[.slice an n cn, .slice ae m ce] 63))
  have S1 := hid (h1.alloc (Nat.le_refl _) (.cells #[.slice an n cn, .slice ae m ce] 63))
  have HG := hid (h.below B1.out)
  have hN2 := hN
  clear h h1 h2 hn hm hok
  go_enter Try.func69, Try.ntmps69
  go_wp2_with fail
  obtain ⟨w1, hw1⟩ : ∃ w1, w1 = w.alloc (.cells #[.slice an n cn, .slice ae m ce] 63) := ⟨_, rfl⟩
  have z1 : w.heap.size + 1 ≤ w1.heap.size := by rw [hw1, World.size_alloc]; exact Nat.le_refl _
  rw [← hw1] at B1 R1 S1 HG ⊢
  clear hw1
  go_loopw [3, 4, 5] (fun v3 v4 i wr => ∃ (j : Nat) (d : List Int) (vs : List Value) (Q : List (List Int)), j ≤ n ∧ i = .int .i64 j ∧ PInv (prs E) N j Q d ∧ d.length ≤ j * n ∧ PS wr w1.heap.size v4 v3 d vs Q ∧ Below w1.heap.size w1 wr) (fun _ _ i _ => n - (intOf i).toNat)
  case atStart => exact ⟨0, [], [], [], by omega, by go_num, PInv.start _ _, by simp, PS.nil _ _, Below.refl _ _⟩
  case round =>
    obtain ⟨j, d, vs, Q, hj, rfl, hP, hdl, hS, hB⟩ := hrel
    obtain ⟨a4, c4, rfl, hm4⟩ := hS.d.sl.ex
    obtain ⟨a3, c3, rfl, hm3⟩ := hS.own.sl.ex
    have PI := hid hP
    have P5 := hid hS
    have B5 := hid hB
    have z5 := hB.size
    have HDL := hid hdl
    have hdb : d.length ≤ 900000 * 900000 := Nat.le_trans hdl (Nat.mul_le_mul (by omega) hn9)
    have d0 : wr.cell? ⟨w.heap.size, 0, none⟩ = some (.slice an n cn) := row_cell (row_below R1.out hB (by omega)) 0
    have d1 : wr.cell? ⟨w.heap.size, 1, none⟩ = some (.slice ae m ce) := row_cell (row_below R1.out hB (by omega)) 1
    clear hP hS hB hdl
    by_cases hjn : j < n
    · obtain ⟨b, off, a, rfl, hb, ha, c1⟩ := (S1.out.below (B5.out.mono (by omega))).ints hjn HN.out
      have HA := hid ha
      have L5 := hid (show LI wr (.slice a4 d.length c4) d from P5.out.d.sl)
      clear ha
      generalize hdn : d.length = dn at *
      have HDN := hid hdn
      clear hdn
      go_wp2_with fail
      refine (rg_in L5.out a).mono ?_
      rintro e w6 ⟨rfl, rfl⟩
      by_cases had : a ∈ d
      · have q1 : decide (a ∈ d) = true := by simpa using had
        have PI2 := hid (PI.out.skip HA.out had)
        rw [q1]
        go_wp2_with fail
        go_roundw
        case rel => exact ⟨j + 1, d, vs, Q, by omega, by go_num, PI2.out, by rw [HDN.out, Nat.add_mul]; have := HDL.out; omega, P5.out, B5.out⟩
        case measure => simp [intOf]; omega
      · have q1 : decide (a ∈ d) = false := by simpa using had
        have HNO := hid (PI.out.ahead HA.out had)
        have HAD := hid had
        have B6 := hid (B5.out.alloc z5 (.cells #[.int .i64 a] 3))
        have P6 := hid (P5.out.below ((Below.refl wr.heap.size wr).alloc (Nat.le_refl _) (.cells #[.int .i64 a] 3)))
        have PT := hid (OwnF.lit (f := intC) (e := 3) (sz := 1) wr w1.heap.size z5 [a] intC_len (by simp))
        have AP := hid (Apt.new (n := 1) (c := 1) P5.out (Nat.le_refl _))
        have HG6 := hid (HG.out.below (B6.out.mono (Nat.le_refl _)))
        have d2 : (wr.alloc (.cells #[.int .i64 a] 3)).cell? ⟨w.heap.size, 0, none⟩ = some (.slice (some ⟨b, off, none⟩) n cn) := row_cell (row_below R1.out B6.out (by omega)) 0
        have d3 : (wr.alloc (.cells #[.int .i64 a] 3)).cell? ⟨w.heap.size, 1, none⟩ = some (.slice ae m ce) := row_cell (row_below R1.out B6.out (by omega)) 1
        clear P5 B5 had L5
        rw [q1]
        go_wp2_with fail
        obtain ⟨w6, hw6⟩ : ∃ w6, w6 = wr.alloc (.cells #[.int .i64 a] 3) := ⟨_, rfl⟩
        have z6 : wr.heap.size < w6.heap.size := by rw [hw6, World.size_alloc]; omega
        rw [← hw6] at B6 P6 HG6 ⊢
        have PT6 := hid (show OwnI w6 w1.heap.size (.slice (some ⟨wr.heap.size, 0, none⟩) 1 1) [a] by rw [hw6]; exact PT.out)
        clear hw6 PT d2 d3 d0 d1 c1
        refine (rg_reachO HG6.out hE a).mono ?_
        rintro e w7 ⟨v7, R, rfl, h7, hr7, b7⟩
        obtain ⟨a7, c7, rfl, hm7⟩ := h7.sl.ex
        have R7 := hid h7
        have HR := hid hr7.2
        have B7 := hid (B6.out.trans (b7.mono (by omega)))
        have z7 : w1.heap.size ≤ w7.heap.size := B7.out.size
        have P7 := hid (P6.out.below b7)
        have PT7 := hid (OwnF.below PT6.out b7)
        have NE7 := hid (fun k (hk : (Value.slice a7 R.length c7).ownBlock = some k) => (by
          have := (h7.lt k hk).1
          simp only [Value.ownBlock, ne_eq, Option.some.injEq]
          omega : (Value.slice (some ⟨wr.heap.size, 0, none⟩) 1 1).ownBlock ≠ some k))
        have PH := hid (part_head HA.out HNO.out)
        clear h7 hr7 b7 P6 PT6 B6 HG6
        generalize hrn : R.length = rn at *
        have HRN := hid hrn
        clear hrn
        go_wp2_with fail
        go_loopw [7, 9] (fun vp k wq => ∃ u : Nat, j + 1 ≤ u ∧ u ≤ n ∧ k = .int .i64 u ∧ PS wq w1.heap.size (.slice a4 dn c4) (.slice a3 vs.length c3) d vs Q ∧ Apt (.slice a4 dn c4) vs vp ∧ OwnI wq w1.heap.size vp (partOf (prs E) (N.take u) a) ∧ OwnI wq w1.heap.size (.slice a7 rn c7) R ∧ (∀ k, (Value.slice a7 rn c7).ownBlock = some k → vp.ownBlock ≠ some k) ∧ Below w1.heap.size w1 wq) (fun _ k _ => n - (intOf k).toNat)
        case atStart => exact ⟨j + 1, Nat.le_refl _, by omega, by go_num, P7.out, AP.out, by rw [PH.out]; exact PT7.out, R7.out.base (by omega), NE7.out, B7.out⟩
        case round =>
          obtain ⟨u, hju, hu, rfl, hP, hA, hO, hR2, hNE, hB⟩ := hrel
          obtain ⟨av, cv, rfl, hmv⟩ := hO.sl.ex
          have P8 := hid hP
          have A8 := hid hA
          have O8 := hid hO
          have R8 := hid hR2
          have NE8 := hid hNE
          have B8 := hid hB
          have z8 := hB.size
          have hpl := part_le (P := prs E) (N := N) (a := a) u
          have hpl9 : (partOf (prs E) (N.take u) a).length ≤ 900000 := by omega
          have d0 : wr.cell? ⟨w.heap.size, 0, none⟩ = some (.slice (some ⟨b, off, none⟩) n cn) := row_cell (row_below R1.out hB (by omega)) 0
          have d1 : wr.cell? ⟨w.heap.size, 1, none⟩ = some (.slice ae m ce) := row_cell (row_below R1.out hB (by omega)) 1
          clear hP hA hO hR2 hNE hB P7 AP PT7 R7 NE7 B7 hpl
          by_cases hun : u < n
          · obtain ⟨b', off', y, e0, hb', hy, c1⟩ := (S1.out.below (B8.out.mono (by omega))).ints hun HN.out
            simp only [Option.some.injEq, Addr.mk.injEq, and_true] at e0
            obtain ⟨rfl, rfl⟩ := e0
            have HY := hid hy
            have hay : a ≠ y := by
              have h1 := (List.getElem?_eq_some_iff.1 HA.out)
              have h2 := (List.getElem?_eq_some_iff.1 hy)
              obtain ⟨g1, g2⟩ := h1
              obtain ⟨g3, g4⟩ := h2
              have := List.pairwise_iff_getElem.1 HOK.out.srtN j u g1 g3 (by omega)
              rw [g2, g4] at this
              omega
            have L8 := hid (show LI wr (.slice a7 rn c7) R from by have := R8.out.sl; exact this)
            have HG8 := hid (HG.out.below (B8.out.mono (Nat.le_refl _)))
            clear hy
            by_cases hyR : y ∈ R
            · have q2 : decide (y ∈ R) = true := by simpa using hyR
              have HYR := hid hyR
              clear hyR
              go_wp2_with fail
              refine (rg_in L8.out y).mono ?_
              rintro e w9 ⟨rfl, rfl⟩
              rw [q2]
              go_wp2_with fail
              refine (rg_reachO HG8.out hE y).mono ?_
              rintro e w9 ⟨v9, R', rfl, h9, hr9, b9⟩
              obtain ⟨a9, c9, rfl, hm9⟩ := h9.sl.ex
              have L9 := hid (show LI w9 (.slice a9 R'.length c9) R' from h9.sl)
              have HR9 := hid hr9.2
              have B9 := hid (B8.out.trans (b9.mono z8))
              have z9 : w1.heap.size ≤ w9.heap.size := B9.out.size
              have P9 := hid (P8.out.below b9)
              have O9 := hid (OwnF.below O8.out b9)
              have R9 := hid (OwnF.below R8.out b9)
              clear h9 hr9 b9 P8 O8 R8 B8 L8 HG8 d0 d1 c1
              generalize R'.length = rn' at *
              by_cases haR : a ∈ R'
              · have q3 : decide (a ∈ R') = true := by simpa using haR
                have HP9 := hid (partOf_yes (P := prs E) HY.out (.inr ⟨(HR.out y).1 HYR.out, (HR9.out a).1 haR⟩ : Mut (prs E) a y))
                clear haR
                go_wp2_with fail
                refine (rg_in L9.out a).mono ?_
                rintro e wB ⟨rfl, rfl⟩
                rw [q3]
                generalize partOf (prs E) (N.take u) a = pt at *
                go_wp2_with (at_builtin; refine wpList_appF rfl _ _ _ rfl _ 8 Try.underlying23 infoI rfl O9.out y z9 (by rfl) (by rfl) (by first | rfl | simp) rfl (in_one _) (by first | omega | (simp only [List.length_append, List.length_cons, List.length_nil, List.length_replicate]; omega)) (by first | omega | (simp only [List.length_append, List.length_cons, List.length_nil, List.length_replicate]; omega)) ?_; refine Stop.halt ?_)
                refine Stop.go ?_
                intro gn cn2 wn hn2 Gn
                have PA := hid (P9.out.grwP O9.out A8.out Gn)
                have OA := hid hn2
                have RA := hid (OwnF.grw R9.out Gn NE8.out)
                have NA := hid (fun k (hk : (Value.slice a7 rn c7).ownBlock = some k) => (fun e => by
                  rcases Gn.own k e with e2 | e2
                  · exact NE8.out k hk e2
                  · have := (R9.out.lt k hk).2; omega : (Value.slice (some ⟨gn, 0, none⟩) (pt.length + 1) cn2).ownBlock ≠ some k))
                have BA := hid (B9.out.trans (Gn.below z9 fun k h => (O9.out.lt k h).1))
                clear hn2 Gn
                go_wp2_with fail
                go_roundw
                case rel => exact ⟨u + 1, by omega, by omega, by go_num, PA.out.1, PA.out.2, by rw [HP9.out]; exact OA.out, RA.out, NA.out, BA.out⟩
                case measure => simp [intOf]; omega
              · have q3 : decide (a ∈ R') = false := by simpa using haR
                have HP9 := hid (partOf_no (P := prs E) (a := a) HY.out (fun h => by
                  rcases h with h | h
                  · exact hay h
                  · exact haR ((HR9.out a).2 h.2)))
                clear haR
                go_wp2_with fail
                refine (rg_in L9.out a).mono ?_
                rintro e wB ⟨rfl, rfl⟩
                rw [q3]
                go_wp2_with fail
                go_roundw
                case rel => exact ⟨u + 1, by omega, by omega, by go_num, P9.out, A8.out, by rw [HP9.out]; exact O9.out, R9.out, NE8.out, B9.out⟩
                case measure => simp [intOf]; omega
            · have q2 : decide (y ∈ R) = false := by simpa using hyR
              have HP9 := hid (partOf_no (P := prs E) (a := a) HY.out (fun h => by
                  rcases h with h | h
                  · exact hay h
                  · exact hyR ((HR.out y).2 h.1)))
              clear hyR
              go_wp2_with fail
              refine (rg_in L8.out y).mono ?_
              rintro e wB ⟨rfl, rfl⟩
              rw [q2]
              go_wp2_with fail
              go_roundw
              case rel => exact ⟨u + 1, by omega, by omega, by go_num, P8.out, A8.out, by rw [HP9.out]; exact O8.out, R8.out, NE8.out, B8.out⟩
              case measure => simp [intOf]; omega
          · obtain rfl : u = n := by omega
            have HPT := hid (show partOf (prs E) (N.take u) a = partOf (prs E) N a by rw [← HN.out, List.take_length])
            rw [HPT.out] at O8 hpl9 A8 ⊢
            have PI2 := hid (PI.out.step HA.out HAD.out (d' := d ++ partOf (prs E) N a) fun x => List.mem_append)
            have hpln : (partOf (prs E) N a).length ≤ u := by have h := part_le (P := prs E) (N := N) (a := a) N.length; rw [List.take_length, HN.out] at h; exact h
            generalize partOf (prs E) N a = pt at *
            generalize hptn : pt.length = pn at *
            have HPN := hid hptn
            clear hptn R8 NE8 HPT
            obtain ⟨W3, rfl⟩ : ∃ W3, W3 = wr := ⟨_, rfl⟩
            go_wp2_with fail
            go_loopw [4, 11] (fun vd k wq => ∃ (t : Nat) (d' : List Int), t ≤ pn ∧ k = .int .i64 t ∧ d' = d ++ pt.take t ∧ PS wq w1.heap.size vd (.slice a3 vs.length c3) d' vs Q ∧ Apt vd vs (.slice av pn cv) ∧ OwnI wq w1.heap.size (.slice av pn cv) pt ∧ Below w1.heap.size w1 wq) (fun _ k _ => pn - (intOf k).toNat)
            case atStart => exact ⟨0, d, by omega, by go_num, by simp, P8.out, A8.out, O8.out, B8.out⟩
            case round =>
              obtain ⟨t, d', ht, rfl, hd', hP, hA, hO, hB⟩ := hrel
              obtain ⟨a4', c4', rfl, hm4'⟩ := hP.d.sl.ex
              have P9 := hid hP
              have A9 := hid hA
              have O9 := hid hO
              have B9 := hid hB
              have z9 : w1.heap.size ≤ wr.heap.size := hB.size
              have HD9 := hid hd'
              have hdl9 : d'.length ≤ 900000 * 900000 + 900000 := by
                rw [hd', List.length_append, List.length_take, HDN.out]
                omega
              clear hP hA hO hB hd' P8 A8 O8 B8
              by_cases htp : t < pn
              · obtain ⟨g9, x, rfl, -, hg9, hx, c2⟩ := OwnI.at O9.out HPN.out htp
                have HX := hid hx
                have hf9 : g9 < wr.heap.size := hg9
                clear hx
                go_wp2_with (at_builtin; refine wpList_appF rfl _ _ _ rfl _ 8 Try.underlying23 infoI rfl P9.out.d x z9 (by rfl) (by rfl) (by first | rfl | simp) rfl (in_one _) (by first | omega | (simp only [List.length_append, List.length_cons, List.length_nil, List.length_replicate]; omega)) (by first | omega | (simp only [List.length_append, List.length_cons, List.length_nil, List.length_replicate]; omega)) ?_; refine Stop.halt ?_)
                refine Stop.go ?_
                intro gn cn2 wn hn2 Gn
                have PA := hid (P9.out.grwD O9.out A9.out Gn hn2)
                have BA := hid (B9.out.trans (Gn.below z9 fun k h => (P9.out.d.lt k h).1))
                clear hn2 Gn
                go_wp2_with fail
                go_roundw
                case rel => exact ⟨t + 1, d' ++ [x], by omega, by go_num, by rw [HD9.out, take_step HX.out, List.append_assoc], PA.out.1, PA.out.2.1, PA.out.2.2, BA.out⟩
                case measure => simp [intOf]; omega
              · obtain rfl : t = pn := by omega
                have HDE := hid (show d' = d ++ pt by rw [HD9.out, ← HPN.out, List.take_length])
                have hvl : vs.length ≤ 900000 := by rw [P9.out.len]; have := PI.out.len; omega
                have hd9 : d'.length ≤ (j + 1) * u := by
                  rw [HDE.out, List.length_append, HDN.out, HPN.out, Nat.add_mul]
                  have := HDL.out
                  omega
                have HD9' := hid hd9
                have q9 : dn + t ≤ 900000 * 900000 + 900000 := by omega
                clear hd9 hdl9 HD9
                go_wp2_with (at_builtin; refine wpList_appF rfl _ _ _ rfl _ 24 Try.underlying69 infoV rfl P9.out.own (Value.slice av t cv) z9 (by rfl) (by rfl) (by rfl) rfl (by intro u hu; simp [valC] at hu; subst hu; rfl) (by omega) (by omega) ?_; refine Stop.halt ?_)
                refine Stop.go ?_
                intro gn cn2 wn hn2 Gn
                have PA := hid (P9.out.push O9.out A9.out Gn hn2)
                have BA := hid (B9.out.trans (Gn.below z9 fun k h => (P9.out.own.lt k h).1))
                clear hn2 Gn
                go_wp2_with fail
                go_roundw
                case rel => exact ⟨j + 1, d', _, _, by omega, by go_num, by rw [HDE.out]; exact PI2.out, HD9'.out, PA.out, BA.out⟩
                case measure => simp [intOf]; omega
    · obtain rfl : j = n := by omega
      have HE := hid (PInv.done (show PInv (prs E) N N.length Q d by rw [HN.out]; exact PI.out))
      go_wp2
      go_ret
      refine ⟨.slice a4 d.length c4, _, d, vs, rfl, ?_, B1.out.trans (B5.out.mono (by omega))⟩
      rw [← HE.out]
      exact P5.out.base (by omega)
end
end Go.Proofs.Ytlmeblhcipkgmaa
